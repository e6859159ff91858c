/- The comparison of lists of integers, walked. Condition: lengths below the model's greatest. -/
import Derived.Test.YtmpcjhfhhphioaaIntsAt
import Derived.Test.YtmpcjhfhhphioaaRows
import Derived.Deep.QuietTactic
import Derived.BigQuiet
import Derived.Outline
namespace Go.Proofs.Ytmpcjhfhhphioaa
open Go Go.RowKit

theorem list_ext {a b : List Int} (hl : a.length = b.length) (h : ∀ j, j < a.length → elt a j = elt b j) : a = b := by
  refine List.ext_getElem hl (fun j h1 h2 => ?_)
  have e := h j h1
  unfold elt at e
  rw [List.getElem?_eq_getElem h1, List.getElem?_eq_getElem h2] at e
  exact e
theorem no_eq {a b : List Int} {k : Nat} (h : ¬ elt a k = elt b k) : decide (a = b) = false := decide_eq_false (fun e => h (by rw [e]))
theorem no_len {a b : List Int} (h : ¬ a.length = b.length) : decide (a = b) = false := decide_eq_false (fun e => h (by rw [e]))

set_option maxHeartbeats 1000000 in
theorem same_any (A B : Option Addr) (cA cB : Nat) (a b : List Int) (w : World) (hA : IntsAt w A a) (hB : IntsAt w B b) (ha : a.length ≤ maxLen) (hb : b.length ≤ maxLen) :
    Calls Try.prog 25 #[.slice A a.length cA, .slice B b.length cB] w fun e w' => e = .returned (.bool (decide (a = b))) ∧ Below w.heap.size w w' := by
  unfold maxLen at ha hb
  by_cases hl : a.length = b.length
  · have Hl := Lib.hid hl
    have hlb : ((a.length : Int) != (b.length : Int)) = false := by rw [hl]; simp
    have HA := Lib.hid hA
    have HB := Lib.hid hB
    clear hl hA hB
    go_enter Try.func25, Try.ntmps25
    go_wp2
    go_loopw [5] (fun i wr => ∃ k n : Nat, k ≤ a.length ∧ i = .int .i64 k ∧ wr = w.drewN n ∧ ∀ j, j < k → elt a j = elt b j) (fun i _ => a.length - (intOf i).toNat)
    case atStart => exact ⟨0, 0, by omega, rfl, rfl, fun j hj => absurd hj (by omega)⟩
    case round =>
      obtain ⟨k, n, hk, rfl, rfl, hj⟩ := hrel
      have HJ := Lib.hid hj
      clear hj
      by_cases hlt : k < a.length
      · have hlt2 : k < b.length := by rw [← Hl.out]; exact hlt
        obtain ⟨ba, oa, rfl, _, ca⟩ := HA.out.opened (by omega)
        obtain ⟨bb, ob, rfl, _, cb⟩ := HB.out.opened (by omega)
        have c1 := ca k hlt
        have c2 := cb k hlt2
        clear ca cb
        by_cases he : elt a k = elt b k
        · have heb : (elt a k != elt b k) = false := by rw [he]; simp
          have He := Lib.hid he
          clear he
          go_wp2
          go_quiet (fail)
          go_wp2
          go_roundw
          case rel => exact ⟨k + 1, n + nq, by omega, by go_num, rfl, fun j hj => by by_cases e : j = k; (subst e; exact He.out); (exact HJ.out j (by omega))⟩
          case measure => simp [intOf]; omega
        · have heb : (elt a k != elt b k) = true := by rw [bne_iff_ne]; exact he
          have He := Lib.hid he
          clear he
          go_wp2
          go_quiet (fail)
          go_wp2
          go_ret
          exact ⟨ret_b (no_eq He.out).symm, below_drawN (below_drawN (Below.refl _ _) _) _⟩
      · go_wp2
        go_ret
        refine ⟨ret_b ?_, below_drawN (Below.refl _ _) _⟩
        rw [eq_comm, decide_eq_true_iff]
        exact list_ext Hl.out (fun j hj => HJ.out j (by omega))
  · have hlb : ((a.length : Int) != (b.length : Int)) = true := by rw [bne_iff_ne]; omega
    have Hl := Lib.hid hl
    clear hl
    go_enter Try.func25, Try.ntmps25
    go_wp2
    go_ret
    exact ⟨ret_b (no_len Hl.out).symm, Below.refl _ _⟩

end Go.Proofs.Ytmpcjhfhhphioaa
