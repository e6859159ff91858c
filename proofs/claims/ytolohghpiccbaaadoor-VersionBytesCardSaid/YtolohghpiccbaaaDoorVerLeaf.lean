/- The comparison of lists, and why a list is no vector: walked, of the program and of the reference. Condition: lengths below the model's greatest. -/
import Derived.Test.YtolohghpiccbaaaDoorVerSpec
import Derived.Test.YtolohghpiccbaaaDoorIntsAt
import Derived.Test.YtolohghpiccbaaaDoorRows
import Derived.Deep.QuietTactic
import Derived.BigQuiet
import Derived.Outline
namespace Go.Proofs.YtolohghpiccbaaaDoor
open Go Go.RowKit
open Ver (at' chk okn)

theorem elt_at (l : List Int) (j : Nat) : elt l j = at' l j := rfl

theorem no_eq {a b : List Int} {k : Nat} (h : ¬ elt a k = elt b k) : decide (a = b) = false := decide_eq_false (fun e => h (by rw [e]))
theorem no_len {a b : List Int} (h : ¬ a.length = b.length) : decide (a = b) = false := decide_eq_false (fun e => h (by rw [e]))

set_option maxHeartbeats 1000000 in
theorem same_any (A B : Option Addr) (cA cB : Nat) (a b : List Int) (w : World) (hA : IntsAt w A a) (hB : IntsAt w B b) (ha : a.length ≤ maxLen) (hb : b.length ≤ maxLen) :
    Calls Tryd.prog 42 #[.slice A a.length cA, .slice B b.length cB] w fun e w' => e = .returned (.bool (decide (a = b))) ∧ Below w.heap.size w w' := by
  unfold maxLen at ha hb
  by_cases hl : a.length = b.length
  · have Hl := Lib.hid hl
    have hlb : ((a.length : Int) != (b.length : Int)) = false := by rw [hl]; simp
    have HA := Lib.hid hA
    have HB := Lib.hid hB
    clear hl hA hB
    go_enter Tryd.func42, Tryd.ntmps42
    go_wp2
    go_loopw [5] (fun i wr => ∃ k n : Nat, k ≤ a.length ∧ i = .int .i64 k ∧ wr = w.drewN n ∧ ∀ j, j < k → elt a j = elt b j) (fun i _ => a.length - (intOf i).toNat)
    case atStart => exact ⟨0, 0, by omega, rfl, rfl, fun j hj => absurd hj (by omega)⟩
    case round =>
      obtain ⟨k, n, hk, rfl, rfl, hj⟩ := hrel
      have HJ := Lib.hid hj
      clear hj
      by_cases hlt : k < a.length
      · have hlt2 : k < b.length := by rw [← Hl.out]; exact hlt
        obtain ⟨ba, oa, rfl, _, ca⟩ := HA.out.opened (by omega)
        obtain ⟨bb, ob, rfl, _, cb⟩ := HB.out.opened (by omega)
        have c1 := ca k hlt
        have c2 := cb k hlt2
        clear ca cb
        by_cases he : elt a k = elt b k
        · have heb : (elt a k != elt b k) = false := by rw [he]; simp
          have He := Lib.hid he
          clear he
          go_wp2
          go_quiet (fail)
          go_wp2
          go_roundw
          case rel => exact ⟨k + 1, n + nq, by omega, by go_num, rfl, fun j hj => by by_cases e : j = k; (subst e; exact He.out); (exact HJ.out j (by omega))⟩
          case measure => simp [intOf]; omega
        · have heb : (elt a k != elt b k) = true := by rw [bne_iff_ne]; exact he
          have He := Lib.hid he
          clear he
          go_wp2
          go_quiet (fail)
          go_wp2
          go_ret
          exact ⟨ret_b (no_eq He.out).symm, below_drawN (below_drawN (Below.refl _ _) _) _⟩
      · go_wp2
        go_ret
        refine ⟨ret_b ?_, below_drawN (Below.refl _ _) _⟩
        rw [eq_comm, decide_eq_true_iff]
        exact Ver.at_ext Hl.out (fun j hj => HJ.out j (by omega))
  · have hlb : ((a.length : Int) != (b.length : Int)) = true := by rw [bne_iff_ne]; omega
    have Hl := Lib.hid hl
    clear hl
    go_enter Tryd.func42, Tryd.ntmps42
    go_wp2
    go_ret
    exact ⟨ret_b (no_len Hl.out).symm, Below.refl _ _⟩

theorem all_snoc (l : List Int) (k : Nat) (hk : k < l.length) : (l.take (k + 1)).all okn = ((l.take k).all okn && okn (elt l k)) := by
  rw [List.take_succ_eq_append_getElem hk, List.all_append, elt, List.getElem?_eq_getElem hk]
  simp
theorem all_not (l : List Int) (k : Nat) (hk : k < l.length) (h : okn (elt l k) = false) : l.all okn = false := by
  rw [List.all_eq_false]
  refine ⟨l[k], List.getElem_mem hk, ?_⟩
  rw [elt, List.getElem?_eq_getElem hk] at h
  simpa using h

set_option maxHeartbeats 1000000 in
theorem out_any (n : Int) (w : World) :
    Calls Tryd.prog 45 #[.int .i64 n] w fun e w' => e = .returned (.bool (!okn n)) ∧ w = w' := by
  by_cases h1 : n < 0
  · go_enter Tryd.func45, Tryd.ntmps45
    go_wp2
    go_ret
    exact ⟨ret_b (by unfold okn; simp; omega), rfl⟩
  · by_cases h2 : 1099511627776 < n
    all_goals
      go_enter Tryd.func45, Tryd.ntmps45
      go_wp2
      go_ret
      exact ⟨ret_b (by unfold okn Ver.top; simp; omega), rfl⟩

set_option maxHeartbeats 1000000 in
theorem index_any (A : Option Addr) (cA : Nat) (a : List Int) (w : World) (hA : IntsAt w A a) (ha : a.length ≤ maxLen) :
    Calls Tryd.prog 50 #[.slice A a.length cA, .func (.func 45) #[] #[]] w fun e w' => (∃ i : Int, e = .returned (.int .i64 i) ∧ decide (0 ≤ i) = !a.all okn) ∧ w = w' := by
  unfold maxLen at ha
  have HA := Lib.hid hA
  clear hA
  go_enter Tryd.func50, Tryd.ntmps50
  go_wp2
  go_loop [5, 8] (fun _ i => ∃ k : Nat, k ≤ a.length ∧ i = .int .i64 k ∧ (a.take k).all okn = true) (fun _ i => a.length - (intOf i).toNat)
  case atStart => exact ⟨0, by omega, rfl, rfl⟩
  case round =>
    obtain ⟨k, hk, rfl, hj⟩ := hrel
    have HJ := Lib.hid hj
    clear hj
    by_cases hlt : k < a.length
    · obtain ⟨ba, oa, rfl, _, ca⟩ := HA.out.opened (by omega)
      have c1 := ca k hlt
      clear ca
      by_cases ho : okn (elt a k) = true
      · have Ho := Lib.hid ho
        have hob : (!okn (elt a k)) = false := by rw [ho]; rfl
        have Hob := Lib.hid hob
        clear ho hob
        go_wp2_with fail
        refine (out_any _ _).mono ?_
        rintro e w' ⟨rfl, rfl⟩
        rw [Hob.out]
        go_wp2
        go_round
        case rel => exact ⟨k + 1, by omega, by go_num, by rw [all_snoc _ _ hlt, HJ.out, Ho.out]; rfl⟩
        case measure => simp [intOf]; omega
      · have ho' : okn (elt a k) = false := by simpa using ho
        have Ho := Lib.hid ho'
        clear ho ho'
        go_wp2_with fail
        refine (out_any _ _).mono ?_
        rintro e w' ⟨rfl, rfl⟩
        rw [Ho.out]
        go_wp2
        go_ret
        exact ⟨⟨_, rfl, by rw [all_not _ _ hlt Ho.out]; simp⟩, rfl⟩
    · go_wp2
      go_ret
      have e : (a.take k).all okn = true := HJ.out
      rw [List.take_of_length_le (by omega)] at e
      exact ⟨⟨_, rfl, by rw [e]; rfl⟩, rfl⟩

set_option maxHeartbeats 1000000 in
theorem contains_any (A : Option Addr) (cA : Nat) (a : List Int) (w : World) (hA : IntsAt w A a) (ha : a.length ≤ maxLen) :
    Calls Tryd.prog 44 #[.slice A a.length cA, .func (.func 45) #[] #[]] w fun e w' => e = .returned (.bool (!a.all okn)) ∧ w = w' := by
  have HA := Lib.hid hA
  clear hA
  go_enter Tryd.func44, Tryd.ntmps44
  go_wp2_with fail
  refine (index_any A cA a _ HA.out ha).mono ?_
  rintro e w' ⟨⟨i, rfl, hi⟩, rfl⟩
  have Hi := Lib.hid hi
  clear hi
  go_wp2
  go_ret
  exact ⟨ret_b Hi.out, rfl⟩

set_option maxHeartbeats 1000000 in
theorem check_any (A : Option Addr) (cA : Nat) (a : List Int) (w : World) (hA : IntsAt w A a) (ha : a.length ≤ maxLen) :
    Calls Tryd.prog 28 #[.slice A a.length cA] w fun e w' => e = .returned (.int .i64 (chk a)) ∧ w = w' := by
  have hm := ha
  unfold maxLen at ha
  by_cases h1 : a.length < 1
  · go_enter Tryd.func28, Tryd.ntmps28
    go_wp2
    go_ret
    exact ⟨ret_i (by unfold chk; rw [if_neg (by omega)]), rfl⟩
  · by_cases h2 : 16 < a.length
    · go_enter Tryd.func28, Tryd.ntmps28
      go_wp2
      go_ret
      exact ⟨ret_i (by unfold chk; rw [if_neg (by omega)]), rfl⟩
    · have HA := Lib.hid hA
      clear hA
      go_enter Tryd.func28, Tryd.ntmps28
      go_wp2_with fail
      refine (contains_any A cA a _ HA.out hm).mono ?_
      rintro e w' ⟨rfl, rfl⟩
      by_cases ho : a.all okn = true
      · have Ho := Lib.hid ho
        rw [ho]
        clear ho
        go_wp2
        go_ret
        exact ⟨ret_i (by unfold chk; rw [if_pos (by omega), if_pos Ho.out]), rfl⟩
      · have ho' : a.all okn = false := by simpa using ho
        have Ho := Lib.hid ho
        rw [ho']
        clear ho ho'
        go_wp2
        go_ret
        exact ⟨ret_i (by unfold chk; rw [if_pos (by omega), if_neg Ho.out]), rfl⟩

set_option maxHeartbeats 1000000 in
theorem checkR_any (A : Option Addr) (cA : Nat) (a : List Int) (w : World) (hA : IntsAt w A a) (ha : a.length ≤ maxLen) :
    Calls Tryd.prog 29 #[.slice A a.length cA] w fun e w' => e = .returned (.int .i64 (chk a)) ∧ w = w' := by
  unfold maxLen at ha
  by_cases h1 : a.length < 1
  · go_enter Tryd.func29, Tryd.ntmps29
    go_wp2
    go_ret
    exact ⟨ret_i (by unfold chk; rw [if_neg (by omega)]), rfl⟩
  · by_cases h2 : 16 < a.length
    · go_enter Tryd.func29, Tryd.ntmps29
      go_wp2
      go_ret
      exact ⟨ret_i (by unfold chk; rw [if_neg (by omega)]), rfl⟩
    · have HA := Lib.hid hA
      clear hA
      go_enter Tryd.func29, Tryd.ntmps29
      go_wp2
      go_loop [3] (fun i => ∃ k : Nat, k ≤ a.length ∧ i = .int .i64 k ∧ (a.take k).all okn = true) (fun i => a.length - (intOf i).toNat)
      case atStart => exact ⟨0, by omega, rfl, rfl⟩
      case round =>
        obtain ⟨k, hk, rfl, hj⟩ := hrel
        have HJ := Lib.hid hj
        clear hj
        by_cases hlt : k < a.length
        · obtain ⟨ba, oa, rfl, _, ca⟩ := HA.out.opened (by omega)
          have c1 := ca k hlt
          clear ca
          by_cases g1 : elt a k < 0
          · go_wp2
            go_ret
            exact ⟨ret_i (by unfold chk; rw [if_pos (by omega), if_neg (by rw [all_not _ _ hlt (by unfold okn; simp; omega)]; simp)]), rfl⟩
          · by_cases g2 : 1099511627776 < elt a k
            · go_wp2
              go_ret
              exact ⟨ret_i (by unfold chk; rw [if_pos (by omega), if_neg (by rw [all_not _ _ hlt (by unfold okn Ver.top; simp; omega)]; simp)]), rfl⟩
            · go_wp2
              go_round
              case rel => exact ⟨k + 1, by omega, by go_num, by rw [all_snoc _ _ hlt, HJ.out]; unfold okn Ver.top; simp; omega⟩
              case measure => simp [intOf]; omega
        · go_wp2
          go_ret
          have e : (a.take k).all okn = true := HJ.out
          rw [List.take_of_length_le (by omega)] at e
          exact ⟨ret_i (by unfold chk; rw [if_pos (by omega), if_pos e]), rfl⟩
end Go.Proofs.YtolohghpiccbaaaDoor
