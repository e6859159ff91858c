/- numbers of the program and of the reference, walked. Condition: at most 16 numbers that lie in memory. -/
import Derived.Test.YtlknjdfiedkhbaaJoBuild
import Derived.Test.YtlknjdfiedkhbaaViW
import Derived.Test.YtlknjdfiedkhbaaMem
namespace Go.Proofs.Ytlknjdfiedkhbaa
open Go Go.RowKit

/-- the encodings of numbers, one behind the other -/
def numL (l : List Int) : List UInt8 := (l.map Vi.intL).flatten
theorem numL_len : ∀ l : List Int, (numL l).length ≤ 9 * l.length
  | [] => by simp [numL]
  | x :: l => by
    have h := numL_len l
    have hx := Vi.intL_len9 x
    simp only [numL, List.map_cons, List.flatten_cons, List.length_append, List.length_cons] at h ⊢
    omega
theorem numL_append (a b : List Int) : numL (a ++ b) = numL a ++ numL b := by simp [numL]
theorem numL_snoc (l : List Int) (k : Nat) (h : k < l.length) : numL (l.take (k + 1)) = numL (l.take k) ++ Vi.intL (elt l k) := by
  rw [List.take_succ_eq_append_getElem h, numL_append]
  congr 1
  simp [numL, elt, List.getElem?_eq_getElem h]
/-- what the loop keeps -/
def NumInv (l : List Int) (w wr : World) (k : Nat) : Prop := Bld w.heap.size w.heap.size (numL (l.take k)) wr ∧ Below w.heap.size w wr

set_option maxHeartbeats 1000000 in
set_option maxRecDepth 100000 in
theorem numbers_any (A : Option Addr) (cA : Nat) (l : List Int) (w : World) (hA : IntsAt w A l) (hl : l.length ≤ 16) :
    Calls Try.prog 34 #[.slice A l.length cA] w fun e w' => e = .returned (.string (str (numL l))) ∧ Below w.heap.size w w' := by
  have HA := Lib.hid hA
  clear hA
  have HI0 : Hid (NumInv l w (w.alloc (.cells #[.pointer none, .slice none 0 0] 72)) 0) := ⟨bld_new w, (Below.refl _ _).alloc (Nat.le_refl _) _⟩
  go_enter Try.func34, Try.ntmps34
  go_wp2
  generalize w.alloc (.cells #[.pointer none, .slice none 0 0] 72) = W at HI0 ⊢
  go_loopw [5, 6, 7, 10] (fun _ _ _ i wr => ∃ k : Nat, k ≤ l.length ∧ i = .int .i64 k ∧ NumInv l w wr k) (fun _ _ _ i _ => l.length - (intOf i).toNat)
  case atStart => exact ⟨0, Nat.zero_le _, rfl, HI0.out⟩
  case round =>
    clear HI0
    obtain ⟨k, hk, rfl, hinv⟩ := hrel
    have HX := Lib.hid hinv
    clear hinv
    by_cases hlt : k < l.length
    · obtain ⟨b, off, rfl, hb, hc⟩ := HA.out.opened (by omega)
      have hcell : wr.cell? ⟨b, off + k, none⟩ = some (.int .i64 (elt l k)) := (HX.out.2.cell (p := ⟨b, off + k, none⟩) hb).trans (hc k hlt)
      have HS := Lib.hid (numL_snoc l k hlt)
      have HN := Lib.hid (int_any (elt l k))
      have hz := numL_len (l.take k)
      rw [List.length_take] at hz
      have hz9 := int_size (elt l k)
      have HZ := Lib.hid hz
      clear hz
      generalize elt l k = x at hcell HS HN hz9
      generalize hE : str (Vi.intL x) = E at HN hz9
      have HE := Lib.hid hE
      have HZ9 := Lib.hid hz9
      clear hc hE hz9
      go_wp2_with fail
      refine (HN.out _).mono ?_
      rintro e w1 ⟨rfl, hb1⟩
      have HX1 : Hid (NumInv l w w1 k) := ⟨HX.out.1.below hb1, HX.out.2.trans (hb1.mono HX.out.2.size)⟩
      clear hb1 hcell
      go_wp2_with fail
      refine (bld_write w.heap.size w.heap.size (numL (l.take k)) E w1 HX1.out.1 (by have := HZ.out; have := HZ9.out; omega) HX1.out.2.size).mono ?_
      rintro e w2 ⟨⟨v, rfl⟩, h2, hb2⟩
      have HX2 : Hid (NumInv l w w2 (k + 1)) := ⟨by rw [HS.out]; rw [← HE.out, str_list] at h2; exact h2, HX1.out.2.trans hb2⟩
      clear h2 hb2
      go_wp2
      go_roundw
      case rel => exact ⟨k + 1, by omega, by go_num, HX2.out⟩
      case measure => simp [intOf]; omega
    · have HK : Hid (k = l.length) := by show k = l.length; omega
      have HF : Hid (Bld w.heap.size w.heap.size (numL l) wr) := by
        have h := HX.out.1
        rw [HK.out, List.take_length] at h
        exact h
      go_wp2_with fail
      refine (bld_string w.heap.size w.heap.size (numL l) wr HF.out HX.out.2.size).mono ?_
      rintro e w1 ⟨rfl, hb1⟩
      have HB := Lib.hid (HX.out.2.trans hb1)
      clear hb1
      go_wp2
      go_ret
      first | exact ⟨rfl, HB.out⟩ | exact ⟨ret_s HF.out, HB.out⟩

set_option maxHeartbeats 1000000 in
set_option maxRecDepth 100000 in
theorem numbersR_any (A : Option Addr) (cA : Nat) (l : List Int) (w : World) (hA : IntsAt w A l) (hl : l.length ≤ 16) :
    Calls Try.prog 37 #[.slice A l.length cA] w fun e w' => e = .returned (.string (str (numL l))) ∧ Below w.heap.size w w' := by
  have HA := Lib.hid hA
  clear hA
  go_enter Try.func37, Try.ntmps37
  go_wp2
  go_loopw [3, 4] (fun o i wr => ∃ k : Nat, k ≤ l.length ∧ i = .int .i64 k ∧ o = .string (str (numL (l.take k))) ∧ Below w.heap.size w wr) (fun _ i _ => l.length - (intOf i).toNat)
  case atStart => exact ⟨0, Nat.zero_le _, rfl, rfl, Below.refl _ _⟩
  case round =>
    obtain ⟨k, hk, rfl, rfl, hbw⟩ := hrel
    have HB := Lib.hid hbw
    clear hbw
    by_cases hlt : k < l.length
    · obtain ⟨b, off, rfl, hb, hc⟩ := HA.out.opened (by omega)
      have hcell : wr.cell? ⟨b, off + k, none⟩ = some (.int .i64 (elt l k)) := (HB.out.cell (p := ⟨b, off + k, none⟩) hb).trans (hc k hlt)
      have HS := Lib.hid (numL_snoc l k hlt)
      have HN := Lib.hid (intR_any (elt l k))
      have hz := numL_len (l.take k)
      rw [List.length_take, ← str_size] at hz
      have hz9 := int_size (elt l k)
      have HP : Hid (str (numL (l.take (k + 1))) = str (numL (l.take k)) ++ str (Vi.intL (elt l k))) := by show _ = _; rw [HS.out, str_append]
      generalize elt l k = x at hcell HN hz9 HP
      generalize str (Vi.intL x) = E at HN hz9 HP
      generalize str (numL (l.take k)) = O at HP hz
      have hzz : O.size + E.size ≤ 200 := by omega
      clear hc HS hz hz9
      go_wp2_with fail
      refine (HN.out _).mono ?_
      rintro e w1 ⟨rfl, hb1⟩
      replace HB := Lib.hid (HB.out.trans (hb1.mono HB.out.size))
      clear hb1 hcell
      go_wp2
      go_roundw
      case rel => exact ⟨k + 1, by omega, by go_num, by rw [HP.out], HB.out⟩
      case measure => simp [intOf]; omega
    · have HK : Hid (k = l.length) := by show k = l.length; omega
      have HF : Hid (str (numL (l.take k)) = str (numL l)) := by show _ = _; rw [HK.out, List.take_length]
      generalize str (numL (l.take k)) = O at HF
      go_wp2
      go_ret
      first | exact ⟨rfl, HB.out⟩ | exact ⟨ret_s HF.out, HB.out⟩
end Go.Proofs.Ytlknjdfiedkhbaa
