/- The encodings of strings and of lists, walked: the program's and the reference's. Conditions: lengths below the model's greatest; the list lies in memory. -/
import Derived.Test.YtlknjdfiedkhbaaViRef
import Derived.Test.YtlknjdfiedkhbaaViTextP
import Derived.Test.YtlknjdfiedkhbaaBRow
import Derived.Test.YtlknjdfiedkhbaaIntsAt
namespace Go.Proofs.Ytlknjdfiedkhbaa
open Go Go.RowKit


set_option maxHeartbeats 1000000 in
theorem textR_any (s : ByteArray) (hs : s.size ≤ maxLen) (w : World) :
    Calls Try.prog 40 #[.string s] w fun e w' => e = .returned (.tuple #[.string (str (Vi.textL s.data.toList)), .int .i64 (Vi.textE s.data.toList)]) ∧ Below w.heap.size w w' := by
  unfold maxLen at hs
  have hl : s.data.toList.length = s.size := by simp
  by_cases h : s.size ≤ 65536
  · have HL : Hid (Vi.textL s.data.toList = Vi.intL s.size ++ s.data.toList) := by show _ = _; unfold Vi.textL; rw [hl, if_pos h]
    have HE : Hid (Vi.textE s.data.toList = 0) := by show _ = _; unfold Vi.textE; rw [hl, if_pos h]
    have h9 := int_size s.size
    clear hl
    go_enter Try.func40, Try.ntmps40
    go_wp2_with fail
    refine (intR_any _ _).mono ?_
    rintro e w1 ⟨rfl, hb1⟩
    go_wp2
    go_ret2
    exact ⟨two_e (by rw [HL.out, str_app]) HE.out.symm, hb1⟩
  · have HL : Hid (Vi.textL s.data.toList = []) := by show _ = _; unfold Vi.textL; rw [hl, if_neg h]
    have HE : Hid (Vi.textE s.data.toList = 4) := by show _ = _; unfold Vi.textE; rw [hl, if_neg h]
    clear hl
    go_enter Try.func40, Try.ntmps40
    go_wp2
    go_ret2
    exact ⟨two_e (by rw [HL.out]; rfl) HE.out.symm, Below.refl _ _⟩

/-- what has been written of a list behind k elements -/
def partL (l : List Int) (k : Nat) : List UInt8 := Vi.intL l.length ++ ((l.take k).map Vi.intL).flatten
theorem part_zero (l : List Int) : partL l 0 = Vi.intL l.length := by simp [partL]
theorem part_snoc (l : List Int) (k : Nat) (h : k < l.length) : partL l (k + 1) = partL l k ++ Vi.intL (elt l k) := by
  unfold partL
  rw [List.take_succ_eq_append_getElem h, List.map_append, List.flatten_append, List.append_assoc, elt, List.getElem?_eq_getElem h]
  simp
theorem part_len (l : List Int) : ∀ k, (partL l k).length ≤ 9 * (k + 1)
  | 0 => by rw [part_zero]; exact Vi.intL_len9 _
  | k + 1 => by
    by_cases h : k < l.length
    · rw [part_snoc l k h, List.length_append]
      have := part_len l k
      have := Vi.intL_len9 (elt l k)
      omega
    · have e : partL l (k + 1) = partL l k := by unfold partL; rw [List.take_of_length_le (by omega), List.take_of_length_le (by omega)]
      rw [e]
      have := part_len l k
      omega
theorem inR_snoc (l : List Int) (k : Nat) (hk : k < l.length) : (l.take (k + 1)).all Vi.inR = ((l.take k).all Vi.inR && Vi.inR (elt l k)) := by
  rw [List.take_succ_eq_append_getElem hk, List.all_append, elt, List.getElem?_eq_getElem hk]
  simp
theorem inR_not (l : List Int) (k : Nat) (hk : k < l.length) (h : Vi.inR (elt l k) = false) : l.all Vi.inR = false := by
  rw [List.all_eq_false]
  refine ⟨l[k], List.getElem_mem hk, ?_⟩
  rw [elt, List.getElem?_eq_getElem hk] at h
  simpa using h
theorem list_all {l : List Int} (h : l.length ≤ 65536) (h2 : l.all Vi.inR = true) : Vi.listL l = partL l l.length ∧ Vi.listE l = 0 := by
  have e : Vi.listE l = 0 := by unfold Vi.listE; rw [if_pos h, if_pos h2]
  refine ⟨?_, e⟩
  unfold Vi.listL partL
  rw [if_pos e, List.take_of_length_le (Nat.le_refl _)]
theorem list_not {l : List Int} (h : l.length ≤ 65536) (h2 : l.all Vi.inR = false) : Vi.listL l = [] ∧ Vi.listE l = 2 := by
  have e : Vi.listE l = 2 := by unfold Vi.listE; rw [if_pos h, if_neg (by rw [h2]; decide)]
  refine ⟨?_, e⟩
  unfold Vi.listL
  rw [if_neg (by rw [e]; decide)]
theorem list_long {l : List Int} (h : ¬ l.length ≤ 65536) : Vi.listL l = [] ∧ Vi.listE l = 4 := by
  have e : Vi.listE l = 4 := by unfold Vi.listE; rw [if_neg h]
  refine ⟨?_, e⟩
  unfold Vi.listL
  rw [if_neg (by rw [e]; decide)]
theorem intE_of {n : Int} {b : Bool} (h : Vi.inR n = b) : Vi.intE n = if b = true then 0 else 2 := by unfold Vi.intE; rw [h]
theorem conv_brow {w : World} {base n : Nat} {v : Value} {l : List UInt8} (hl : l.length = n) (h : BRow w base v n (l.map byteV)) :
    (convert 54 9 v).run Try.prog w = .ok (.string (str l)) w := by
  obtain ⟨g, cap, rfl⟩ := h.form
  exact conv_bytes hl (fun j hj => by rw [Nat.zero_add, h.cells j hj, List.getElem?_map, List.getElem?_eq_getElem (by omega)]; rfl)

end Go.Proofs.Ytlknjdfiedkhbaa
