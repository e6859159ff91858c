/- The encodings of strings and of lists, walked: the program's and the reference's. Conditions: lengths below the model's greatest; the list lies in memory. -/
import Derived.Test.YtolohghpiccbaaaDoorViRef
import Derived.Test.YtolohghpiccbaaaDoorViTextP
import Derived.Test.YtolohghpiccbaaaDoorBRow
import Derived.Test.YtolohghpiccbaaaDoorIntsAt
namespace Go.Proofs.YtolohghpiccbaaaDoor
open Go Go.RowKit


/-- what has been written of a list behind k elements -/
def partL (l : List Int) (k : Nat) : List UInt8 := Vi.intL l.length ++ ((l.take k).map Vi.intL).flatten
theorem part_zero (l : List Int) : partL l 0 = Vi.intL l.length := by simp [partL]
theorem part_snoc (l : List Int) (k : Nat) (h : k < l.length) : partL l (k + 1) = partL l k ++ Vi.intL (elt l k) := by
  unfold partL
  rw [List.take_succ_eq_append_getElem h, List.map_append, List.flatten_append, List.append_assoc, elt, List.getElem?_eq_getElem h]
  simp
theorem part_len (l : List Int) : ∀ k, (partL l k).length ≤ 9 * (k + 1)
  | 0 => by rw [part_zero]; exact Vi.intL_len9 _
  | k + 1 => by
    by_cases h : k < l.length
    · rw [part_snoc l k h, List.length_append]
      have := part_len l k
      have := Vi.intL_len9 (elt l k)
      omega
    · have e : partL l (k + 1) = partL l k := by unfold partL; rw [List.take_of_length_le (by omega), List.take_of_length_le (by omega)]
      rw [e]
      have := part_len l k
      omega
theorem inR_snoc (l : List Int) (k : Nat) (hk : k < l.length) : (l.take (k + 1)).all Vi.inR = ((l.take k).all Vi.inR && Vi.inR (elt l k)) := by
  rw [List.take_succ_eq_append_getElem hk, List.all_append, elt, List.getElem?_eq_getElem hk]
  simp
theorem inR_not (l : List Int) (k : Nat) (hk : k < l.length) (h : Vi.inR (elt l k) = false) : l.all Vi.inR = false := by
  rw [List.all_eq_false]
  refine ⟨l[k], List.getElem_mem hk, ?_⟩
  rw [elt, List.getElem?_eq_getElem hk] at h
  simpa using h
theorem list_all {l : List Int} (h : l.length ≤ 65536) (h2 : l.all Vi.inR = true) : Vi.listL l = partL l l.length ∧ Vi.listE l = 0 := by
  have e : Vi.listE l = 0 := by unfold Vi.listE; rw [if_pos h, if_pos h2]
  refine ⟨?_, e⟩
  unfold Vi.listL partL
  rw [if_pos e, List.take_of_length_le (Nat.le_refl _)]
theorem list_not {l : List Int} (h : l.length ≤ 65536) (h2 : l.all Vi.inR = false) : Vi.listL l = [] ∧ Vi.listE l = 2 := by
  have e : Vi.listE l = 2 := by unfold Vi.listE; rw [if_pos h, if_neg (by rw [h2]; decide)]
  refine ⟨?_, e⟩
  unfold Vi.listL
  rw [if_neg (by rw [e]; decide)]
theorem list_long {l : List Int} (h : ¬ l.length ≤ 65536) : Vi.listL l = [] ∧ Vi.listE l = 4 := by
  have e : Vi.listE l = 4 := by unfold Vi.listE; rw [if_neg h]
  refine ⟨?_, e⟩
  unfold Vi.listL
  rw [if_neg (by rw [e]; decide)]
theorem intE_of {n : Int} {b : Bool} (h : Vi.inR n = b) : Vi.intE n = if b = true then 0 else 2 := by unfold Vi.intE; rw [h]
theorem conv_brow {w : World} {base n : Nat} {v : Value} {l : List UInt8} (hl : l.length = n) (h : BRow w base v n (l.map byteV)) :
    (convert 62 9 v).run Tryd.prog w = .ok (.string (str l)) w := by
  obtain ⟨g, cap, rfl⟩ := h.form
  exact conv_bytes hl (fun j hj => by rw [Nat.zero_add, h.cells j hj, List.getElem?_map, List.getElem?_eq_getElem (by omega)]; rfl)

set_option maxHeartbeats 2000000 in
theorem list_any (A : Option Addr) (cA : Nat) (l : List Int) (w : World) (hA : IntsAt w A l) (hl : l.length ≤ maxLen) :
    Calls Tryd.prog 46 #[.slice A l.length cA] w fun e w' => e = .returned (.tuple #[.string (str (Vi.listL l)), .int .i64 (Vi.listE l)]) ∧ Below w.heap.size w w' := by
  unfold maxLen at hl
  by_cases h : l.length ≤ 65536
  · have HA := Lib.hid hA
    obtain ⟨i0, hi, hz0, hz1, hz2⟩ := info_parts infoByte
    have h9 := int_size (l.length : Int)
    clear hA
    go_enter Tryd.func46, Tryd.ntmps46
    go_wp2_with fail
    refine (int_any _ _).mono ?_
    rintro e w1 ⟨rfl, hb1⟩
    obtain ⟨v0, w2, hrun, hrow, hb2⟩ := brow_of_string (str (Vi.intL l.length)) w1 (by omega)
    rw [str_list, str_size, ← part_zero] at hrow
    have HR := Lib.hid hrow
    have HB := Lib.hid (hb1.trans (hb2.mono hb1.size))
    have HS := Lib.hid hb1.size
    clear hrow hb1 hb2 h9
    go_wp2
    go_loopw [6, 8, 9, 10, 24] (fun v _ _ _ i wr => ∃ k : Nat, k ≤ l.length ∧ i = .int .i64 k ∧ BRow wr w.heap.size v (partL l k).length ((partL l k).map byteV) ∧ (l.take k).all Vi.inR = true ∧ Below w.heap.size w wr) (fun _ _ _ _ i _ => l.length - (intOf i).toNat)
    case atStart =>
      obtain ⟨g, cap, q1, q2, q3⟩ := HR.out
      exact ⟨0, by omega, rfl, ⟨g, cap, q1, Nat.le_trans HS.out q2, q3⟩, rfl, HB.out⟩
    case round =>
      obtain ⟨k, hk, rfl, hv, hall, hb⟩ := hrel
      have HV := Lib.hid hv
      have HALL := Lib.hid hall
      have HBk := Lib.hid hb
      clear hv hall hb HB HS HR hrun
      by_cases hlt : k < l.length
      · obtain ⟨ba, oa, rfl, _, ca⟩ := (HA.out.below HBk.out).opened (by omega)
        have c1 := ca k hlt
        have hpl := part_len l k
        have h9 := int_size (elt l k)
        clear ca
        cases hin : Vi.inR (elt l k) with
        | true =>
          have HIN := Lib.hid hin
          clear hin
          go_wp2_with fail
          refine (int_any _ _).mono ?_
          rintro e w3 ⟨rfl, hb3⟩
          rw [intE_of HIN.out, if_pos rfl]
          have HV3 := Lib.hid (HV.out.below hb3)
          have HB3 := Lib.hid (HBk.out.trans (hb3.mono HBk.out.size))
          clear hb3 c1
          go_wp2_with (at_builtin; refine wpList_append_brow _ rfl (.tmp 36) (.tmp 37) 62 9 rfl 5 i0 (.int .u8 0) Tryd.underlying62 hi hz0 hz1 hz2 rfl w.heap.size _ _ _ rfl HV3.out _ _ _ rfl (Src.ofString _ Tryd.underlying9 (str (Vi.intL (elt l k)))) ?c1 ?c2 ?_)
          case c1 => omega
          case c2 => exact HB3.out.size
          intro v' w4 hr4 hb4
          have e1 : (partL l k).map byteV ++ byteCells (str (Vi.intL (elt l k))) = (partL l (k + 1)).map byteV := by rw [part_snoc l k hlt, List.map_append]; rfl
          have e2 : (partL l k).length + (str (Vi.intL (elt l k))).size = (partL l (k + 1)).length := by rw [part_snoc l k hlt, List.length_append, str_size]
          rw [e1, e2] at hr4
          have HR4 := Lib.hid hr4
          have HB4 := Lib.hid (HB3.out.trans hb4)
          clear hr4 hb4 e1 e2
          go_wp2
          go_roundw
          case rel => exact ⟨k + 1, by omega, by go_num, HR4.out, by rw [inR_snoc l k hlt, HALL.out, HIN.out]; rfl, HB4.out⟩
          case measure => simp [intOf]; omega
        | false =>
          obtain ⟨hL, hE⟩ := list_not h (inR_not l k hlt hin)
          have HL := Lib.hid hL
          have HE := Lib.hid hE
          have HIN := Lib.hid hin
          clear hin hL hE
          go_wp2_with fail
          refine (int_any _ _).mono ?_
          rintro e w3 ⟨rfl, hb3⟩
          rw [intE_of HIN.out, if_neg (by decide)]
          have HB3 := Lib.hid (HBk.out.trans (hb3.mono HBk.out.size))
          clear hb3 c1
          go_wp2
          go_ret2
          exact ⟨two_e (by rw [HL.out]; rfl) HE.out.symm, HB3.out⟩
      · obtain rfl : k = l.length := by omega
        have e : (l.take l.length).all Vi.inR = true := HALL.out
        rw [List.take_of_length_le (Nat.le_refl _)] at e
        obtain ⟨hL, hE⟩ := list_all h e
        have HL := Lib.hid hL
        have HE := Lib.hid hE
        have hcv := conv_brow rfl HV.out
        clear hL hE e
        go_wp2
        go_ret2
        exact ⟨two_e (by rw [HL.out]) HE.out.symm, HBk.out⟩
  · obtain ⟨hL, hE⟩ := list_long h
    have HL := Lib.hid hL
    have HE := Lib.hid hE
    clear hL hE
    go_enter Tryd.func46, Tryd.ntmps46
    go_wp2
    go_ret2
    exact ⟨two_e (by rw [HL.out]; rfl) HE.out.symm, Below.refl _ _⟩

set_option maxHeartbeats 2000000 in
theorem listR_any (A : Option Addr) (cA : Nat) (l : List Int) (w : World) (hA : IntsAt w A l) (hl : l.length ≤ maxLen) :
    Calls Tryd.prog 47 #[.slice A l.length cA] w fun e w' => e = .returned (.tuple #[.string (str (Vi.listL l)), .int .i64 (Vi.listE l)]) ∧ Below w.heap.size w w' := by
  unfold maxLen at hl
  by_cases h : l.length ≤ 65536
  · have HA := Lib.hid hA
    clear hA
    go_enter Tryd.func47, Tryd.ntmps47
    go_wp2_with fail
    refine (intR_any _ _).mono ?_
    rintro e w1 ⟨rfl, hb1⟩
    have HB := Lib.hid hb1
    clear hb1
    go_wp2
    go_loopw [4, 6, 7, 8] (fun s i _ _ wr => ∃ k : Nat, k ≤ l.length ∧ i = .int .i64 k ∧ s = .string (str (partL l k)) ∧ (l.take k).all Vi.inR = true ∧ Below w.heap.size w wr) (fun _ i _ _ _ => l.length - (intOf i).toNat)
    case atStart => exact ⟨0, by omega, rfl, by rw [part_zero], rfl, HB.out⟩
    case round =>
      obtain ⟨k, hk, rfl, rfl, hall, hb⟩ := hrel
      have HALL := Lib.hid hall
      have HBk := Lib.hid hb
      clear hall hb HB
      by_cases hlt : k < l.length
      · obtain ⟨ba, oa, rfl, _, ca⟩ := (HA.out.below HBk.out).opened (by omega)
        have c1 := ca k hlt
        have hpl : (str (partL l k)).size ≤ 9 * (k + 1) := by rw [str_size]; exact part_len l k
        have h9 := int_size (elt l k)
        clear ca
        cases hin : Vi.inR (elt l k) with
        | true =>
          have HIN := Lib.hid hin
          clear hin
          go_wp2_with fail
          refine (intR_any _ _).mono ?_
          rintro e w3 ⟨rfl, hb3⟩
          rw [intE_of HIN.out, if_pos rfl]
          have HB3 := Lib.hid (HBk.out.trans (hb3.mono HBk.out.size))
          clear hb3 c1
          go_wp2
          go_roundw
          case rel => exact ⟨k + 1, by omega, by go_num, by rw [part_snoc l k hlt, str_append], by rw [inR_snoc l k hlt, HALL.out, HIN.out]; rfl, HB3.out⟩
          case measure => simp [intOf]; omega
        | false =>
          obtain ⟨hL, hE⟩ := list_not h (inR_not l k hlt hin)
          have HL := Lib.hid hL
          have HE := Lib.hid hE
          have HIN := Lib.hid hin
          clear hin hL hE
          go_wp2_with fail
          refine (intR_any _ _).mono ?_
          rintro e w3 ⟨rfl, hb3⟩
          rw [intE_of HIN.out, if_neg (by decide)]
          have HB3 := Lib.hid (HBk.out.trans (hb3.mono HBk.out.size))
          clear hb3 c1
          go_wp2
          go_ret2
          exact ⟨two_e (by rw [HL.out]; rfl) HE.out.symm, HB3.out⟩
      · obtain rfl : k = l.length := by omega
        have e : (l.take l.length).all Vi.inR = true := HALL.out
        rw [List.take_of_length_le (Nat.le_refl _)] at e
        obtain ⟨hL, hE⟩ := list_all h e
        have HL := Lib.hid hL
        have HE := Lib.hid hE
        clear hL hE e
        go_wp2
        go_ret2
        exact ⟨two_e (by rw [HL.out]) HE.out.symm, HBk.out⟩
  · obtain ⟨hL, hE⟩ := list_long h
    have HL := Lib.hid hL
    have HE := Lib.hid hE
    clear hL hE
    go_enter Tryd.func47, Tryd.ntmps47
    go_wp2
    go_ret2
    exact ⟨two_e (by rw [HL.out]; rfl) HE.out.symm, Below.refl _ _⟩
end Go.Proofs.YtolohghpiccbaaaDoor
