/- The law VarintCanonical, walked. Condition: a length below the model's greatest. -/
import Derived.Test.YtmpcjhfhhphioaaViLaw3
namespace Go.Proofs.Ytmpcjhfhhphioaa
open Go Go.RowKit

theorem take_str (s : ByteArray) (k : Nat) : str (s.data.toList.take k) = s.extract 0 k := by rw [extract_str, List.drop_zero, Nat.sub_zero]
theorem textE_zero {x : List UInt8} (h : Vi.textE x = 0) : x.length ≤ 65536 := by
  unfold Vi.textE at h
  split at h
  · assumption
  · exact absurd h (by decide)
theorem can_int {s : ByteArray} {n : Int} {k : Nat} (h : Vi.rd s.data.toList = (n, k, 0)) (w : World) :
    Calls Try.prog 11 #[.int .i64 n] w fun e w' => e = .returned (.tuple #[.string (s.extract 0 k), .int .i64 0]) ∧ Below w.heap.size w w' := by
  obtain ⟨h1, _, _, h4, _⟩ := Vi.rd_canon h
  have := int_any n w
  rw [h4, take_str] at this
  unfold Vi.intE at this
  rwa [if_pos h1] at this
theorem can_text {s : ByteArray} {x : List UInt8} {k : Nat} (h : Vi.rtext s.data.toList = (x, k, 0)) (w : World) :
    Calls Try.prog 13 #[.string (str x)] w fun e w' => e = .returned (.tuple #[.string (s.extract 0 k), .int .i64 0]) ∧ Below w.heap.size w w' := by
  obtain ⟨h1, _, _, h4⟩ := Vi.rtext_canon h
  have := text_any (str x) (by rw [str_size]; have := textE_zero h1; unfold maxLen; omega) w
  rwa [str_list, h4, take_str, h1] at this
theorem can_list {s : ByteArray} {x : List Int} {k : Nat} (h : Vi.rlist s.data.toList = (x, k, 0)) (A : Option Addr) (c : Nat) (w : World) (hA : IntsAt w A x) :
    Calls Try.prog 15 #[.slice A x.length c] w fun e w' => e = .returned (.tuple #[.string (s.extract 0 k), .int .i64 0]) ∧ Below w.heap.size w w' := by
  obtain ⟨h1, _, _, h4, _⟩ := Vi.rlist_canon h
  have hl := rlist_max s.data.toList
  rw [h] at hl
  have := list_any A c x w hA hl
  rwa [h4, take_str, h1] at this

set_option maxHeartbeats 8000000 in
set_option maxRecDepth 100000 in
theorem lawCanon (s : ByteArray) (hs : s.size ≤ maxLen) (w : World) :
    Calls Try.prog 7 #[.string s] w fun e w' => e = .returned (.bool true) ∧ Below w.heap.size w w' := by
  have hsm := hs
  unfold maxLen at hs
  have HB : Hid (Below w.heap.size w w) := Below.refl _ _
  go_enter Try.func7, Try.ntmps7
  by_cases g1 : 300 < s.size
  ·
    go_wp2_with fail
    refine (awake_any _).mono ?_
    rintro e w1 ⟨rfl, hb1⟩
    replace HB := Lib.hid (HB.out.trans (hb1.mono HB.out.size))
    clear hb1
    go_wp2
    go_ret
    exact ⟨rfl, HB.out⟩
  have hsl : s.data.toList.length = s.size := by simp
  have r1 := fun w => readInt_any s hsm w
  unfold rd3 at r1
  have r2 := fun w => readText_any s hsm w
  unfold RetText at r2
  have r3 := fun w => readList_any s hsm w
  unfold RetList at r3
  obtain ⟨n, k1, e1, h1⟩ : ∃ n k e, Vi.rd s.data.toList = (n, k, e) := ⟨_, _, _, rfl⟩
  obtain ⟨x, k2, e2, h2⟩ : ∃ n k e, Vi.rtext s.data.toList = (n, k, e) := ⟨_, _, _, rfl⟩
  obtain ⟨l, k3, e3, h3⟩ : ∃ n k e, Vi.rlist s.data.toList = (n, k, e) := ⟨_, _, _, rfl⟩
  simp only [h1] at r1
  simp only [h2] at r2
  simp only [h3] at r3
  have R1 := Lib.hid r1
  have R2 := Lib.hid r2
  have R3 := Lib.hid r3
  have H1 := Lib.hid h1
  have H2 := Lib.hid h2
  have H3 := Lib.hid h3
  clear r1 r2 r3 h1 h2 h3
  go_wp2_with fail
  refine (R1.out _).mono ?_
  rintro e w1 ⟨rfl, hb1⟩
  replace HB := Lib.hid (HB.out.trans (hb1.mono HB.out.size))
  clear hb1
  by_cases z1 : e1 = 0
  ·
    subst z1
    have hc := Vi.rd_canon H1.out
    have q1 := hc.2.1
    have q2 := hc.2.2.1
    rw [hsl] at q2
    clear hc
    go_wp2_with fail
    refine (can_int H1.out _).mono ?_
    rintro e w2 ⟨rfl, hb2⟩
    replace HB := Lib.hid (HB.out.trans (hb2.mono HB.out.size))
    clear hb2
    go_wp2_with fail
    refine (R2.out _).mono ?_
    rintro e w3 ⟨rfl, hb3⟩
    replace HB := Lib.hid (HB.out.trans (hb3.mono HB.out.size))
    clear hb3
    by_cases z2 : e2 = 0
    ·
      subst z2
      have hc := Vi.rtext_canon H2.out
      have q1 := hc.2.1
      have q2 := hc.2.2.1
      rw [hsl] at q2
      clear hc
      go_wp2_with fail
      refine (can_text H2.out _).mono ?_
      rintro e w4 ⟨rfl, hb4⟩
      replace HB := Lib.hid (HB.out.trans (hb4.mono HB.out.size))
      clear hb4
      go_wp2_with fail
      refine (R3.out _).mono ?_
      rintro e w5 ⟨A5, c5, rfl, hi5, hb5⟩
      have I5 := Lib.hid hi5
      clear hi5
      replace HB := Lib.hid (HB.out.trans (hb5.mono HB.out.size))
      clear hb5
      by_cases z3 : e3 = 0
      ·
        subst z3
        have hc := Vi.rlist_canon H3.out
        have q1 := hc.2.1
        have q2 := hc.2.2.1
        rw [hsl] at q2
        clear hc
        go_wp2_with fail
        refine (can_list H3.out A5 c5 _ I5.out).mono ?_
        rintro e w6 ⟨rfl, hb6⟩
        replace HB := Lib.hid (HB.out.trans (hb6.mono HB.out.size))
        clear hb6
        go_wp2_with fail
        refine (awake_any _).mono ?_
        rintro e w7 ⟨rfl, hb7⟩
        replace HB := Lib.hid (HB.out.trans (hb7.mono HB.out.size))
        clear hb7
        go_wp2
        go_ret
        exact ⟨rfl, HB.out⟩
      ·
        have zb : (e3 == 0) = false := by rw [beq_eq_false_iff_ne]; exact z3
        go_wp2_with fail
        refine (awake_any _).mono ?_
        rintro e w6 ⟨rfl, hb6⟩
        replace HB := Lib.hid (HB.out.trans (hb6.mono HB.out.size))
        clear hb6
        go_wp2
        go_ret
        exact ⟨rfl, HB.out⟩
    ·
      have zb : (e2 == 0) = false := by rw [beq_eq_false_iff_ne]; exact z2
      go_wp2_with fail
      refine (R3.out _).mono ?_
      rintro e w4 ⟨A4, c4, rfl, hi4, hb4⟩
      have I4 := Lib.hid hi4
      clear hi4
      replace HB := Lib.hid (HB.out.trans (hb4.mono HB.out.size))
      clear hb4
      by_cases z3 : e3 = 0
      ·
        subst z3
        have hc := Vi.rlist_canon H3.out
        have q1 := hc.2.1
        have q2 := hc.2.2.1
        rw [hsl] at q2
        clear hc
        go_wp2_with fail
        refine (can_list H3.out A4 c4 _ I4.out).mono ?_
        rintro e w5 ⟨rfl, hb5⟩
        replace HB := Lib.hid (HB.out.trans (hb5.mono HB.out.size))
        clear hb5
        go_wp2_with fail
        refine (awake_any _).mono ?_
        rintro e w6 ⟨rfl, hb6⟩
        replace HB := Lib.hid (HB.out.trans (hb6.mono HB.out.size))
        clear hb6
        go_wp2
        go_ret
        exact ⟨rfl, HB.out⟩
      ·
        have zb : (e3 == 0) = false := by rw [beq_eq_false_iff_ne]; exact z3
        go_wp2_with fail
        refine (awake_any _).mono ?_
        rintro e w5 ⟨rfl, hb5⟩
        replace HB := Lib.hid (HB.out.trans (hb5.mono HB.out.size))
        clear hb5
        go_wp2
        go_ret
        exact ⟨rfl, HB.out⟩
  ·
    have zb : (e1 == 0) = false := by rw [beq_eq_false_iff_ne]; exact z1
    go_wp2_with fail
    refine (R2.out _).mono ?_
    rintro e w2 ⟨rfl, hb2⟩
    replace HB := Lib.hid (HB.out.trans (hb2.mono HB.out.size))
    clear hb2
    by_cases z2 : e2 = 0
    ·
      subst z2
      have hc := Vi.rtext_canon H2.out
      have q1 := hc.2.1
      have q2 := hc.2.2.1
      rw [hsl] at q2
      clear hc
      go_wp2_with fail
      refine (can_text H2.out _).mono ?_
      rintro e w3 ⟨rfl, hb3⟩
      replace HB := Lib.hid (HB.out.trans (hb3.mono HB.out.size))
      clear hb3
      go_wp2_with fail
      refine (R3.out _).mono ?_
      rintro e w4 ⟨A4, c4, rfl, hi4, hb4⟩
      have I4 := Lib.hid hi4
      clear hi4
      replace HB := Lib.hid (HB.out.trans (hb4.mono HB.out.size))
      clear hb4
      by_cases z3 : e3 = 0
      ·
        subst z3
        have hc := Vi.rlist_canon H3.out
        have q1 := hc.2.1
        have q2 := hc.2.2.1
        rw [hsl] at q2
        clear hc
        go_wp2_with fail
        refine (can_list H3.out A4 c4 _ I4.out).mono ?_
        rintro e w5 ⟨rfl, hb5⟩
        replace HB := Lib.hid (HB.out.trans (hb5.mono HB.out.size))
        clear hb5
        go_wp2_with fail
        refine (awake_any _).mono ?_
        rintro e w6 ⟨rfl, hb6⟩
        replace HB := Lib.hid (HB.out.trans (hb6.mono HB.out.size))
        clear hb6
        go_wp2
        go_ret
        exact ⟨rfl, HB.out⟩
      ·
        have zb : (e3 == 0) = false := by rw [beq_eq_false_iff_ne]; exact z3
        go_wp2_with fail
        refine (awake_any _).mono ?_
        rintro e w5 ⟨rfl, hb5⟩
        replace HB := Lib.hid (HB.out.trans (hb5.mono HB.out.size))
        clear hb5
        go_wp2
        go_ret
        exact ⟨rfl, HB.out⟩
    ·
      have zb : (e2 == 0) = false := by rw [beq_eq_false_iff_ne]; exact z2
      go_wp2_with fail
      refine (R3.out _).mono ?_
      rintro e w3 ⟨A3, c3, rfl, hi3, hb3⟩
      have I3 := Lib.hid hi3
      clear hi3
      replace HB := Lib.hid (HB.out.trans (hb3.mono HB.out.size))
      clear hb3
      by_cases z3 : e3 = 0
      ·
        subst z3
        have hc := Vi.rlist_canon H3.out
        have q1 := hc.2.1
        have q2 := hc.2.2.1
        rw [hsl] at q2
        clear hc
        go_wp2_with fail
        refine (can_list H3.out A3 c3 _ I3.out).mono ?_
        rintro e w4 ⟨rfl, hb4⟩
        replace HB := Lib.hid (HB.out.trans (hb4.mono HB.out.size))
        clear hb4
        go_wp2_with fail
        refine (awake_any _).mono ?_
        rintro e w5 ⟨rfl, hb5⟩
        replace HB := Lib.hid (HB.out.trans (hb5.mono HB.out.size))
        clear hb5
        go_wp2
        go_ret
        exact ⟨rfl, HB.out⟩
      ·
        have zb : (e3 == 0) = false := by rw [beq_eq_false_iff_ne]; exact z3
        go_wp2_with fail
        refine (awake_any _).mono ?_
        rintro e w4 ⟨rfl, hb4⟩
        replace HB := Lib.hid (HB.out.trans (hb4.mono HB.out.size))
        clear hb4
        go_wp2
        go_ret
        exact ⟨rfl, HB.out⟩
end Go.Proofs.Ytmpcjhfhhphioaa
