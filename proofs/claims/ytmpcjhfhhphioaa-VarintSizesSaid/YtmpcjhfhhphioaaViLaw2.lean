/- The law VarintSizes, walked. No condition. -/
import Derived.Test.YtmpcjhfhhphioaaViAwake
import Derived.Test.YtmpcjhfhhphioaaViSize
namespace Go.Proofs.Ytmpcjhfhhphioaa
open Go Go.RowKit

theorem len_no {n : Int} (h : Vi.inR n = false) : (Vi.intL n).length = 0 ∧ Vi.intE n = 2 := by unfold Vi.intL Vi.intE; rw [h]; exact ⟨rfl, rfl⟩
theorem len_yes {n : Int} (h : Vi.inR n = true) : 1 ≤ (Vi.intL n).length ∧ Vi.intE n = 0 := by
  unfold Vi.intL Vi.intE
  rw [h]
  refine ⟨?_, rfl⟩
  rw [if_pos rfl, ← gs_enc, gs_len]
  omega

set_option maxHeartbeats 4000000 in
set_option maxRecDepth 100000 in
theorem lawSizes (a b : Int) (w : World) :
    Calls Try.prog 4 #[.int .i64 a, .int .i64 b] w fun e w' => e = .returned (.bool true) ∧ Below w.heap.size w w' := by
  have HIA := Lib.hid (int_any a)
  have HSA := Lib.hid (size_any a)
  have HSB := Lib.hid (size_any b)
  have h9 := Vi.intL_len9 a
  have hsz := str_size (Vi.intL a)
  have hmono : Vi.inR a = true → Vi.inR b = true → (0 ≤ a ∧ a ≤ b ∨ b ≤ a ∧ a < 0) → (Vi.intL a).length ≤ (Vi.intL b).length := fun h1 h2 h => by
    unfold Vi.intL
    rw [if_pos h1, if_pos h2]
    exact Vi.size_mono h
  have n1 := @len_no a
  have n2 := @len_yes a
  have n3 := @len_no b
  have n4 := @len_yes b
  generalize (Vi.intL a).length = la at HSA h9 hsz hmono n1 n2
  generalize (Vi.intL b).length = lb at HSB hmono n3 n4
  generalize str (Vi.intL a) = S at HIA hsz
  generalize Vi.intE a = ea at HIA n1 n2
  generalize Vi.inR a = ra at hmono n1 n2
  generalize Vi.inR b = rb at hmono n3 n4
  have HM := Lib.hid hmono
  have N3 := Lib.hid n3
  have N4 := Lib.hid n4
  clear hmono n3 n4
  cases ra
  case false =>
    obtain ⟨rfl, rfl⟩ := n1 rfl
    clear n2 HM
    have HB : Hid (Below w.heap.size w w) := Below.refl _ _
    go_enter Try.func4, Try.ntmps4
    go_wp2_with fail
    refine (HIA.out _).mono ?_
    rintro e w1 ⟨rfl, hb1⟩
    replace HB := Lib.hid (HB.out.trans (hb1.mono HB.out.size))
    clear hb1
    go_wp2_with fail
    refine (HSA.out _).mono ?_
    rintro e w2 ⟨rfl, hb2⟩
    replace HB := Lib.hid (HB.out.trans (hb2.mono HB.out.size))
    clear hb2
    go_wp2_with fail
    refine (HSA.out _).mono ?_
    rintro e w3 ⟨rfl, hb3⟩
    replace HB := Lib.hid (HB.out.trans (hb3.mono HB.out.size))
    clear hb3
    go_wp2_with fail
    refine (awake_any _).mono ?_
    rintro e w4 ⟨rfl, hb4⟩
    replace HB := Lib.hid (HB.out.trans (hb4.mono HB.out.size))
    clear hb4
    go_wp2
    go_ret
    exact ⟨rfl, HB.out⟩
  case true =>
    obtain ⟨hla, rfl⟩ := n2 rfl
    clear n1
    have hlb : ((la : Int) == 0) = false := by rw [beq_eq_false_iff_ne]; omega
    have HB : Hid (Below w.heap.size w w) := Below.refl _ _
    go_enter Try.func4, Try.ntmps4
    go_wp2_with fail
    refine (HIA.out _).mono ?_
    rintro e w1 ⟨rfl, hb1⟩
    replace HB := Lib.hid (HB.out.trans (hb1.mono HB.out.size))
    clear hb1
    go_wp2_with fail
    refine (HSA.out _).mono ?_
    rintro e w2 ⟨rfl, hb2⟩
    replace HB := Lib.hid (HB.out.trans (hb2.mono HB.out.size))
    clear hb2
    go_wp2_with fail
    refine (HSA.out _).mono ?_
    rintro e w3 ⟨rfl, hb3⟩
    replace HB := Lib.hid (HB.out.trans (hb3.mono HB.out.size))
    clear hb3
    cases rb
    case false =>
      obtain ⟨rfl, _⟩ := N3.out rfl
      go_wp2_with fail
      refine (HSB.out _).mono ?_
      rintro e w4 ⟨rfl, hb4⟩
      replace HB := Lib.hid (HB.out.trans (hb4.mono HB.out.size))
      clear hb4
      go_wp2_with fail
      refine (awake_any _).mono ?_
      rintro e w5 ⟨rfl, hb5⟩
      replace HB := Lib.hid (HB.out.trans (hb5.mono HB.out.size))
      clear hb5
      go_wp2
      go_ret
      exact ⟨rfl, HB.out⟩
    case true =>
      obtain ⟨hb1, _⟩ := N4.out rfl
      go_wp2_with fail
      refine (HSB.out _).mono ?_
      rintro e w4 ⟨rfl, hb4⟩
      replace HB := Lib.hid (HB.out.trans (hb4.mono HB.out.size))
      clear hb4
      by_cases h0 : 0 ≤ a
      ·
        by_cases h1 : a ≤ b
        ·
          have hle := HM.out (by trivial) (by trivial) (by omega)
          go_wp2_with fail
          refine (HSA.out _).mono ?_
          rintro e w5 ⟨rfl, hb5⟩
          replace HB := Lib.hid (HB.out.trans (hb5.mono HB.out.size))
          clear hb5
          go_wp2_with fail
          refine (HSB.out _).mono ?_
          rintro e w6 ⟨rfl, hb6⟩
          replace HB := Lib.hid (HB.out.trans (hb6.mono HB.out.size))
          clear hb6
          go_wp2_with fail
          refine (awake_any _).mono ?_
          rintro e w7 ⟨rfl, hb7⟩
          replace HB := Lib.hid (HB.out.trans (hb7.mono HB.out.size))
          clear hb7
          go_wp2
          go_ret
          exact ⟨rfl, HB.out⟩
        ·
          go_wp2_with fail
          refine (awake_any _).mono ?_
          rintro e w5 ⟨rfl, hb5⟩
          replace HB := Lib.hid (HB.out.trans (hb5.mono HB.out.size))
          clear hb5
          go_wp2
          go_ret
          exact ⟨rfl, HB.out⟩
      ·
        by_cases h2 : b ≤ a
        ·
          have hle := HM.out (by trivial) (by trivial) (by omega)
          go_wp2_with fail
          refine (HSA.out _).mono ?_
          rintro e w5 ⟨rfl, hb5⟩
          replace HB := Lib.hid (HB.out.trans (hb5.mono HB.out.size))
          clear hb5
          go_wp2_with fail
          refine (HSB.out _).mono ?_
          rintro e w6 ⟨rfl, hb6⟩
          replace HB := Lib.hid (HB.out.trans (hb6.mono HB.out.size))
          clear hb6
          go_wp2_with fail
          refine (awake_any _).mono ?_
          rintro e w7 ⟨rfl, hb7⟩
          replace HB := Lib.hid (HB.out.trans (hb7.mono HB.out.size))
          clear hb7
          go_wp2
          go_ret
          exact ⟨rfl, HB.out⟩
        ·
          go_wp2_with fail
          refine (awake_any _).mono ?_
          rintro e w5 ⟨rfl, hb5⟩
          replace HB := Lib.hid (HB.out.trans (hb5.mono HB.out.size))
          clear hb5
          go_wp2
          go_ret
          exact ⟨rfl, HB.out⟩

theorem lawSizesI (a b : Int) (_ : (Lit.int .i64 a).wf = true) (_ : (Lit.int .i64 b).wf = true) (w : World) :
    Calls Try.prog 4 #[.int .i64 a, .int .i64 b] w fun e w' => e = .returned (.bool true) ∧ Below w.heap.size w w' := lawSizes a b w
end Go.Proofs.Ytmpcjhfhhphioaa
