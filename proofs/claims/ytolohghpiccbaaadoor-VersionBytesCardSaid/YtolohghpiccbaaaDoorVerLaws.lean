/- The laws VersionPairs, VersionCovers, walked. Conditions: the lists lie in memory; the program's table holds what its initialiser lays. -/
import Derived.Test.YtolohghpiccbaaaDoorVerAwake
namespace Go.Proofs.YtolohghpiccbaaaDoor
open Go Go.RowKit
open Ver (at' chk okn fit cov tickE tickL)

theorem decide_self (l : List Int) : decide (l = l) = true := decide_eq_true rfl
set_option maxHeartbeats 4000000 in
set_option maxRecDepth 100000 in
theorem lawPairs (Aa Ab : Option Addr) (ca cb : Nat) (a b : List Int) (w : World) (ha : IntsAt w Aa a) (hb : IntsAt w Ab b) (hT : Tab w) (ma : a.length ≤ maxLen) (mb : b.length ≤ maxLen) :
    Calls Tryd.prog 3 #[.slice Aa a.length ca, .slice Ab b.length cb] w fun e w' => e = .returned (.bool true) ∧ Below w.heap.size w w' := by
  have Ia := Lib.hid ha
  clear ha
  have Ib := Lib.hid hb
  clear hb
  have HT := Lib.hid hT
  clear hT
  have HB : Hid (Below w.heap.size w w) := Below.refl _ _
  go_enter Tryd.func3, Tryd.ntmps3
  have hms : ∀ n ∈ [a.length, b.length], n ≤ maxLen := (by simp only [List.mem_cons, List.not_mem_nil, or_false]; intro n hn; rcases hn with rfl | rfl <;> assumption)
  have HMS := Lib.hid hms
  clear hms
  go_wp2_with fail
  refine (great_any w.heap.size [a.length, b.length] _ (vecs_two w 23 Aa Ab a.length ca b.length cb) (by simp) HMS.out).mono ?_
  rintro e w0 ⟨rfl, rfl⟩
  replace Ia := Lib.hid (Ia.out.alloc (.cells #[.slice Aa a.length ca, .slice Ab b.length cb] 23))
  replace Ib := Lib.hid (Ib.out.alloc (.cells #[.slice Aa a.length ca, .slice Ab b.length cb] 23))
  replace HT := Lib.hid (HT.out.alloc (.cells #[.slice Aa a.length ca, .slice Ab b.length cb] 23))
  replace HB := Lib.hid (HB.out.alloc (Nat.le_refl _) (.cells #[.slice Aa a.length ca, .slice Ab b.length cb] 23))
  generalize w.alloc (.cells #[.slice Aa a.length ca, .slice Ab b.length cb] 23) = W at Ia Ib HT HB ⊢
  cases hg : ([a.length, b.length] : List Nat).any (40 < ·)
  case true =>
    clear hg
    go_wp2_with fail
    refine (awake_any _ HT.out).mono ?_
    rintro e w51 ⟨rfl, hb51⟩
    replace Ia := Lib.hid (Ia.out.below hb51)
    replace Ib := Lib.hid (Ib.out.below hb51)
    replace HT := Lib.hid (HT.out.below hb51)
    replace HB := Lib.hid (HB.out.trans (hb51.mono HB.out.size))
    clear hb51
    go_wp2
    go_ret
    exact ⟨rfl, HB.out⟩
  case false =>
    clear hg
    go_wp2_with fail
    refine (join_any Aa Ab ca cb a b _ Ia.out Ib.out ma mb).mono ?_
    rintro e w1 ⟨A1, c1, rfl, hi1, hb1⟩
    have I1 := Lib.hid hi1
    clear hi1
    replace Ia := Lib.hid (Ia.out.below hb1)
    replace Ib := Lib.hid (Ib.out.below hb1)
    replace HT := Lib.hid (HT.out.below hb1)
    replace HB := Lib.hid (HB.out.trans (hb1.mono HB.out.size))
    clear hb1
    go_wp2_with fail
    refine (joinR_any Aa Ab ca cb a b _ Ia.out Ib.out ma mb).mono ?_
    rintro e w2 ⟨A2, c2, rfl, hi2, hb2⟩
    have I2 := Lib.hid hi2
    clear hi2
    replace Ia := Lib.hid (Ia.out.below hb2)
    replace Ib := Lib.hid (Ib.out.below hb2)
    replace HT := Lib.hid (HT.out.below hb2)
    replace I1 := Lib.hid (I1.out.below hb2)
    replace HB := Lib.hid (HB.out.trans (hb2.mono HB.out.size))
    clear hb2
    go_wp2_with fail
    refine (meet_any Aa Ab ca cb a b _ Ia.out Ib.out ma mb).mono ?_
    rintro e w3 ⟨A3, c3, rfl, hi3, hb3⟩
    have I3 := Lib.hid hi3
    clear hi3
    replace Ia := Lib.hid (Ia.out.below hb3)
    replace Ib := Lib.hid (Ib.out.below hb3)
    replace HT := Lib.hid (HT.out.below hb3)
    replace I1 := Lib.hid (I1.out.below hb3)
    replace I2 := Lib.hid (I2.out.below hb3)
    replace HB := Lib.hid (HB.out.trans (hb3.mono HB.out.size))
    clear hb3
    go_wp2_with fail
    refine (meetR_any Aa Ab ca cb a b _ Ia.out Ib.out ma mb).mono ?_
    rintro e w4 ⟨A4, c4, rfl, hi4, hb4⟩
    have I4 := Lib.hid hi4
    clear hi4
    replace Ia := Lib.hid (Ia.out.below hb4)
    replace Ib := Lib.hid (Ib.out.below hb4)
    replace HT := Lib.hid (HT.out.below hb4)
    replace I1 := Lib.hid (I1.out.below hb4)
    replace I2 := Lib.hid (I2.out.below hb4)
    replace I3 := Lib.hid (I3.out.below hb4)
    replace HB := Lib.hid (HB.out.trans (hb4.mono HB.out.size))
    clear hb4
    go_wp2_with fail
    refine (compare_any Aa Ab ca cb a b _ Ia.out Ib.out HT.out ma mb).mono ?_
    rintro e w5 ⟨rfl, hb5⟩
    replace Ia := Lib.hid (Ia.out.below hb5)
    replace Ib := Lib.hid (Ib.out.below hb5)
    replace HT := Lib.hid (HT.out.below hb5)
    replace I1 := Lib.hid (I1.out.below hb5)
    replace I2 := Lib.hid (I2.out.below hb5)
    replace I3 := Lib.hid (I3.out.below hb5)
    replace I4 := Lib.hid (I4.out.below hb5)
    replace HB := Lib.hid (HB.out.trans (hb5.mono HB.out.size))
    clear hb5
    go_wp2_with fail
    refine (compareR_any Aa Ab ca cb a b _ Ia.out Ib.out ma mb).mono ?_
    rintro e w6 ⟨rfl, hb6⟩
    replace Ia := Lib.hid (Ia.out.below hb6)
    replace Ib := Lib.hid (Ib.out.below hb6)
    replace HT := Lib.hid (HT.out.below hb6)
    replace I1 := Lib.hid (I1.out.below hb6)
    replace I2 := Lib.hid (I2.out.below hb6)
    replace I3 := Lib.hid (I3.out.below hb6)
    replace I4 := Lib.hid (I4.out.below hb6)
    replace HB := Lib.hid (HB.out.trans (hb6.mono HB.out.size))
    clear hb6
    have LJ : (Ver.joinL a b).length ≤ maxLen := by unfold Ver.joinL; split <;> simp <;> omega
    have LM : (Ver.meetL a b).length ≤ maxLen := by unfold Ver.meetL; split <;> simp <;> omega
    go_wp2_with fail
    refine (sameV_any _ _ _ _ (Ver.joinL a b) (Ver.joinL a b) _ I1.out I2.out LJ LJ).mono ?_
    rintro e w7 ⟨rfl, hb7⟩
    rw [decide_self]
    replace Ia := Lib.hid (Ia.out.below hb7)
    replace Ib := Lib.hid (Ib.out.below hb7)
    replace HT := Lib.hid (HT.out.below hb7)
    replace I1 := Lib.hid (I1.out.below hb7)
    replace I2 := Lib.hid (I2.out.below hb7)
    replace I3 := Lib.hid (I3.out.below hb7)
    replace I4 := Lib.hid (I4.out.below hb7)
    replace HB := Lib.hid (HB.out.trans (hb7.mono HB.out.size))
    clear hb7
    go_wp2_with fail
    refine (sameV_any _ _ _ _ (Ver.meetL a b) (Ver.meetL a b) _ I3.out I4.out LM LM).mono ?_
    rintro e w8 ⟨rfl, hb8⟩
    rw [decide_self]
    replace Ia := Lib.hid (Ia.out.below hb8)
    replace Ib := Lib.hid (Ib.out.below hb8)
    replace HT := Lib.hid (HT.out.below hb8)
    replace I1 := Lib.hid (I1.out.below hb8)
    replace I2 := Lib.hid (I2.out.below hb8)
    replace I3 := Lib.hid (I3.out.below hb8)
    replace I4 := Lib.hid (I4.out.below hb8)
    replace HB := Lib.hid (HB.out.trans (hb8.mono HB.out.size))
    clear hb8
    go_wp2_with fail
    refine (awake_any _ HT.out).mono ?_
    rintro e w9 ⟨rfl, hb9⟩
    replace Ia := Lib.hid (Ia.out.below hb9)
    replace Ib := Lib.hid (Ib.out.below hb9)
    replace HT := Lib.hid (HT.out.below hb9)
    replace I1 := Lib.hid (I1.out.below hb9)
    replace I2 := Lib.hid (I2.out.below hb9)
    replace I3 := Lib.hid (I3.out.below hb9)
    replace I4 := Lib.hid (I4.out.below hb9)
    replace HB := Lib.hid (HB.out.trans (hb9.mono HB.out.size))
    clear hb9
    go_wp2
    go_ret
    exact ⟨rfl, HB.out⟩
end Go.Proofs.YtolohghpiccbaaaDoor
