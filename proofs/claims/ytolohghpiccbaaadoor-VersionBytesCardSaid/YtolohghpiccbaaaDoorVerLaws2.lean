/- The laws VersionCovers, VersionTicks, walked. Conditions: the lists lie in memory; the program's table holds what its initialiser lays. -/
import Derived.Test.YtolohghpiccbaaaDoorVerFine
import Derived.Test.YtolohghpiccbaaaDoorVerLaws
namespace Go.Proofs.YtolohghpiccbaaaDoor
open Go Go.RowKit
open Ver (at' chk okn fit cov tickE tickL leB cmpV)

set_option maxHeartbeats 4000000 in
set_option maxRecDepth 100000 in
theorem lawCovers (Aa Ab : Option Addr) (ca cb : Nat) (a b : List Int) (i n : Int) (w : World) (ha : IntsAt w Aa a) (hb : IntsAt w Ab b) (hT : Tab w) (ma : a.length ≤ maxLen) (mb : b.length ≤ maxLen) :
    Calls Tryd.prog 7 #[.slice Aa a.length ca, .slice Ab b.length cb, .int .i64 i, .int .i64 n] w fun e w' => e = .returned (.bool true) ∧ Below w.heap.size w w' := by
  have Ia := Lib.hid ha
  clear ha
  have Ib := Lib.hid hb
  clear hb
  have HT := Lib.hid hT
  clear hT
  have HB : Hid (Below w.heap.size w w) := Below.refl _ _
  go_enter Tryd.func7, Tryd.ntmps7
  have hms : ∀ n ∈ [a.length, b.length], n ≤ maxLen := (by simp only [List.mem_cons, List.not_mem_nil, or_false]; intro n hn; rcases hn with rfl | rfl <;> assumption)
  have HMS := Lib.hid hms
  clear hms
  go_wp2_with fail
  refine (great_any w.heap.size [a.length, b.length] _ (vecs_two w 23 Aa Ab a.length ca b.length cb) (by simp) HMS.out).mono ?_
  rintro e w0 ⟨rfl, rfl⟩
  replace Ia := Lib.hid (Ia.out.alloc (.cells #[.slice Aa a.length ca, .slice Ab b.length cb] 23))
  replace Ib := Lib.hid (Ib.out.alloc (.cells #[.slice Aa a.length ca, .slice Ab b.length cb] 23))
  replace HT := Lib.hid (HT.out.alloc (.cells #[.slice Aa a.length ca, .slice Ab b.length cb] 23))
  replace HB := Lib.hid (HB.out.alloc (Nat.le_refl _) (.cells #[.slice Aa a.length ca, .slice Ab b.length cb] 23))
  generalize w.alloc (.cells #[.slice Aa a.length ca, .slice Ab b.length cb] 23) = W at Ia Ib HT HB ⊢
  cases hg : ([a.length, b.length] : List Nat).any (40 < ·)
  case true =>
    clear hg
    go_wp2_with fail
    refine (awake_any _ HT.out).mono ?_
    rintro e w51 ⟨rfl, hb51⟩
    replace Ia := Lib.hid (Ia.out.below hb51)
    replace Ib := Lib.hid (Ib.out.below hb51)
    replace HT := Lib.hid (HT.out.below hb51)
    replace HB := Lib.hid (HB.out.trans (hb51.mono HB.out.size))
    clear hb51
    go_wp2
    go_ret
    exact ⟨rfl, HB.out⟩
  case false =>
    clear hg
    go_wp2_with fail
    refine (fine_any W.heap.size [a, b] _ (rows_two 23 Ia.out ma Ib.out mb) (by simp)).mono ?_
    rintro e w0 ⟨rfl, rfl⟩
    replace Ia := Lib.hid (Ia.out.alloc (.cells #[.slice Aa a.length ca, .slice Ab b.length cb] 23))
    replace Ib := Lib.hid (Ib.out.alloc (.cells #[.slice Aa a.length ca, .slice Ab b.length cb] 23))
    replace HT := Lib.hid (HT.out.alloc (.cells #[.slice Aa a.length ca, .slice Ab b.length cb] 23))
    replace HB := Lib.hid (HB.out.alloc HB.out.size (.cells #[.slice Aa a.length ca, .slice Ab b.length cb] 23))
    generalize W.alloc (.cells #[.slice Aa a.length ca, .slice Ab b.length cb] 23) = V at Ia Ib HT HB ⊢
    cases hf : fineB [a, b]
    case false =>
      clear hf
      go_wp2_with fail
      refine (awake_any _ HT.out).mono ?_
      rintro e w51 ⟨rfl, hb51⟩
      replace Ia := Lib.hid (Ia.out.below hb51)
      replace Ib := Lib.hid (Ib.out.below hb51)
      replace HT := Lib.hid (HT.out.below hb51)
      replace HB := Lib.hid (HB.out.trans (hb51.mono HB.out.size))
      clear hb51
      go_wp2
      go_ret
      exact ⟨rfl, HB.out⟩
    case true =>
      obtain ⟨va, vb⟩ := fine_two hf
      have Va := Lib.hid va
      have Vb := Lib.hid vb
      clear hf va vb
      go_wp2_with fail
      refine (join_any Aa Ab ca cb a b _ Ia.out Ib.out ma mb).mono ?_
      rintro e w1 ⟨A1, c1, rfl, hi1, hb1⟩
      rw [Va.out.fit Vb.out]
      try rw [Va.out.fit Vb.out] at hi1
      have I1 := Lib.hid hi1
      clear hi1
      replace Ia := Lib.hid (Ia.out.below hb1)
      replace Ib := Lib.hid (Ib.out.below hb1)
      replace HT := Lib.hid (HT.out.below hb1)
      replace HB := Lib.hid (HB.out.trans (hb1.mono HB.out.size))
      clear hb1
      go_wp2_with fail
      refine (meet_any Aa Ab ca cb a b _ Ia.out Ib.out ma mb).mono ?_
      rintro e w2 ⟨A2, c2, rfl, hi2, hb2⟩
      rw [Va.out.fit Vb.out]
      try rw [Va.out.fit Vb.out] at hi2
      have I2 := Lib.hid hi2
      clear hi2
      replace Ia := Lib.hid (Ia.out.below hb2)
      replace Ib := Lib.hid (Ib.out.below hb2)
      replace HT := Lib.hid (HT.out.below hb2)
      replace I1 := Lib.hid (I1.out.below hb2)
      replace HB := Lib.hid (HB.out.trans (hb2.mono HB.out.size))
      clear hb2
      go_wp2_with fail
      refine (covers_any Aa ca a i n _ Ia.out ma).mono ?_
      rintro e w3 ⟨rfl, rfl⟩
      go_wp2_with fail
      refine (covers_any Ab cb b i n _ Ib.out mb).mono ?_
      rintro e w4 ⟨rfl, rfl⟩
      have HJ := Lib.hid (Ver.cov_join Va.out Vb.out i n)
      have HM := Lib.hid (Ver.cov_meet Va.out Vb.out i n)
      have LJ := vlen (Va.out.join Vb.out)
      have LM := vlen (Va.out.meet Vb.out)
      generalize cov a i n = x at HJ HM ⊢
      generalize cov b i n = y at HJ HM ⊢
      cases x <;> cases y
      all_goals
        go_wp2_with fail
        refine (covers_any _ _ (Ver.joinL a b) i n _ I1.out LJ).mono ?_
        rintro e w5 ⟨rfl, rfl⟩
        rw [HJ.out]
        go_wp2_with fail
        refine (covers_any _ _ (Ver.meetL a b) i n _ I2.out LM).mono ?_
        rintro e w6 ⟨rfl, rfl⟩
        rw [HM.out]
        go_wp2_with fail
        refine (awake_any _ HT.out).mono ?_
        rintro e w7 ⟨rfl, hb7⟩
        replace Ia := Lib.hid (Ia.out.below hb7)
        replace Ib := Lib.hid (Ib.out.below hb7)
        replace HT := Lib.hid (HT.out.below hb7)
        replace I1 := Lib.hid (I1.out.below hb7)
        replace I2 := Lib.hid (I2.out.below hb7)
        replace HB := Lib.hid (HB.out.trans (hb7.mono HB.out.size))
        clear hb7
        go_wp2
        go_ret
        exact ⟨rfl, HB.out⟩

set_option maxHeartbeats 4000000 in
set_option maxRecDepth 100000 in
theorem lawTicks (Aa : Option Addr) (ca : Nat) (a : List Int) (n i q : Int) (w : World) (ha : IntsAt w Aa a) (hT : Tab w) (ma : a.length ≤ maxLen) :
    Calls Tryd.prog 8 #[.slice Aa a.length ca, .int .i64 n, .int .i64 i, .int .i64 q] w fun e w' => e = .returned (.bool true) ∧ Below w.heap.size w w' := by
  have Ia := Lib.hid ha
  clear ha
  have HT := Lib.hid hT
  clear hT
  have HB : Hid (Below w.heap.size w w) := Below.refl _ _
  go_enter Tryd.func8, Tryd.ntmps8
  have hms : ∀ n ∈ [a.length], n ≤ maxLen := (by simp only [List.mem_cons, List.not_mem_nil, or_false]; intro n hn; rcases hn with rfl <;> assumption)
  have HMS := Lib.hid hms
  clear hms
  go_wp2_with fail
  refine (great_any w.heap.size [a.length] _ (vecs_one w 23 Aa a.length ca) (by simp) HMS.out).mono ?_
  rintro e w0 ⟨rfl, rfl⟩
  replace Ia := Lib.hid (Ia.out.alloc (.cells #[.slice Aa a.length ca] 23))
  replace HT := Lib.hid (HT.out.alloc (.cells #[.slice Aa a.length ca] 23))
  replace HB := Lib.hid (HB.out.alloc (Nat.le_refl _) (.cells #[.slice Aa a.length ca] 23))
  generalize w.alloc (.cells #[.slice Aa a.length ca] 23) = W at Ia HT HB ⊢
  cases hg : ([a.length] : List Nat).any (40 < ·)
  case true =>
    clear hg
    go_wp2_with fail
    refine (awake_any _ HT.out).mono ?_
    rintro e w51 ⟨rfl, hb51⟩
    replace Ia := Lib.hid (Ia.out.below hb51)
    replace HT := Lib.hid (HT.out.below hb51)
    replace HB := Lib.hid (HB.out.trans (hb51.mono HB.out.size))
    clear hb51
    go_wp2
    go_ret
    exact ⟨rfl, HB.out⟩
  case false =>
    clear hg
    go_wp2_with fail
    refine (new_any n _).mono ?_
    rintro e w1 ⟨A1, c1, rfl, hi1, hb1⟩
    have I1 := Lib.hid hi1
    clear hi1
    replace Ia := Lib.hid (Ia.out.below hb1)
    replace HT := Lib.hid (HT.out.below hb1)
    replace HB := Lib.hid (HB.out.trans (hb1.mono HB.out.size))
    clear hb1
    go_wp2_with fail
    refine (newR_any n _).mono ?_
    rintro e w2 ⟨A2, c2, rfl, hi2, hb2⟩
    have I2 := Lib.hid hi2
    clear hi2
    replace Ia := Lib.hid (Ia.out.below hb2)
    replace HT := Lib.hid (HT.out.below hb2)
    replace I1 := Lib.hid (I1.out.below hb2)
    replace HB := Lib.hid (HB.out.trans (hb2.mono HB.out.size))
    clear hb2
    go_wp2_with fail
    refine (tick_any Aa ca a i _ Ia.out ma).mono ?_
    rintro e w3 ⟨A3, c3, rfl, hi3, hb3⟩
    have I3 := Lib.hid hi3
    clear hi3
    replace Ia := Lib.hid (Ia.out.below hb3)
    replace HT := Lib.hid (HT.out.below hb3)
    replace I1 := Lib.hid (I1.out.below hb3)
    replace I2 := Lib.hid (I2.out.below hb3)
    replace HB := Lib.hid (HB.out.trans (hb3.mono HB.out.size))
    clear hb3
    go_wp2_with fail
    refine (tickR_any Aa ca a i _ Ia.out ma).mono ?_
    rintro e w4 ⟨A4, c4, rfl, hi4, hb4⟩
    have I4 := Lib.hid hi4
    clear hi4
    replace Ia := Lib.hid (Ia.out.below hb4)
    replace HT := Lib.hid (HT.out.below hb4)
    replace I1 := Lib.hid (I1.out.below hb4)
    replace I2 := Lib.hid (I2.out.below hb4)
    replace I3 := Lib.hid (I3.out.below hb4)
    replace HB := Lib.hid (HB.out.trans (hb4.mono HB.out.size))
    clear hb4
    have LT : (tickL a i).length ≤ maxLen := by unfold tickL; split <;> simp <;> omega
    go_wp2_with fail
    refine (sameV_any _ _ _ _ (newL n) (newL n) _ I1.out I2.out (newL_len n) (newL_len n)).mono ?_
    rintro e w5 ⟨rfl, hb5⟩
    rw [decide_self]
    replace Ia := Lib.hid (Ia.out.below hb5)
    replace HT := Lib.hid (HT.out.below hb5)
    replace I1 := Lib.hid (I1.out.below hb5)
    replace I2 := Lib.hid (I2.out.below hb5)
    replace I3 := Lib.hid (I3.out.below hb5)
    replace I4 := Lib.hid (I4.out.below hb5)
    replace HB := Lib.hid (HB.out.trans (hb5.mono HB.out.size))
    clear hb5
    go_wp2_with fail
    refine (check_any Aa ca a _ Ia.out ma).mono ?_
    rintro e w6 ⟨rfl, rfl⟩
    go_wp2_with fail
    refine (checkR_any Aa ca a _ Ia.out ma).mono ?_
    rintro e w7 ⟨rfl, rfl⟩
    go_wp2_with fail
    refine (sameV_any _ _ _ _ (tickL a i) (tickL a i) _ I3.out I4.out LT LT).mono ?_
    rintro e w8 ⟨rfl, hb8⟩
    rw [decide_self]
    replace Ia := Lib.hid (Ia.out.below hb8)
    replace HT := Lib.hid (HT.out.below hb8)
    replace I1 := Lib.hid (I1.out.below hb8)
    replace I2 := Lib.hid (I2.out.below hb8)
    replace I3 := Lib.hid (I3.out.below hb8)
    replace I4 := Lib.hid (I4.out.below hb8)
    replace HB := Lib.hid (HB.out.trans (hb8.mono HB.out.size))
    clear hb8
    go_wp2_with fail
    refine (covers_any Aa ca a i q _ Ia.out ma).mono ?_
    rintro e w9 ⟨rfl, rfl⟩
    go_wp2_with fail
    refine (coversR_any Aa ca a i q _ Ia.out ma).mono ?_
    rintro e w10 ⟨rfl, rfl⟩
    go_wp2_with fail
    refine (awake_any _ HT.out).mono ?_
    rintro e w11 ⟨rfl, hb11⟩
    replace Ia := Lib.hid (Ia.out.below hb11)
    replace HT := Lib.hid (HT.out.below hb11)
    replace I1 := Lib.hid (I1.out.below hb11)
    replace I2 := Lib.hid (I2.out.below hb11)
    replace I3 := Lib.hid (I3.out.below hb11)
    replace I4 := Lib.hid (I4.out.below hb11)
    replace HB := Lib.hid (HB.out.trans (hb11.mono HB.out.size))
    clear hb11
    go_wp2
    go_ret
    exact ⟨rfl, HB.out⟩
end Go.Proofs.YtolohghpiccbaaaDoor
