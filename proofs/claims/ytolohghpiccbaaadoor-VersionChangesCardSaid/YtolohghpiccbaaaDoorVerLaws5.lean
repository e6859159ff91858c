/- The law VersionChanges, walked. Conditions: the list lies in memory; the program's table holds what its initialiser lays. -/
import Derived.Test.YtolohghpiccbaaaDoorVerLaws2
namespace Go.Proofs.YtolohghpiccbaaaDoor
open Go Go.RowKit
open Ver (at' chk okn fit cov tickE tickL leB cmpV)

theorem IntsAt.at {w : World} {b off : Nat} {l : List Int} (h : IntsAt w (some ⟨b, off, none⟩) l) (k : Nat) (hk : k < l.length) : w.cell? ⟨b, off + k, none⟩ = some (.int .i64 (at' l k)) := by
  obtain ⟨b', o', hA, _, hc⟩ := h.opened (by omega)
  cases hA
  exact hc k hk
theorem tick_none {v : List Int} {i : Int} (h : tickE v i ≠ 0) : tickL v i = [] := by unfold tickL; rw [if_neg h]

set_option maxHeartbeats 8000000 in
set_option maxRecDepth 100000 in
theorem lawChanges (Aa : Option Addr) (ca : Nat) (a : List Int) (i k : Int) (w : World) (ha : IntsAt w Aa a) (hT : Tab w) (ma : a.length ≤ maxLen) :
    Calls Tryd.prog 6 #[.slice Aa a.length ca, .int .i64 i, .int .i64 k] w fun e w' => e = .returned (.bool true) ∧ Below w.heap.size w w' := by
  have Ia := Lib.hid ha
  clear ha
  have HT := Lib.hid hT
  clear hT
  have HB : Hid (Below w.heap.size w w) := Below.refl _ _
  go_enter Tryd.func6, Tryd.ntmps6
  have hms : ∀ n ∈ [a.length], n ≤ maxLen := (by simp only [List.mem_cons, List.not_mem_nil, or_false]; intro n hn; rcases hn with rfl <;> assumption)
  have HMS := Lib.hid hms
  clear hms
  go_wp2_with fail
  refine (great_any w.heap.size [a.length] _ (vecs_one w 23 Aa a.length ca) (by simp) HMS.out).mono ?_
  rintro e w0 ⟨rfl, rfl⟩
  replace Ia := Lib.hid (Ia.out.alloc (.cells #[.slice Aa a.length ca] 23))
  replace HT := Lib.hid (HT.out.alloc (.cells #[.slice Aa a.length ca] 23))
  replace HB := Lib.hid (HB.out.alloc (Nat.le_refl _) (.cells #[.slice Aa a.length ca] 23))
  generalize w.alloc (.cells #[.slice Aa a.length ca] 23) = W at Ia HT HB ⊢
  cases hg : ([a.length] : List Nat).any (40 < ·)
  case true =>
    clear hg
    go_wp2_with fail
    refine (awake_any _ HT.out).mono ?_
    rintro e w51 ⟨rfl, hb51⟩
    replace Ia := Lib.hid (Ia.out.below hb51)
    replace HT := Lib.hid (HT.out.below hb51)
    replace HB := Lib.hid (HB.out.trans (hb51.mono HB.out.size))
    clear hb51
    go_wp2
    go_ret
    exact ⟨rfl, HB.out⟩
  case false =>
    clear hg
    go_wp2_with fail
    refine (fine_any W.heap.size [a] _ (rows_one 23 Ia.out ma) (by simp)).mono ?_
    rintro e w0 ⟨rfl, rfl⟩
    replace Ia := Lib.hid (Ia.out.alloc (.cells #[.slice Aa a.length ca] 23))
    replace HT := Lib.hid (HT.out.alloc (.cells #[.slice Aa a.length ca] 23))
    replace HB := Lib.hid (HB.out.alloc HB.out.size (.cells #[.slice Aa a.length ca] 23))
    generalize W.alloc (.cells #[.slice Aa a.length ca] 23) = V at Ia HT HB ⊢
    cases hf : fineB [a]
    case false =>
      clear hf
      go_wp2_with fail
      refine (awake_any _ HT.out).mono ?_
      rintro e w51 ⟨rfl, hb51⟩
      replace Ia := Lib.hid (Ia.out.below hb51)
      replace HT := Lib.hid (HT.out.below hb51)
      replace HB := Lib.hid (HB.out.trans (hb51.mono HB.out.size))
      clear hb51
      go_wp2
      go_ret
      exact ⟨rfl, HB.out⟩
    case true =>
      have va := fine_one hf
      have Va := Lib.hid va
      clear hf va
      have L1 := Va.out.2.1
      have L2 := Va.out.2.2.1
      by_cases h0 : i < 0
      ·
        go_wp2_with fail
        refine (awake_any _ HT.out).mono ?_
        rintro e w51 ⟨rfl, hb51⟩
        replace Ia := Lib.hid (Ia.out.below hb51)
        replace HT := Lib.hid (HT.out.below hb51)
        replace HB := Lib.hid (HB.out.trans (hb51.mono HB.out.size))
        clear hb51
        go_wp2
        go_ret
        exact ⟨rfl, HB.out⟩
      by_cases h1 : (a.length : Int) ≤ i
      ·
        go_wp2_with fail
        refine (awake_any _ HT.out).mono ?_
        rintro e w51 ⟨rfl, hb51⟩
        replace Ia := Lib.hid (Ia.out.below hb51)
        replace HT := Lib.hid (HT.out.below hb51)
        replace HB := Lib.hid (HB.out.trans (hb51.mono HB.out.size))
        clear hb51
        go_wp2
        go_ret
        exact ⟨rfl, HB.out⟩
      by_cases h2 : k < 0
      ·
        go_wp2_with fail
        refine (awake_any _ HT.out).mono ?_
        rintro e w51 ⟨rfl, hb51⟩
        replace Ia := Lib.hid (Ia.out.below hb51)
        replace HT := Lib.hid (HT.out.below hb51)
        replace HB := Lib.hid (HB.out.trans (hb51.mono HB.out.size))
        clear hb51
        go_wp2
        go_ret
        exact ⟨rfl, HB.out⟩
      by_cases h3 : (a.length : Int) ≤ k
      ·
        go_wp2_with fail
        refine (awake_any _ HT.out).mono ?_
        rintro e w51 ⟨rfl, hb51⟩
        replace Ia := Lib.hid (Ia.out.below hb51)
        replace HT := Lib.hid (HT.out.below hb51)
        replace HB := Lib.hid (HB.out.trans (hb51.mono HB.out.size))
        clear hb51
        go_wp2
        go_ret
        exact ⟨rfl, HB.out⟩
      obtain ⟨i, rfl⟩ := Int.eq_ofNat_of_zero_le (a := i) (by omega)
      obtain ⟨k, rfl⟩ := Int.eq_ofNat_of_zero_le (a := k) (by omega)
      have hi : i < a.length := by omega
      have hk : k < a.length := by omega
      have P1 := Va.out.2.2.2 i hi
      have P2 := Va.out.2.2.2 k hk
      by_cases ht : at' a i = Ver.top
      ·
        have T1 := Lib.hid (Ver.tick_over Va.out hi ht)
        have TN : tickE a i ≠ 0 := by rw [T1.out]; decide
        have T2 := Lib.hid (tick_none TN)
        clear TN
        have D1 : cov a i 1099511627776 = true := by rw [Ver.cov_vec Va.out, decide_eq_true_iff]; unfold Ver.top at ht; simp; omega
        have HD := Lib.hid D1
        clear D1 ht P1 P2
        go_wp2_with fail
        refine (tick_any Aa ca a i _ Ia.out ma).mono ?_
        rintro e w5 ⟨A5, c5, rfl, hi5, hb5⟩
        rw [T2.out]
        rw [T1.out]
        try rw [T2.out] at hi5
        try rw [T1.out] at hi5
        have I5 := Lib.hid hi5
        clear hi5
        replace Ia := Lib.hid (Ia.out.below hb5)
        replace HT := Lib.hid (HT.out.below hb5)
        replace HB := Lib.hid (HB.out.trans (hb5.mono HB.out.size))
        clear hb5
        go_wp2_with fail
        refine (tick_any Aa ca a k _ Ia.out ma).mono ?_
        rintro e w6 ⟨A6, c6, rfl, hi6, hb6⟩
        have I6 := Lib.hid hi6
        clear hi6
        replace Ia := Lib.hid (Ia.out.below hb6)
        replace HT := Lib.hid (HT.out.below hb6)
        replace HB := Lib.hid (HB.out.trans (hb6.mono HB.out.size))
        clear hb6
        go_wp2_with fail
        refine (covers_any Aa ca a i 1099511627776 _ Ia.out ma).mono ?_
        rintro e w7 ⟨rfl, rfl⟩
        rw [HD.out]
        go_wp2_with fail
        refine (awake_any _ HT.out).mono ?_
        rintro e w8 ⟨rfl, hb8⟩
        replace Ia := Lib.hid (Ia.out.below hb8)
        replace HT := Lib.hid (HT.out.below hb8)
        replace HB := Lib.hid (HB.out.trans (hb8.mono HB.out.size))
        clear hb8
        go_wp2
        go_ret
        exact ⟨rfl, HB.out⟩
      have T1 := Lib.hid (Ver.tick_ok Va.out hi ht)
      have VX := Lib.hid (Ver.tick_vec Va.out hi ht)
      have HTI := Lib.hid ht
      by_cases hu : at' a k = Ver.top
      ·
        have T3 := Lib.hid (Ver.tick_over Va.out hk hu)
        clear ht hu P1 P2
        go_wp2_with fail
        refine (tick_any Aa ca a i _ Ia.out ma).mono ?_
        rintro e w5 ⟨A5, c5, rfl, hi5, hb5⟩
        rw [T1.out]
        try rw [T1.out] at hi5
        have I5 := Lib.hid hi5
        clear hi5
        replace Ia := Lib.hid (Ia.out.below hb5)
        replace HT := Lib.hid (HT.out.below hb5)
        replace HB := Lib.hid (HB.out.trans (hb5.mono HB.out.size))
        clear hb5
        go_wp2_with fail
        refine (tick_any Aa ca a k _ Ia.out ma).mono ?_
        rintro e w6 ⟨A6, c6, rfl, hi6, hb6⟩
        rw [T3.out]
        try rw [T3.out] at hi6
        have I6 := Lib.hid hi6
        clear hi6
        replace Ia := Lib.hid (Ia.out.below hb6)
        replace HT := Lib.hid (HT.out.below hb6)
        replace HB := Lib.hid (HB.out.trans (hb6.mono HB.out.size))
        clear hb6
        go_wp2_with fail
        refine (awake_any _ HT.out).mono ?_
        rintro e w7 ⟨rfl, hb7⟩
        replace Ia := Lib.hid (Ia.out.below hb7)
        replace HT := Lib.hid (HT.out.below hb7)
        replace HB := Lib.hid (HB.out.trans (hb7.mono HB.out.size))
        clear hb7
        go_wp2
        go_ret
        exact ⟨rfl, HB.out⟩
      have T3 := Lib.hid (Ver.tick_ok Va.out hk hu)
      have VY := Lib.hid (Ver.tick_vec Va.out hk hu)
      have C1 := Lib.hid (Ver.tick_after Va.out hi ht)
      have D1 : cov (tickL a i) i (at' a i + 1) = true := by rw [Ver.cov_vec VX.out, decide_eq_true_iff]; simp only [Int.toNat_natCast]; rw [Ver.tick_at Va.out hi ht, if_pos rfl]; omega
      have D2 : cov (tickL a i) i (at' a i + 2) = false := by rw [Ver.cov_vec VX.out, decide_eq_false_iff_not]; simp only [Int.toNat_natCast]; rw [Ver.tick_at Va.out hi ht, if_pos rfl]; omega
      have D3 : cov a i (at' a i + 1) = false := by rw [Ver.cov_vec Va.out, decide_eq_false_iff_not]; simp only [Int.toNat_natCast]; omega
      have E1 := Lib.hid D1
      have E2 := Lib.hid D2
      have E3 := Lib.hid D3
      clear D1 D2 D3
      unfold Ver.top at P1 P2
      obtain ⟨P3, P4⟩ := P1
      obtain ⟨P5, P6⟩ := P2
      have TU := Lib.hid hu
      clear ht hu
      obtain ⟨bA, oA, rfl, _, _⟩ := Ia.out.opened (by omega)
      have hm1 := ma
      unfold maxLen at hm1
      go_wp2_with fail
      refine (tick_any _ ca a i _ Ia.out ma).mono ?_
      rintro e w5 ⟨A5, c5, rfl, hi5, hb5⟩
      rw [T1.out]
      try rw [T1.out] at hi5
      have I5 := Lib.hid hi5
      clear hi5
      replace Ia := Lib.hid (Ia.out.below hb5)
      replace HT := Lib.hid (HT.out.below hb5)
      replace HB := Lib.hid (HB.out.trans (hb5.mono HB.out.size))
      clear hb5
      go_wp2_with fail
      refine (tick_any _ ca a k _ Ia.out ma).mono ?_
      rintro e w6 ⟨A6, c6, rfl, hi6, hb6⟩
      rw [T3.out]
      try rw [T3.out] at hi6
      have I6 := Lib.hid hi6
      clear hi6
      replace Ia := Lib.hid (Ia.out.below hb6)
      replace HT := Lib.hid (HT.out.below hb6)
      replace I5 := Lib.hid (I5.out.below hb6)
      replace HB := Lib.hid (HB.out.trans (hb6.mono HB.out.size))
      clear hb6
      go_wp2_with fail
      refine (compare_any _ _ _ ca (tickL a i) a _ I5.out Ia.out HT.out (vlen VX.out) ma).mono ?_
      rintro e w7 ⟨rfl, hb7⟩
      rw [C1.out]
      rw [VX.out.fit Va.out]
      replace Ia := Lib.hid (Ia.out.below hb7)
      replace HT := Lib.hid (HT.out.below hb7)
      replace I5 := Lib.hid (I5.out.below hb7)
      replace I6 := Lib.hid (I6.out.below hb7)
      replace HB := Lib.hid (HB.out.trans (hb7.mono HB.out.size))
      clear hb7
      have hc := Ia.out.at i hi
      generalize hp : at' a i = p at hc P3 P4 E1 E2 E3
      have hp0 := Lib.hid hp
      clear hp
      go_wp2_with fail
      refine (covers_any _ _ (tickL a i) i (p + 1) _ I5.out (vlen VX.out)).mono ?_
      rintro e w8 ⟨rfl, rfl⟩
      rw [E1.out]
      go_wp2_with fail
      refine (covers_any _ _ (tickL a i) i (p + 2) _ I5.out (vlen VX.out)).mono ?_
      rintro e w9 ⟨rfl, rfl⟩
      rw [E2.out]
      go_wp2_with fail
      refine (covers_any _ ca a i (p + 1) _ Ia.out ma).mono ?_
      rintro e w10 ⟨rfl, rfl⟩
      rw [E3.out]
      clear hc
      by_cases hik : i = k
      ·
        subst hik
        go_wp2_with fail
        refine (sameV_any _ _ _ _ (tickL a i) (tickL a i) _ I5.out I6.out (vlen VX.out) (vlen VX.out)).mono ?_
        rintro e w11 ⟨rfl, hb11⟩
        rw [decide_self]
        replace Ia := Lib.hid (Ia.out.below hb11)
        replace HT := Lib.hid (HT.out.below hb11)
        replace I5 := Lib.hid (I5.out.below hb11)
        replace I6 := Lib.hid (I6.out.below hb11)
        replace HB := Lib.hid (HB.out.trans (hb11.mono HB.out.size))
        clear hb11
        go_wp2_with fail
        refine (awake_any _ HT.out).mono ?_
        rintro e w12 ⟨rfl, hb12⟩
        replace Ia := Lib.hid (Ia.out.below hb12)
        replace HT := Lib.hid (HT.out.below hb12)
        replace I5 := Lib.hid (I5.out.below hb12)
        replace I6 := Lib.hid (I6.out.below hb12)
        replace HB := Lib.hid (HB.out.trans (hb12.mono HB.out.size))
        clear hb12
        go_wp2
        go_ret
        exact ⟨rfl, HB.out⟩
      have C2 := Lib.hid (Ver.tick_apart Va.out hi hk hik HTI.out TU.out)
      have B1 := Ver.tick_both Va.out hi hk hik HTI.out TU.out
      have VZ := Lib.hid (Ver.tick_vec VX.out hk B1.2)
      have T4 := Lib.hid (Ver.tick_ok VX.out hk B1.2)
      have B2 := Lib.hid B1.1
      have D4 : cov (tickL a i) k (at' a k + 1) = false := by rw [Ver.cov_vec VX.out, decide_eq_false_iff_not]; simp only [Int.toNat_natCast]; rw [Ver.tick_at Va.out hi HTI.out, if_neg hik]; omega
      have E4 := Lib.hid D4
      have hne : ((i : Int) == (k : Int)) = false := by rw [beq_eq_false_iff_ne]; omega
      have hne2 : ¬ (i : Int) = (k : Int) := by omega
      have HIK := Lib.hid hik
      clear D4 B1 hik
      go_wp2_with fail
      refine (compare_any _ _ _ _ (tickL a i) (tickL a k) _ I5.out I6.out HT.out (vlen VX.out) (vlen VY.out)).mono ?_
      rintro e w11 ⟨rfl, hb11⟩
      rw [C2.out]
      rw [VX.out.fit VY.out]
      replace Ia := Lib.hid (Ia.out.below hb11)
      replace HT := Lib.hid (HT.out.below hb11)
      replace I5 := Lib.hid (I5.out.below hb11)
      replace I6 := Lib.hid (I6.out.below hb11)
      replace HB := Lib.hid (HB.out.trans (hb11.mono HB.out.size))
      clear hb11
      clear hne hne2
      go_wp2_with fail
      refine (join_any _ _ _ _ (tickL a i) (tickL a k) _ I5.out I6.out (vlen VX.out) (vlen VY.out)).mono ?_
      rintro e w12 ⟨A12, c12, rfl, hi12, hb12⟩
      rw [VX.out.fit VY.out]
      try rw [VX.out.fit VY.out] at hi12
      have I12 := Lib.hid hi12
      clear hi12
      replace Ia := Lib.hid (Ia.out.below hb12)
      replace HT := Lib.hid (HT.out.below hb12)
      replace I5 := Lib.hid (I5.out.below hb12)
      replace I6 := Lib.hid (I6.out.below hb12)
      replace HB := Lib.hid (HB.out.trans (hb12.mono HB.out.size))
      clear hb12
      go_wp2_with fail
      refine (tick_any _ _ (tickL a i) k _ I5.out (vlen VX.out)).mono ?_
      rintro e w13 ⟨A13, c13, rfl, hi13, hb13⟩
      rw [T4.out]
      try rw [T4.out] at hi13
      have I13 := Lib.hid hi13
      clear hi13
      replace Ia := Lib.hid (Ia.out.below hb13)
      replace HT := Lib.hid (HT.out.below hb13)
      replace I5 := Lib.hid (I5.out.below hb13)
      replace I6 := Lib.hid (I6.out.below hb13)
      replace I12 := Lib.hid (I12.out.below hb13)
      replace HB := Lib.hid (HB.out.trans (hb13.mono HB.out.size))
      clear hb13
      generalize hp : at' a k = q at P5 P6 E4
      have HQ := Lib.hid hp
      clear hp
      go_wp2_with fail
      refine (sameV_any _ _ _ _ (Ver.joinL (tickL a i) (tickL a k)) (tickL (tickL a i) k) _ I12.out I13.out (vlen (VX.out.join VY.out)) (vlen VZ.out)).mono ?_
      rintro e w14 ⟨rfl, hb14⟩
      rw [decide_eq_true B2.out]
      replace Ia := Lib.hid (Ia.out.below hb14)
      replace HT := Lib.hid (HT.out.below hb14)
      replace I5 := Lib.hid (I5.out.below hb14)
      replace I6 := Lib.hid (I6.out.below hb14)
      replace I12 := Lib.hid (I12.out.below hb14)
      replace I13 := Lib.hid (I13.out.below hb14)
      replace HB := Lib.hid (HB.out.trans (hb14.mono HB.out.size))
      clear hb14
      have hc := Ia.out.at k hk
      rw [HQ.out] at hc
      go_wp2_with fail
      refine (covers_any _ _ (tickL a i) k (q + 1) _ I5.out (vlen VX.out)).mono ?_
      rintro e w15 ⟨rfl, rfl⟩
      rw [E4.out]
      go_wp2_with fail
      refine (awake_any _ HT.out).mono ?_
      rintro e w16 ⟨rfl, hb16⟩
      replace Ia := Lib.hid (Ia.out.below hb16)
      replace HT := Lib.hid (HT.out.below hb16)
      replace I5 := Lib.hid (I5.out.below hb16)
      replace I6 := Lib.hid (I6.out.below hb16)
      replace I12 := Lib.hid (I12.out.below hb16)
      replace I13 := Lib.hid (I13.out.below hb16)
      replace HB := Lib.hid (HB.out.trans (hb16.mono HB.out.size))
      clear hb16
      go_wp2
      go_ret
      exact ⟨rfl, HB.out⟩
end Go.Proofs.YtolohghpiccbaaaDoor
