/- The law VersionOrder, walked. Conditions: the lists lie in memory; the program's table holds what its initialiser lays. -/
import Derived.Test.YtolohghpiccbaaaDoorVerLaws2
import Derived.Deep.CutRange
namespace Go.Proofs.YtolohghpiccbaaaDoor
open Go Go.RowKit
open Ver (at' chk okn fit cov tickE tickL leB cmpV)

theorem same_le {n : Nat} {a b : List Int} (ha : Ver.Vec n a) (hb : Ver.Vec n b) : decide (a = b) = (leB a b && leB b a) := by
  rw [Bool.eq_iff_iff, decide_eq_true_iff, Bool.and_eq_true]
  constructor
  · rintro rfl; exact ⟨Ver.le_refl ha, Ver.le_refl ha⟩
  · rintro ⟨h, k⟩; exact Ver.le_antisymm ha hb h k

set_option maxHeartbeats 4000000 in
set_option maxRecDepth 100000 in
theorem lawOrder (Aa Ab Ac : Option Addr) (ca cb cc : Nat) (a b c : List Int) (w : World) (ha : IntsAt w Aa a) (hb : IntsAt w Ab b) (hc : IntsAt w Ac c) (hT : Tab w) (ma : a.length ≤ maxLen) (mb : b.length ≤ maxLen) (mc : c.length ≤ maxLen) :
    Calls Tryd.prog 5 #[.slice Aa a.length ca, .slice Ab b.length cb, .slice Ac c.length cc] w fun e w' => e = .returned (.bool true) ∧ Below w.heap.size w w' := by
  have Ia := Lib.hid ha
  clear ha
  have Ib := Lib.hid hb
  clear hb
  have Ic := Lib.hid hc
  clear hc
  have HT := Lib.hid hT
  clear hT
  have HB : Hid (Below w.heap.size w w) := Below.refl _ _
  go_enter Tryd.func5, Tryd.ntmps5
  have hms : ∀ n ∈ [a.length, b.length, c.length], n ≤ maxLen := (by simp only [List.mem_cons, List.not_mem_nil, or_false]; intro n hn; rcases hn with rfl | rfl | rfl <;> assumption)
  have HMS := Lib.hid hms
  clear hms
  go_wp2_with fail
  refine (great_any w.heap.size [a.length, b.length, c.length] _ (vecs_three w 23 Aa Ab Ac a.length ca b.length cb c.length cc) (by simp) HMS.out).mono ?_
  rintro e w0 ⟨rfl, rfl⟩
  replace Ia := Lib.hid (Ia.out.alloc (.cells #[.slice Aa a.length ca, .slice Ab b.length cb, .slice Ac c.length cc] 23))
  replace Ib := Lib.hid (Ib.out.alloc (.cells #[.slice Aa a.length ca, .slice Ab b.length cb, .slice Ac c.length cc] 23))
  replace Ic := Lib.hid (Ic.out.alloc (.cells #[.slice Aa a.length ca, .slice Ab b.length cb, .slice Ac c.length cc] 23))
  replace HT := Lib.hid (HT.out.alloc (.cells #[.slice Aa a.length ca, .slice Ab b.length cb, .slice Ac c.length cc] 23))
  replace HB := Lib.hid (HB.out.alloc (Nat.le_refl _) (.cells #[.slice Aa a.length ca, .slice Ab b.length cb, .slice Ac c.length cc] 23))
  generalize w.alloc (.cells #[.slice Aa a.length ca, .slice Ab b.length cb, .slice Ac c.length cc] 23) = W at Ia Ib Ic HT HB ⊢
  cases hg : ([a.length, b.length, c.length] : List Nat).any (40 < ·)
  case true =>
    clear hg
    go_wp2_with fail
    refine (awake_any _ HT.out).mono ?_
    rintro e w51 ⟨rfl, hb51⟩
    replace Ia := Lib.hid (Ia.out.below hb51)
    replace Ib := Lib.hid (Ib.out.below hb51)
    replace Ic := Lib.hid (Ic.out.below hb51)
    replace HT := Lib.hid (HT.out.below hb51)
    replace HB := Lib.hid (HB.out.trans (hb51.mono HB.out.size))
    clear hb51
    go_wp2
    go_ret
    exact ⟨rfl, HB.out⟩
  case false =>
    clear hg
    go_wp2_with fail
    refine (fine_any W.heap.size [a, b, c] _ (rows_three 23 Ia.out ma Ib.out mb Ic.out mc) (by simp)).mono ?_
    rintro e w0 ⟨rfl, rfl⟩
    replace Ia := Lib.hid (Ia.out.alloc (.cells #[.slice Aa a.length ca, .slice Ab b.length cb, .slice Ac c.length cc] 23))
    replace Ib := Lib.hid (Ib.out.alloc (.cells #[.slice Aa a.length ca, .slice Ab b.length cb, .slice Ac c.length cc] 23))
    replace Ic := Lib.hid (Ic.out.alloc (.cells #[.slice Aa a.length ca, .slice Ab b.length cb, .slice Ac c.length cc] 23))
    replace HT := Lib.hid (HT.out.alloc (.cells #[.slice Aa a.length ca, .slice Ab b.length cb, .slice Ac c.length cc] 23))
    replace HB := Lib.hid (HB.out.alloc HB.out.size (.cells #[.slice Aa a.length ca, .slice Ab b.length cb, .slice Ac c.length cc] 23))
    generalize W.alloc (.cells #[.slice Aa a.length ca, .slice Ab b.length cb, .slice Ac c.length cc] 23) = V at Ia Ib Ic HT HB ⊢
    cases hf : fineB [a, b, c]
    case false =>
      clear hf
      go_wp2_with fail
      refine (awake_any _ HT.out).mono ?_
      rintro e w51 ⟨rfl, hb51⟩
      replace Ia := Lib.hid (Ia.out.below hb51)
      replace Ib := Lib.hid (Ib.out.below hb51)
      replace Ic := Lib.hid (Ic.out.below hb51)
      replace HT := Lib.hid (HT.out.below hb51)
      replace HB := Lib.hid (HB.out.trans (hb51.mono HB.out.size))
      clear hb51
      go_wp2
      go_ret
      exact ⟨rfl, HB.out⟩
    case true =>
      obtain ⟨va, vb, vc⟩ := fine_three hf
      have Va := Lib.hid va
      have Vb := Lib.hid vb
      have Vc := Lib.hid vc
      clear hf va vb vc
      go_wp2_with fail
      refine (join_any Aa Ab ca cb a b _ Ia.out Ib.out ma mb).mono ?_
      rintro e w1 ⟨A1, c1, rfl, hi1, hb1⟩
      rw [Va.out.fit Vb.out]
      try rw [Va.out.fit Vb.out] at hi1
      have I1 := Lib.hid hi1
      clear hi1
      replace Ia := Lib.hid (Ia.out.below hb1)
      replace Ib := Lib.hid (Ib.out.below hb1)
      replace Ic := Lib.hid (Ic.out.below hb1)
      replace HT := Lib.hid (HT.out.below hb1)
      replace HB := Lib.hid (HB.out.trans (hb1.mono HB.out.size))
      clear hb1
      go_wp2_with fail
      refine (must_any _ _ _ _).mono ?_
      rintro e w2 ⟨rfl, rfl⟩
      go_wp2_with fail
      refine (meet_any Aa Ab ca cb a b _ Ia.out Ib.out ma mb).mono ?_
      rintro e w3 ⟨A3, c3, rfl, hi3, hb3⟩
      rw [Va.out.fit Vb.out]
      try rw [Va.out.fit Vb.out] at hi3
      have I3 := Lib.hid hi3
      clear hi3
      replace Ia := Lib.hid (Ia.out.below hb3)
      replace Ib := Lib.hid (Ib.out.below hb3)
      replace Ic := Lib.hid (Ic.out.below hb3)
      replace HT := Lib.hid (HT.out.below hb3)
      replace I1 := Lib.hid (I1.out.below hb3)
      replace HB := Lib.hid (HB.out.trans (hb3.mono HB.out.size))
      clear hb3
      go_wp2_with fail
      refine (must_any _ _ _ _).mono ?_
      rintro e w4 ⟨rfl, rfl⟩
      have VJ := Lib.hid (Va.out.join Vb.out)
      have VM := Lib.hid (Va.out.meet Vb.out)
      have E1 := Lib.hid (Ver.join_least (c := c) Va.out Vb.out)
      have E2 := Lib.hid (Ver.meet_greatest Va.out Vb.out Vc.out)
      have E3 := Lib.hid (Ver.le_iff_join Va.out Vb.out)
      have E4 := Lib.hid (Ver.cmp_of Va.out Vb.out)
      have E5 := Lib.hid (Ver.cmp_of Vb.out Va.out)
      have E6 := Lib.hid (same_le Va.out Vb.out)
      have F1 := Lib.hid (Va.out.fit Vb.out)
      have F2 := Lib.hid (Vb.out.fit Va.out)
      have M1 := Lib.hid (Ver.le_join_left Va.out Vb.out)
      have M2 := Lib.hid (Ver.le_join_right Va.out Vb.out)
      have M3 := Lib.hid (Ver.meet_le_left Va.out Vb.out)
      have M4 := Lib.hid (Ver.meet_le_right Va.out Vb.out)
      go_wp2_with fail
      refine (below_any Aa _ ca _ a (Ver.joinL a b) _ Ia.out I1.out HT.out Va.out VJ.out).mono ?_
      rintro e w5 ⟨rfl, hb5⟩
      rw [M1.out]
      replace Ia := Lib.hid (Ia.out.below hb5)
      replace Ib := Lib.hid (Ib.out.below hb5)
      replace Ic := Lib.hid (Ic.out.below hb5)
      replace HT := Lib.hid (HT.out.below hb5)
      replace I1 := Lib.hid (I1.out.below hb5)
      replace I3 := Lib.hid (I3.out.below hb5)
      replace HB := Lib.hid (HB.out.trans (hb5.mono HB.out.size))
      clear hb5
      go_wp2_with fail
      refine (below_any Ab _ cb _ b (Ver.joinL a b) _ Ib.out I1.out HT.out Vb.out VJ.out).mono ?_
      rintro e w6 ⟨rfl, hb6⟩
      rw [M2.out]
      replace Ia := Lib.hid (Ia.out.below hb6)
      replace Ib := Lib.hid (Ib.out.below hb6)
      replace Ic := Lib.hid (Ic.out.below hb6)
      replace HT := Lib.hid (HT.out.below hb6)
      replace I1 := Lib.hid (I1.out.below hb6)
      replace I3 := Lib.hid (I3.out.below hb6)
      replace HB := Lib.hid (HB.out.trans (hb6.mono HB.out.size))
      clear hb6
      go_wp2_with fail
      refine (below_any _ Aa _ ca (Ver.meetL a b) a _ I3.out Ia.out HT.out VM.out Va.out).mono ?_
      rintro e w7 ⟨rfl, hb7⟩
      rw [M3.out]
      replace Ia := Lib.hid (Ia.out.below hb7)
      replace Ib := Lib.hid (Ib.out.below hb7)
      replace Ic := Lib.hid (Ic.out.below hb7)
      replace HT := Lib.hid (HT.out.below hb7)
      replace I1 := Lib.hid (I1.out.below hb7)
      replace I3 := Lib.hid (I3.out.below hb7)
      replace HB := Lib.hid (HB.out.trans (hb7.mono HB.out.size))
      clear hb7
      go_wp2_with fail
      refine (below_any _ Ab _ cb (Ver.meetL a b) b _ I3.out Ib.out HT.out VM.out Vb.out).mono ?_
      rintro e w8 ⟨rfl, hb8⟩
      rw [M4.out]
      replace Ia := Lib.hid (Ia.out.below hb8)
      replace Ib := Lib.hid (Ib.out.below hb8)
      replace Ic := Lib.hid (Ic.out.below hb8)
      replace HT := Lib.hid (HT.out.below hb8)
      replace I1 := Lib.hid (I1.out.below hb8)
      replace I3 := Lib.hid (I3.out.below hb8)
      replace HB := Lib.hid (HB.out.trans (hb8.mono HB.out.size))
      clear hb8
      clear M1 M2 M3 M4
      generalize hp : leB a c = p at E1
      generalize hq : leB b c = q at E1
      generalize hr : leB c a = r at E2
      generalize hs : leB c b = s at E2
      have HP := Lib.hid hp
      clear hp
      have HQ := Lib.hid hq
      clear hq
      have HR := Lib.hid hr
      clear hr
      have HS := Lib.hid hs
      clear hs
      go_upto_region 6 with fail
      go_cut [87] from 62 to 87 (fun x wx => x = .bool false ∧ Below w8.heap.size w8 wx)
      case first =>
        replace HB := Lib.hid (Below.refl w8.heap.size w8)
        cases p
        case false =>
          go_wp2_with fail
          refine (below_any Aa Ac ca cc a c _ Ia.out Ic.out HT.out Va.out Vc.out).mono ?_
          rintro e w9 ⟨rfl, hb9⟩
          rw [HP.out]
          replace Ia := Lib.hid (Ia.out.below hb9)
          replace Ib := Lib.hid (Ib.out.below hb9)
          replace Ic := Lib.hid (Ic.out.below hb9)
          replace HT := Lib.hid (HT.out.below hb9)
          replace I1 := Lib.hid (I1.out.below hb9)
          replace I3 := Lib.hid (I3.out.below hb9)
          replace HB := Lib.hid (HB.out.trans (hb9.mono HB.out.size))
          clear hb9
          go_wp2_with fail
          refine (below_any _ Ac _ cc (Ver.joinL a b) c _ I1.out Ic.out HT.out VJ.out Vc.out).mono ?_
          rintro e w10 ⟨rfl, hb10⟩
          rw [show leB (Ver.joinL a b) c = false from E1.out.symm]
          replace Ia := Lib.hid (Ia.out.below hb10)
          replace Ib := Lib.hid (Ib.out.below hb10)
          replace Ic := Lib.hid (Ic.out.below hb10)
          replace HT := Lib.hid (HT.out.below hb10)
          replace I1 := Lib.hid (I1.out.below hb10)
          replace I3 := Lib.hid (I3.out.below hb10)
          replace HB := Lib.hid (HB.out.trans (hb10.mono HB.out.size))
          clear hb10
          cases r
          case false =>
            go_wp2_with fail
            refine (below_any Ac Aa cc ca c a _ Ic.out Ia.out HT.out Vc.out Va.out).mono ?_
            rintro e w11 ⟨rfl, hb11⟩
            rw [HR.out]
            replace Ia := Lib.hid (Ia.out.below hb11)
            replace Ib := Lib.hid (Ib.out.below hb11)
            replace Ic := Lib.hid (Ic.out.below hb11)
            replace HT := Lib.hid (HT.out.below hb11)
            replace I1 := Lib.hid (I1.out.below hb11)
            replace I3 := Lib.hid (I3.out.below hb11)
            replace HB := Lib.hid (HB.out.trans (hb11.mono HB.out.size))
            clear hb11
            go_wp2_with fail
            refine (below_any Ac _ cc _ c (Ver.meetL a b) _ Ic.out I3.out HT.out Vc.out VM.out).mono ?_
            rintro e w12 ⟨rfl, hb12⟩
            rw [show leB c (Ver.meetL a b) = false from E2.out.symm]
            replace Ia := Lib.hid (Ia.out.below hb12)
            replace Ib := Lib.hid (Ib.out.below hb12)
            replace Ic := Lib.hid (Ic.out.below hb12)
            replace HT := Lib.hid (HT.out.below hb12)
            replace I1 := Lib.hid (I1.out.below hb12)
            replace I3 := Lib.hid (I3.out.below hb12)
            replace HB := Lib.hid (HB.out.trans (hb12.mono HB.out.size))
            clear hb12
            go_wp2
            go_meet
            exact ⟨rfl, HB.out⟩
          case true =>
            go_wp2_with fail
            refine (below_any Ac Aa cc ca c a _ Ic.out Ia.out HT.out Vc.out Va.out).mono ?_
            rintro e w11 ⟨rfl, hb11⟩
            rw [HR.out]
            replace Ia := Lib.hid (Ia.out.below hb11)
            replace Ib := Lib.hid (Ib.out.below hb11)
            replace Ic := Lib.hid (Ic.out.below hb11)
            replace HT := Lib.hid (HT.out.below hb11)
            replace I1 := Lib.hid (I1.out.below hb11)
            replace I3 := Lib.hid (I3.out.below hb11)
            replace HB := Lib.hid (HB.out.trans (hb11.mono HB.out.size))
            clear hb11
            cases s
            case false =>
              go_wp2_with fail
              refine (below_any Ac Ab cc cb c b _ Ic.out Ib.out HT.out Vc.out Vb.out).mono ?_
              rintro e w12 ⟨rfl, hb12⟩
              rw [HS.out]
              replace Ia := Lib.hid (Ia.out.below hb12)
              replace Ib := Lib.hid (Ib.out.below hb12)
              replace Ic := Lib.hid (Ic.out.below hb12)
              replace HT := Lib.hid (HT.out.below hb12)
              replace I1 := Lib.hid (I1.out.below hb12)
              replace I3 := Lib.hid (I3.out.below hb12)
              replace HB := Lib.hid (HB.out.trans (hb12.mono HB.out.size))
              clear hb12
              go_wp2_with fail
              refine (below_any Ac _ cc _ c (Ver.meetL a b) _ Ic.out I3.out HT.out Vc.out VM.out).mono ?_
              rintro e w13 ⟨rfl, hb13⟩
              rw [show leB c (Ver.meetL a b) = false from E2.out.symm]
              replace Ia := Lib.hid (Ia.out.below hb13)
              replace Ib := Lib.hid (Ib.out.below hb13)
              replace Ic := Lib.hid (Ic.out.below hb13)
              replace HT := Lib.hid (HT.out.below hb13)
              replace I1 := Lib.hid (I1.out.below hb13)
              replace I3 := Lib.hid (I3.out.below hb13)
              replace HB := Lib.hid (HB.out.trans (hb13.mono HB.out.size))
              clear hb13
              go_wp2
              go_meet
              exact ⟨rfl, HB.out⟩
            case true =>
              go_wp2_with fail
              refine (below_any Ac Ab cc cb c b _ Ic.out Ib.out HT.out Vc.out Vb.out).mono ?_
              rintro e w12 ⟨rfl, hb12⟩
              rw [HS.out]
              replace Ia := Lib.hid (Ia.out.below hb12)
              replace Ib := Lib.hid (Ib.out.below hb12)
              replace Ic := Lib.hid (Ic.out.below hb12)
              replace HT := Lib.hid (HT.out.below hb12)
              replace I1 := Lib.hid (I1.out.below hb12)
              replace I3 := Lib.hid (I3.out.below hb12)
              replace HB := Lib.hid (HB.out.trans (hb12.mono HB.out.size))
              clear hb12
              go_wp2_with fail
              refine (below_any Ac _ cc _ c (Ver.meetL a b) _ Ic.out I3.out HT.out Vc.out VM.out).mono ?_
              rintro e w13 ⟨rfl, hb13⟩
              rw [show leB c (Ver.meetL a b) = true from E2.out.symm]
              replace Ia := Lib.hid (Ia.out.below hb13)
              replace Ib := Lib.hid (Ib.out.below hb13)
              replace Ic := Lib.hid (Ic.out.below hb13)
              replace HT := Lib.hid (HT.out.below hb13)
              replace I1 := Lib.hid (I1.out.below hb13)
              replace I3 := Lib.hid (I3.out.below hb13)
              replace HB := Lib.hid (HB.out.trans (hb13.mono HB.out.size))
              clear hb13
              go_wp2
              go_meet
              exact ⟨rfl, HB.out⟩
        case true =>
          go_wp2_with fail
          refine (below_any Aa Ac ca cc a c _ Ia.out Ic.out HT.out Va.out Vc.out).mono ?_
          rintro e w9 ⟨rfl, hb9⟩
          rw [HP.out]
          replace Ia := Lib.hid (Ia.out.below hb9)
          replace Ib := Lib.hid (Ib.out.below hb9)
          replace Ic := Lib.hid (Ic.out.below hb9)
          replace HT := Lib.hid (HT.out.below hb9)
          replace I1 := Lib.hid (I1.out.below hb9)
          replace I3 := Lib.hid (I3.out.below hb9)
          replace HB := Lib.hid (HB.out.trans (hb9.mono HB.out.size))
          clear hb9
          cases q
          case false =>
            go_wp2_with fail
            refine (below_any Ab Ac cb cc b c _ Ib.out Ic.out HT.out Vb.out Vc.out).mono ?_
            rintro e w10 ⟨rfl, hb10⟩
            rw [HQ.out]
            replace Ia := Lib.hid (Ia.out.below hb10)
            replace Ib := Lib.hid (Ib.out.below hb10)
            replace Ic := Lib.hid (Ic.out.below hb10)
            replace HT := Lib.hid (HT.out.below hb10)
            replace I1 := Lib.hid (I1.out.below hb10)
            replace I3 := Lib.hid (I3.out.below hb10)
            replace HB := Lib.hid (HB.out.trans (hb10.mono HB.out.size))
            clear hb10
            go_wp2_with fail
            refine (below_any _ Ac _ cc (Ver.joinL a b) c _ I1.out Ic.out HT.out VJ.out Vc.out).mono ?_
            rintro e w11 ⟨rfl, hb11⟩
            rw [show leB (Ver.joinL a b) c = false from E1.out.symm]
            replace Ia := Lib.hid (Ia.out.below hb11)
            replace Ib := Lib.hid (Ib.out.below hb11)
            replace Ic := Lib.hid (Ic.out.below hb11)
            replace HT := Lib.hid (HT.out.below hb11)
            replace I1 := Lib.hid (I1.out.below hb11)
            replace I3 := Lib.hid (I3.out.below hb11)
            replace HB := Lib.hid (HB.out.trans (hb11.mono HB.out.size))
            clear hb11
            cases r
            case false =>
              go_wp2_with fail
              refine (below_any Ac Aa cc ca c a _ Ic.out Ia.out HT.out Vc.out Va.out).mono ?_
              rintro e w12 ⟨rfl, hb12⟩
              rw [HR.out]
              replace Ia := Lib.hid (Ia.out.below hb12)
              replace Ib := Lib.hid (Ib.out.below hb12)
              replace Ic := Lib.hid (Ic.out.below hb12)
              replace HT := Lib.hid (HT.out.below hb12)
              replace I1 := Lib.hid (I1.out.below hb12)
              replace I3 := Lib.hid (I3.out.below hb12)
              replace HB := Lib.hid (HB.out.trans (hb12.mono HB.out.size))
              clear hb12
              go_wp2_with fail
              refine (below_any Ac _ cc _ c (Ver.meetL a b) _ Ic.out I3.out HT.out Vc.out VM.out).mono ?_
              rintro e w13 ⟨rfl, hb13⟩
              rw [show leB c (Ver.meetL a b) = false from E2.out.symm]
              replace Ia := Lib.hid (Ia.out.below hb13)
              replace Ib := Lib.hid (Ib.out.below hb13)
              replace Ic := Lib.hid (Ic.out.below hb13)
              replace HT := Lib.hid (HT.out.below hb13)
              replace I1 := Lib.hid (I1.out.below hb13)
              replace I3 := Lib.hid (I3.out.below hb13)
              replace HB := Lib.hid (HB.out.trans (hb13.mono HB.out.size))
              clear hb13
              go_wp2
              go_meet
              exact ⟨rfl, HB.out⟩
            case true =>
              go_wp2_with fail
              refine (below_any Ac Aa cc ca c a _ Ic.out Ia.out HT.out Vc.out Va.out).mono ?_
              rintro e w12 ⟨rfl, hb12⟩
              rw [HR.out]
              replace Ia := Lib.hid (Ia.out.below hb12)
              replace Ib := Lib.hid (Ib.out.below hb12)
              replace Ic := Lib.hid (Ic.out.below hb12)
              replace HT := Lib.hid (HT.out.below hb12)
              replace I1 := Lib.hid (I1.out.below hb12)
              replace I3 := Lib.hid (I3.out.below hb12)
              replace HB := Lib.hid (HB.out.trans (hb12.mono HB.out.size))
              clear hb12
              cases s
              case false =>
                go_wp2_with fail
                refine (below_any Ac Ab cc cb c b _ Ic.out Ib.out HT.out Vc.out Vb.out).mono ?_
                rintro e w13 ⟨rfl, hb13⟩
                rw [HS.out]
                replace Ia := Lib.hid (Ia.out.below hb13)
                replace Ib := Lib.hid (Ib.out.below hb13)
                replace Ic := Lib.hid (Ic.out.below hb13)
                replace HT := Lib.hid (HT.out.below hb13)
                replace I1 := Lib.hid (I1.out.below hb13)
                replace I3 := Lib.hid (I3.out.below hb13)
                replace HB := Lib.hid (HB.out.trans (hb13.mono HB.out.size))
                clear hb13
                go_wp2_with fail
                refine (below_any Ac _ cc _ c (Ver.meetL a b) _ Ic.out I3.out HT.out Vc.out VM.out).mono ?_
                rintro e w14 ⟨rfl, hb14⟩
                rw [show leB c (Ver.meetL a b) = false from E2.out.symm]
                replace Ia := Lib.hid (Ia.out.below hb14)
                replace Ib := Lib.hid (Ib.out.below hb14)
                replace Ic := Lib.hid (Ic.out.below hb14)
                replace HT := Lib.hid (HT.out.below hb14)
                replace I1 := Lib.hid (I1.out.below hb14)
                replace I3 := Lib.hid (I3.out.below hb14)
                replace HB := Lib.hid (HB.out.trans (hb14.mono HB.out.size))
                clear hb14
                go_wp2
                go_meet
                exact ⟨rfl, HB.out⟩
              case true =>
                go_wp2_with fail
                refine (below_any Ac Ab cc cb c b _ Ic.out Ib.out HT.out Vc.out Vb.out).mono ?_
                rintro e w13 ⟨rfl, hb13⟩
                rw [HS.out]
                replace Ia := Lib.hid (Ia.out.below hb13)
                replace Ib := Lib.hid (Ib.out.below hb13)
                replace Ic := Lib.hid (Ic.out.below hb13)
                replace HT := Lib.hid (HT.out.below hb13)
                replace I1 := Lib.hid (I1.out.below hb13)
                replace I3 := Lib.hid (I3.out.below hb13)
                replace HB := Lib.hid (HB.out.trans (hb13.mono HB.out.size))
                clear hb13
                go_wp2_with fail
                refine (below_any Ac _ cc _ c (Ver.meetL a b) _ Ic.out I3.out HT.out Vc.out VM.out).mono ?_
                rintro e w14 ⟨rfl, hb14⟩
                rw [show leB c (Ver.meetL a b) = true from E2.out.symm]
                replace Ia := Lib.hid (Ia.out.below hb14)
                replace Ib := Lib.hid (Ib.out.below hb14)
                replace Ic := Lib.hid (Ic.out.below hb14)
                replace HT := Lib.hid (HT.out.below hb14)
                replace I1 := Lib.hid (I1.out.below hb14)
                replace I3 := Lib.hid (I3.out.below hb14)
                replace HB := Lib.hid (HB.out.trans (hb14.mono HB.out.size))
                clear hb14
                go_wp2
                go_meet
                exact ⟨rfl, HB.out⟩
          case true =>
            go_wp2_with fail
            refine (below_any Ab Ac cb cc b c _ Ib.out Ic.out HT.out Vb.out Vc.out).mono ?_
            rintro e w10 ⟨rfl, hb10⟩
            rw [HQ.out]
            replace Ia := Lib.hid (Ia.out.below hb10)
            replace Ib := Lib.hid (Ib.out.below hb10)
            replace Ic := Lib.hid (Ic.out.below hb10)
            replace HT := Lib.hid (HT.out.below hb10)
            replace I1 := Lib.hid (I1.out.below hb10)
            replace I3 := Lib.hid (I3.out.below hb10)
            replace HB := Lib.hid (HB.out.trans (hb10.mono HB.out.size))
            clear hb10
            go_wp2_with fail
            refine (below_any _ Ac _ cc (Ver.joinL a b) c _ I1.out Ic.out HT.out VJ.out Vc.out).mono ?_
            rintro e w11 ⟨rfl, hb11⟩
            rw [show leB (Ver.joinL a b) c = true from E1.out.symm]
            replace Ia := Lib.hid (Ia.out.below hb11)
            replace Ib := Lib.hid (Ib.out.below hb11)
            replace Ic := Lib.hid (Ic.out.below hb11)
            replace HT := Lib.hid (HT.out.below hb11)
            replace I1 := Lib.hid (I1.out.below hb11)
            replace I3 := Lib.hid (I3.out.below hb11)
            replace HB := Lib.hid (HB.out.trans (hb11.mono HB.out.size))
            clear hb11
            cases r
            case false =>
              go_wp2_with fail
              refine (below_any Ac Aa cc ca c a _ Ic.out Ia.out HT.out Vc.out Va.out).mono ?_
              rintro e w12 ⟨rfl, hb12⟩
              rw [HR.out]
              replace Ia := Lib.hid (Ia.out.below hb12)
              replace Ib := Lib.hid (Ib.out.below hb12)
              replace Ic := Lib.hid (Ic.out.below hb12)
              replace HT := Lib.hid (HT.out.below hb12)
              replace I1 := Lib.hid (I1.out.below hb12)
              replace I3 := Lib.hid (I3.out.below hb12)
              replace HB := Lib.hid (HB.out.trans (hb12.mono HB.out.size))
              clear hb12
              go_wp2_with fail
              refine (below_any Ac _ cc _ c (Ver.meetL a b) _ Ic.out I3.out HT.out Vc.out VM.out).mono ?_
              rintro e w13 ⟨rfl, hb13⟩
              rw [show leB c (Ver.meetL a b) = false from E2.out.symm]
              replace Ia := Lib.hid (Ia.out.below hb13)
              replace Ib := Lib.hid (Ib.out.below hb13)
              replace Ic := Lib.hid (Ic.out.below hb13)
              replace HT := Lib.hid (HT.out.below hb13)
              replace I1 := Lib.hid (I1.out.below hb13)
              replace I3 := Lib.hid (I3.out.below hb13)
              replace HB := Lib.hid (HB.out.trans (hb13.mono HB.out.size))
              clear hb13
              go_wp2
              go_meet
              exact ⟨rfl, HB.out⟩
            case true =>
              go_wp2_with fail
              refine (below_any Ac Aa cc ca c a _ Ic.out Ia.out HT.out Vc.out Va.out).mono ?_
              rintro e w12 ⟨rfl, hb12⟩
              rw [HR.out]
              replace Ia := Lib.hid (Ia.out.below hb12)
              replace Ib := Lib.hid (Ib.out.below hb12)
              replace Ic := Lib.hid (Ic.out.below hb12)
              replace HT := Lib.hid (HT.out.below hb12)
              replace I1 := Lib.hid (I1.out.below hb12)
              replace I3 := Lib.hid (I3.out.below hb12)
              replace HB := Lib.hid (HB.out.trans (hb12.mono HB.out.size))
              clear hb12
              cases s
              case false =>
                go_wp2_with fail
                refine (below_any Ac Ab cc cb c b _ Ic.out Ib.out HT.out Vc.out Vb.out).mono ?_
                rintro e w13 ⟨rfl, hb13⟩
                rw [HS.out]
                replace Ia := Lib.hid (Ia.out.below hb13)
                replace Ib := Lib.hid (Ib.out.below hb13)
                replace Ic := Lib.hid (Ic.out.below hb13)
                replace HT := Lib.hid (HT.out.below hb13)
                replace I1 := Lib.hid (I1.out.below hb13)
                replace I3 := Lib.hid (I3.out.below hb13)
                replace HB := Lib.hid (HB.out.trans (hb13.mono HB.out.size))
                clear hb13
                go_wp2_with fail
                refine (below_any Ac _ cc _ c (Ver.meetL a b) _ Ic.out I3.out HT.out Vc.out VM.out).mono ?_
                rintro e w14 ⟨rfl, hb14⟩
                rw [show leB c (Ver.meetL a b) = false from E2.out.symm]
                replace Ia := Lib.hid (Ia.out.below hb14)
                replace Ib := Lib.hid (Ib.out.below hb14)
                replace Ic := Lib.hid (Ic.out.below hb14)
                replace HT := Lib.hid (HT.out.below hb14)
                replace I1 := Lib.hid (I1.out.below hb14)
                replace I3 := Lib.hid (I3.out.below hb14)
                replace HB := Lib.hid (HB.out.trans (hb14.mono HB.out.size))
                clear hb14
                go_wp2
                go_meet
                exact ⟨rfl, HB.out⟩
              case true =>
                go_wp2_with fail
                refine (below_any Ac Ab cc cb c b _ Ic.out Ib.out HT.out Vc.out Vb.out).mono ?_
                rintro e w13 ⟨rfl, hb13⟩
                rw [HS.out]
                replace Ia := Lib.hid (Ia.out.below hb13)
                replace Ib := Lib.hid (Ib.out.below hb13)
                replace Ic := Lib.hid (Ic.out.below hb13)
                replace HT := Lib.hid (HT.out.below hb13)
                replace I1 := Lib.hid (I1.out.below hb13)
                replace I3 := Lib.hid (I3.out.below hb13)
                replace HB := Lib.hid (HB.out.trans (hb13.mono HB.out.size))
                clear hb13
                go_wp2_with fail
                refine (below_any Ac _ cc _ c (Ver.meetL a b) _ Ic.out I3.out HT.out Vc.out VM.out).mono ?_
                rintro e w14 ⟨rfl, hb14⟩
                rw [show leB c (Ver.meetL a b) = true from E2.out.symm]
                replace Ia := Lib.hid (Ia.out.below hb14)
                replace Ib := Lib.hid (Ib.out.below hb14)
                replace Ic := Lib.hid (Ic.out.below hb14)
                replace HT := Lib.hid (HT.out.below hb14)
                replace I1 := Lib.hid (I1.out.below hb14)
                replace I3 := Lib.hid (I3.out.below hb14)
                replace HB := Lib.hid (HB.out.trans (hb14.mono HB.out.size))
                clear hb14
                go_wp2
                go_meet
                exact ⟨rfl, HB.out⟩
      case rest =>
        obtain ⟨rfl, hbc⟩ := hcut
        replace Ia := Lib.hid (Ia.out.below hbc)
        replace Ib := Lib.hid (Ib.out.below hbc)
        replace Ic := Lib.hid (Ic.out.below hbc)
        replace HT := Lib.hid (HT.out.below hbc)
        replace I1 := Lib.hid (I1.out.below hbc)
        replace I3 := Lib.hid (I3.out.below hbc)
        replace HB := Lib.hid (HB.out.trans (hbc.mono HB.out.size))
        clear hbc
        clear HP HQ HR HS E1 E2 VM I3 Ic Vc
        generalize hx : leB a b = x at E3 E4 E5 E6
        generalize hy : leB b a = y at E4 E5 E6
        have HX := Lib.hid hx
        clear hx hy
        cases x <;> cases y
        all_goals
          go_wp2_with fail
          refine (compare_any Aa Ab ca cb a b _ Ia.out Ib.out HT.out ma mb).mono ?_
          rintro e w9 ⟨rfl, hb9⟩
          rw [E4.out, F1.out]
          replace Ia := Lib.hid (Ia.out.below hb9)
          replace Ib := Lib.hid (Ib.out.below hb9)
          replace HT := Lib.hid (HT.out.below hb9)
          replace I1 := Lib.hid (I1.out.below hb9)
          replace HB := Lib.hid (HB.out.trans (hb9.mono HB.out.size))
          clear hb9
          simp only [Ver.cmpOf]
          go_wp2_with fail
          refine (compare_any Ab Aa cb ca b a _ Ib.out Ia.out HT.out mb ma).mono ?_
          rintro e w10 ⟨rfl, hb10⟩
          rw [E5.out, F2.out]
          replace Ia := Lib.hid (Ia.out.below hb10)
          replace Ib := Lib.hid (Ib.out.below hb10)
          replace HT := Lib.hid (HT.out.below hb10)
          replace I1 := Lib.hid (I1.out.below hb10)
          replace HB := Lib.hid (HB.out.trans (hb10.mono HB.out.size))
          clear hb10
          simp only [Ver.cmpOf]
          go_wp2_with fail
          refine (sameV_any Aa Ab ca cb a b _ (Ia.out.alloc _) (Ib.out.alloc _) ma mb).mono ?_
          rintro e w11 ⟨rfl, hb11⟩
          rw [E6.out]
          replace hb11 := below_box hb11
          replace Ia := Lib.hid (Ia.out.below hb11)
          replace Ib := Lib.hid (Ib.out.below hb11)
          replace HT := Lib.hid (HT.out.below hb11)
          replace I1 := Lib.hid (I1.out.below hb11)
          replace HB := Lib.hid (HB.out.trans (hb11.mono HB.out.size))
          clear hb11
          go_wp2_with fail
          refine (below_any Aa Ab ca cb a b _ Ia.out Ib.out HT.out Va.out Vb.out).mono ?_
          rintro e w12 ⟨rfl, hb12⟩
          rw [HX.out]
          replace Ia := Lib.hid (Ia.out.below hb12)
          replace Ib := Lib.hid (Ib.out.below hb12)
          replace HT := Lib.hid (HT.out.below hb12)
          replace I1 := Lib.hid (I1.out.below hb12)
          replace HB := Lib.hid (HB.out.trans (hb12.mono HB.out.size))
          clear hb12
          go_wp2_with fail
          refine (sameV_any _ Ab _ cb (Ver.joinL a b) b _ I1.out Ib.out (vlen VJ.out) mb).mono ?_
          rintro e w13 ⟨rfl, hb13⟩
          rw [← E3.out]
          replace Ia := Lib.hid (Ia.out.below hb13)
          replace Ib := Lib.hid (Ib.out.below hb13)
          replace HT := Lib.hid (HT.out.below hb13)
          replace I1 := Lib.hid (I1.out.below hb13)
          replace HB := Lib.hid (HB.out.trans (hb13.mono HB.out.size))
          clear hb13
          go_wp2_with fail
          refine (awake_any _ HT.out).mono ?_
          rintro e w14 ⟨rfl, hb14⟩
          replace Ia := Lib.hid (Ia.out.below hb14)
          replace Ib := Lib.hid (Ib.out.below hb14)
          replace HT := Lib.hid (HT.out.below hb14)
          replace I1 := Lib.hid (I1.out.below hb14)
          replace HB := Lib.hid (HB.out.trans (hb14.mono HB.out.size))
          clear hb14
          go_wp2
          go_ret
          exact ⟨rfl, HB.out⟩
end Go.Proofs.YtolohghpiccbaaaDoor
