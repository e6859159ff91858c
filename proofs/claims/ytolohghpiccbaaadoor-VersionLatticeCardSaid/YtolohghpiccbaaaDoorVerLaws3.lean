/- The law VersionLattice, walked. Conditions: the lists lie in memory; the program's table holds what its initialiser lays. -/
import Derived.Test.YtolohghpiccbaaaDoorVerLaws2
import Derived.Laws.EntriesVeiled
namespace Go.Proofs.YtolohghpiccbaaaDoor
open Go Go.RowKit
open Ver (at' chk okn fit cov tickE tickL leB cmpV)

/-- the two operations, as the program lays them -/
theorem below_drewN {B : Nat} {a w : World} (h : Below B a w) (n : Nat) : Below B a (w.drewN n) := ⟨h.os, h.tape, h.output, h.size, h.block⟩
set_option maxHeartbeats 4000000 in
set_option maxRecDepth 100000 in
theorem lawLattice (Aa Ab Ac : Option Addr) (ca cb cc : Nat) (a b c : List Int) (w : World) (ha : IntsAt w Aa a) (hb : IntsAt w Ab b) (hc : IntsAt w Ac c) (hT : Tab w) (ma : a.length ≤ maxLen) (mb : b.length ≤ maxLen) (mc : c.length ≤ maxLen) :
    Calls Tryd.prog 4 #[.slice Aa a.length ca, .slice Ab b.length cb, .slice Ac c.length cc] w fun e w' => e = .returned (.bool true) ∧ Below w.heap.size w w' := by
  have Ia := Lib.hid ha
  clear ha
  have Ib := Lib.hid hb
  clear hb
  have Ic := Lib.hid hc
  clear hc
  have HT := Lib.hid hT
  clear hT
  have HB : Hid (Below w.heap.size w w) := Below.refl _ _
  go_enter Tryd.func4, Tryd.ntmps4
  have hms : ∀ n ∈ [a.length, b.length, c.length], n ≤ maxLen := (by simp only [List.mem_cons, List.not_mem_nil, or_false]; intro n hn; rcases hn with rfl | rfl | rfl <;> assumption)
  have HMS := Lib.hid hms
  clear hms
  go_wp2_with fail
  refine (great_any w.heap.size [a.length, b.length, c.length] _ (vecs_three w 23 Aa Ab Ac a.length ca b.length cb c.length cc) (by simp) HMS.out).mono ?_
  rintro e w0 ⟨rfl, rfl⟩
  replace Ia := Lib.hid (Ia.out.alloc (.cells #[.slice Aa a.length ca, .slice Ab b.length cb, .slice Ac c.length cc] 23))
  replace Ib := Lib.hid (Ib.out.alloc (.cells #[.slice Aa a.length ca, .slice Ab b.length cb, .slice Ac c.length cc] 23))
  replace Ic := Lib.hid (Ic.out.alloc (.cells #[.slice Aa a.length ca, .slice Ab b.length cb, .slice Ac c.length cc] 23))
  replace HT := Lib.hid (HT.out.alloc (.cells #[.slice Aa a.length ca, .slice Ab b.length cb, .slice Ac c.length cc] 23))
  replace HB := Lib.hid (HB.out.alloc (Nat.le_refl _) (.cells #[.slice Aa a.length ca, .slice Ab b.length cb, .slice Ac c.length cc] 23))
  generalize w.alloc (.cells #[.slice Aa a.length ca, .slice Ab b.length cb, .slice Ac c.length cc] 23) = W at Ia Ib Ic HT HB ⊢
  cases hg : ([a.length, b.length, c.length] : List Nat).any (40 < ·)
  case true =>
    clear hg
    go_wp2_with fail
    refine (awake_any _ HT.out).mono ?_
    rintro e w51 ⟨rfl, hb51⟩
    replace Ia := Lib.hid (Ia.out.below hb51)
    replace Ib := Lib.hid (Ib.out.below hb51)
    replace Ic := Lib.hid (Ic.out.below hb51)
    replace HT := Lib.hid (HT.out.below hb51)
    replace HB := Lib.hid (HB.out.trans (hb51.mono HB.out.size))
    clear hb51
    go_wp2
    go_ret
    exact ⟨rfl, HB.out⟩
  case false =>
    clear hg
    go_wp2_with fail
    refine (fine_any W.heap.size [a, b, c] _ (rows_three 23 Ia.out ma Ib.out mb Ic.out mc) (by simp)).mono ?_
    rintro e w0 ⟨rfl, rfl⟩
    replace Ia := Lib.hid (Ia.out.alloc (.cells #[.slice Aa a.length ca, .slice Ab b.length cb, .slice Ac c.length cc] 23))
    replace Ib := Lib.hid (Ib.out.alloc (.cells #[.slice Aa a.length ca, .slice Ab b.length cb, .slice Ac c.length cc] 23))
    replace Ic := Lib.hid (Ic.out.alloc (.cells #[.slice Aa a.length ca, .slice Ab b.length cb, .slice Ac c.length cc] 23))
    replace HT := Lib.hid (HT.out.alloc (.cells #[.slice Aa a.length ca, .slice Ab b.length cb, .slice Ac c.length cc] 23))
    replace HB := Lib.hid (HB.out.alloc HB.out.size (.cells #[.slice Aa a.length ca, .slice Ab b.length cb, .slice Ac c.length cc] 23))
    generalize W.alloc (.cells #[.slice Aa a.length ca, .slice Ab b.length cb, .slice Ac c.length cc] 23) = V at Ia Ib Ic HT HB ⊢
    cases hf : fineB [a, b, c]
    case false =>
      clear hf
      go_wp2_with fail
      refine (awake_any _ HT.out).mono ?_
      rintro e w51 ⟨rfl, hb51⟩
      replace Ia := Lib.hid (Ia.out.below hb51)
      replace Ib := Lib.hid (Ib.out.below hb51)
      replace Ic := Lib.hid (Ic.out.below hb51)
      replace HT := Lib.hid (HT.out.below hb51)
      replace HB := Lib.hid (HB.out.trans (hb51.mono HB.out.size))
      clear hb51
      go_wp2
      go_ret
      exact ⟨rfl, HB.out⟩
    case true =>
      obtain ⟨va, vb, vc⟩ := fine_three hf
      have Va := Lib.hid va
      have Vb := Lib.hid vb
      have Vc := Lib.hid vc
      clear hf va vb vc
      have LA := vlen Va.out
      go_wp2_with fail
      have hk0 := (Bk.new V 32 #[(Value.func (Fn.func 13) #[] #[]), (Value.func (Fn.func 15) #[] #[]), (Value.func (Fn.func 15) #[] #[]), (Value.func (Fn.func 13) #[] #[])]).cell 0
      have hk1 := (Bk.new V 32 #[(Value.func (Fn.func 13) #[] #[]), (Value.func (Fn.func 15) #[] #[]), (Value.func (Fn.func 15) #[] #[]), (Value.func (Fn.func 13) #[] #[])]).cell 1
      have hk2 := (Bk.new V 32 #[(Value.func (Fn.func 13) #[] #[]), (Value.func (Fn.func 15) #[] #[]), (Value.func (Fn.func 15) #[] #[]), (Value.func (Fn.func 13) #[] #[])]).cell 2
      have hk3 := (Bk.new V 32 #[(Value.func (Fn.func 13) #[] #[]), (Value.func (Fn.func 15) #[] #[]), (Value.func (Fn.func 15) #[] #[]), (Value.func (Fn.func 13) #[] #[])]).cell 3
      replace HB := Lib.hid (HB.out.alloc HB.out.size (.cells #[(Value.func (Fn.func 13) #[] #[]), (Value.func (Fn.func 15) #[] #[]), (Value.func (Fn.func 15) #[] #[]), (Value.func (Fn.func 13) #[] #[])] 32))
      replace Ia := Lib.hid (Ia.out.alloc (.cells #[(Value.func (Fn.func 13) #[] #[]), (Value.func (Fn.func 15) #[] #[]), (Value.func (Fn.func 15) #[] #[]), (Value.func (Fn.func 13) #[] #[])] 32))
      replace Ib := Lib.hid (Ib.out.alloc (.cells #[(Value.func (Fn.func 13) #[] #[]), (Value.func (Fn.func 15) #[] #[]), (Value.func (Fn.func 15) #[] #[]), (Value.func (Fn.func 13) #[] #[])] 32))
      replace Ic := Lib.hid (Ic.out.alloc (.cells #[(Value.func (Fn.func 13) #[] #[]), (Value.func (Fn.func 15) #[] #[]), (Value.func (Fn.func 15) #[] #[]), (Value.func (Fn.func 13) #[] #[])] 32))
      replace HT := Lib.hid (HT.out.alloc (.cells #[(Value.func (Fn.func 13) #[] #[]), (Value.func (Fn.func 15) #[] #[]), (Value.func (Fn.func 15) #[] #[]), (Value.func (Fn.func 13) #[] #[])] 32))
      have hsz := World.size_alloc V (.cells #[(Value.func (Fn.func 13) #[] #[]), (Value.func (Fn.func 15) #[] #[]), (Value.func (Fn.func 15) #[] #[]), (Value.func (Fn.func 13) #[] #[])] 32)
      change Code.wp _ _ _ _ (V.alloc (.cells #[(Value.func (Fn.func 13) #[] #[]), (Value.func (Fn.func 15) #[] #[]), (Value.func (Fn.func 15) #[] #[]), (Value.func (Fn.func 13) #[] #[])] 32))
      generalize V.alloc (.cells #[(Value.func (Fn.func 13) #[] #[]), (Value.func (Fn.func 15) #[] #[]), (Value.func (Fn.func 15) #[] #[]), (Value.func (Fn.func 13) #[] #[])] 32) = U at hk0 hk1 hk2 hk3 HB Ia Ib Ic HT hsz ⊢
      have hgs : V.heap.size < U.heap.size := by omega
      clear hsz
      generalize V.heap.size = gV at hk0 hk1 hk2 hk3 hgs ⊢
      go_loopw [8, 9, 10, 11, 12, 31] (fun _ _ _ _ _ i wx => ∃ k : Nat, k ≤ 2 ∧ i = .int .i64 k ∧ Below U.heap.size U wx) (fun _ _ _ _ _ i _ => 2 - (intOf i).toNat)
      case atStart => exact ⟨0, by omega, rfl, Below.refl _ _⟩
      case round =>
        obtain ⟨k, hk, rfl, hr⟩ := hrel
        have hB0 := HB.out
        clear HB
        have HBV := Lib.hid hB0
        clear hB0
        replace Ia := Lib.hid (Ia.out.below hr)
        replace Ib := Lib.hid (Ib.out.below hr)
        replace Ic := Lib.hid (Ic.out.below hr)
        replace HT := Lib.hid (HT.out.below hr)
        have HB := Lib.hid hr
        replace hk0 : wr.cell? ⟨gV, 0, none⟩ = some (Value.func (Fn.func 13) #[] #[]) := (hr.cell hgs).trans hk0
        replace hk1 : wr.cell? ⟨gV, 1, none⟩ = some (Value.func (Fn.func 15) #[] #[]) := (hr.cell hgs).trans hk1
        replace hk2 : wr.cell? ⟨gV, 2, none⟩ = some (Value.func (Fn.func 15) #[] #[]) := (hr.cell hgs).trans hk2
        replace hk3 : wr.cell? ⟨gV, 3, none⟩ = some (Value.func (Fn.func 13) #[] #[]) := (hr.cell hgs).trans hk3
        clear hr
        match k, hk with
        | 0, _ =>
          go_wp2
          go_quiet (fail)
          replace Ia := Lib.hid ((Ia.out.alloc (.cells #[(Value.func (Fn.func 13) #[] #[]), (Value.func (Fn.func 15) #[] #[])] 32)).drewN nq)
          replace Ib := Lib.hid ((Ib.out.alloc (.cells #[(Value.func (Fn.func 13) #[] #[]), (Value.func (Fn.func 15) #[] #[])] 32)).drewN nq)
          replace Ic := Lib.hid ((Ic.out.alloc (.cells #[(Value.func (Fn.func 13) #[] #[]), (Value.func (Fn.func 15) #[] #[])] 32)).drewN nq)
          replace HT := Lib.hid ((HT.out.alloc (.cells #[(Value.func (Fn.func 13) #[] #[]), (Value.func (Fn.func 15) #[] #[])] 32)).below (below_drewN (Below.refl _ _) nq))
          replace HB := Lib.hid (below_drewN (HB.out.alloc HB.out.size (.cells #[(Value.func (Fn.func 13) #[] #[]), (Value.func (Fn.func 15) #[] #[])] 32)) nq)
          clear hk0 hk1 hk2 hk3
          generalize (wr.alloc (.cells #[(Value.func (Fn.func 13) #[] #[]), (Value.func (Fn.func 15) #[] #[])] 32)).drewN nq = wq at Ia Ib Ic HT HB ⊢
          go_wp2_with fail
          refine (join_any Aa Ab ca cb a b _ Ia.out Ib.out (vlen Va.out) (vlen Vb.out)).mono ?_
          rintro e w1 ⟨A1, c1, rfl, hi1, hb1⟩
          rw [Va.out.fit Vb.out]
          try rw [Va.out.fit Vb.out] at hi1
          have I1 := Lib.hid hi1
          clear hi1
          replace Ia := Lib.hid (Ia.out.below hb1)
          replace Ib := Lib.hid (Ib.out.below hb1)
          replace Ic := Lib.hid (Ic.out.below hb1)
          replace HT := Lib.hid (HT.out.below hb1)
          replace HB := Lib.hid (HB.out.trans (hb1.mono HB.out.size))
          clear hb1
          go_wp2_with fail
          refine (must_any _ _ _ _).mono ?_
          rintro e w2 ⟨rfl, rfl⟩
          go_wp2_with fail
          refine (join_any Ab Ac cb cc b c _ Ib.out Ic.out (vlen Vb.out) (vlen Vc.out)).mono ?_
          rintro e w3 ⟨A3, c3, rfl, hi3, hb3⟩
          rw [Vb.out.fit Vc.out]
          try rw [Vb.out.fit Vc.out] at hi3
          have I3 := Lib.hid hi3
          clear hi3
          replace Ia := Lib.hid (Ia.out.below hb3)
          replace Ib := Lib.hid (Ib.out.below hb3)
          replace Ic := Lib.hid (Ic.out.below hb3)
          replace HT := Lib.hid (HT.out.below hb3)
          replace I1 := Lib.hid (I1.out.below hb3)
          replace HB := Lib.hid (HB.out.trans (hb3.mono HB.out.size))
          clear hb3
          go_wp2_with fail
          refine (must_any _ _ _ _).mono ?_
          rintro e w4 ⟨rfl, rfl⟩
          have hlb : ((((Ver.joinL a b)).length : Int) != (a.length : Int)) = false := by rw [(Va.out.join Vb.out).1]; simp
          have hle : ((((Ver.joinL a b)).length : Int) == (a.length : Int)) = true := by rw [(Va.out.join Vb.out).1]; simp
          go_wp2_with fail
          refine (join_any Ab Aa cb ca b a _ Ib.out Ia.out (vlen Vb.out) (vlen Va.out)).mono ?_
          rintro e w5 ⟨A5, c5, rfl, hi5, hb5⟩
          rw [Vb.out.fit Va.out]
          try rw [Vb.out.fit Va.out] at hi5
          have I5 := Lib.hid hi5
          clear hi5
          replace Ia := Lib.hid (Ia.out.below hb5)
          replace Ib := Lib.hid (Ib.out.below hb5)
          replace Ic := Lib.hid (Ic.out.below hb5)
          replace HT := Lib.hid (HT.out.below hb5)
          replace I1 := Lib.hid (I1.out.below hb5)
          replace I3 := Lib.hid (I3.out.below hb5)
          replace HB := Lib.hid (HB.out.trans (hb5.mono HB.out.size))
          clear hb5
          go_wp2_with fail
          refine (must_any _ _ _ _).mono ?_
          rintro e w6 ⟨rfl, rfl⟩
          clear hlb hle
          go_wp2_with fail
          refine (sameV_any _ _ _ _ (Ver.joinL a b) (Ver.joinL b a) _ I1.out I5.out (vlen (Va.out.join Vb.out)) (vlen (Vb.out.join Va.out))).mono ?_
          rintro e w7 ⟨rfl, hb7⟩
          rw [decide_eq_true (Ver.join_comm Va.out Vb.out)]
          replace Ia := Lib.hid (Ia.out.below hb7)
          replace Ib := Lib.hid (Ib.out.below hb7)
          replace Ic := Lib.hid (Ic.out.below hb7)
          replace HT := Lib.hid (HT.out.below hb7)
          replace I1 := Lib.hid (I1.out.below hb7)
          replace I3 := Lib.hid (I3.out.below hb7)
          replace I5 := Lib.hid (I5.out.below hb7)
          replace HB := Lib.hid (HB.out.trans (hb7.mono HB.out.size))
          clear hb7
          go_wp2_with fail
          refine (join_any _ Ac _ cc (Ver.joinL a b) c _ I1.out Ic.out (vlen (Va.out.join Vb.out)) (vlen Vc.out)).mono ?_
          rintro e w8 ⟨A8, c8, rfl, hi8, hb8⟩
          rw [(Va.out.join Vb.out).fit Vc.out]
          try rw [(Va.out.join Vb.out).fit Vc.out] at hi8
          have I8 := Lib.hid hi8
          clear hi8
          replace Ia := Lib.hid (Ia.out.below hb8)
          replace Ib := Lib.hid (Ib.out.below hb8)
          replace Ic := Lib.hid (Ic.out.below hb8)
          replace HT := Lib.hid (HT.out.below hb8)
          replace I1 := Lib.hid (I1.out.below hb8)
          replace I3 := Lib.hid (I3.out.below hb8)
          replace HB := Lib.hid (HB.out.trans (hb8.mono HB.out.size))
          clear hb8
          go_wp2_with fail
          refine (must_any _ _ _ _).mono ?_
          rintro e w9 ⟨rfl, rfl⟩
          go_wp2_with fail
          refine (join_any Aa _ ca _ a (Ver.joinL b c) _ Ia.out I3.out (vlen Va.out) (vlen (Vb.out.join Vc.out))).mono ?_
          rintro e w10 ⟨A10, c10, rfl, hi10, hb10⟩
          rw [Va.out.fit (Vb.out.join Vc.out)]
          try rw [Va.out.fit (Vb.out.join Vc.out)] at hi10
          have I10 := Lib.hid hi10
          clear hi10
          replace Ia := Lib.hid (Ia.out.below hb10)
          replace Ib := Lib.hid (Ib.out.below hb10)
          replace Ic := Lib.hid (Ic.out.below hb10)
          replace HT := Lib.hid (HT.out.below hb10)
          replace I1 := Lib.hid (I1.out.below hb10)
          replace I3 := Lib.hid (I3.out.below hb10)
          replace I8 := Lib.hid (I8.out.below hb10)
          replace HB := Lib.hid (HB.out.trans (hb10.mono HB.out.size))
          clear hb10
          go_wp2_with fail
          refine (must_any _ _ _ _).mono ?_
          rintro e w11 ⟨rfl, rfl⟩
          go_wp2_with fail
          refine (sameV_any _ _ _ _ (Ver.joinL (Ver.joinL a b) c) (Ver.joinL a (Ver.joinL b c)) _ I8.out I10.out (vlen ((Va.out.join Vb.out).join Vc.out)) (vlen (Va.out.join (Vb.out.join Vc.out)))).mono ?_
          rintro e w12 ⟨rfl, hb12⟩
          rw [decide_eq_true (Ver.join_assoc Va.out Vb.out Vc.out)]
          replace Ia := Lib.hid (Ia.out.below hb12)
          replace Ib := Lib.hid (Ib.out.below hb12)
          replace Ic := Lib.hid (Ic.out.below hb12)
          replace HT := Lib.hid (HT.out.below hb12)
          replace I1 := Lib.hid (I1.out.below hb12)
          replace I3 := Lib.hid (I3.out.below hb12)
          replace I8 := Lib.hid (I8.out.below hb12)
          replace I10 := Lib.hid (I10.out.below hb12)
          replace HB := Lib.hid (HB.out.trans (hb12.mono HB.out.size))
          clear hb12
          go_wp2_with fail
          refine (join_any Aa Aa ca ca a a _ Ia.out Ia.out (vlen Va.out) (vlen Va.out)).mono ?_
          rintro e w13 ⟨A13, c13, rfl, hi13, hb13⟩
          rw [Va.out.fit Va.out]
          try rw [Va.out.fit Va.out] at hi13
          have I13 := Lib.hid hi13
          clear hi13
          replace Ia := Lib.hid (Ia.out.below hb13)
          replace Ib := Lib.hid (Ib.out.below hb13)
          replace Ic := Lib.hid (Ic.out.below hb13)
          replace HT := Lib.hid (HT.out.below hb13)
          replace HB := Lib.hid (HB.out.trans (hb13.mono HB.out.size))
          clear hb13
          go_wp2_with fail
          refine (must_any _ _ _ _).mono ?_
          rintro e w14 ⟨rfl, rfl⟩
          go_wp2_with fail
          refine (sameV_any _ Aa _ ca (Ver.joinL a a) a _ I13.out Ia.out (vlen (Va.out.join Va.out)) (vlen Va.out)).mono ?_
          rintro e w15 ⟨rfl, hb15⟩
          rw [decide_eq_true (Ver.join_self Va.out)]
          replace Ia := Lib.hid (Ia.out.below hb15)
          replace Ib := Lib.hid (Ib.out.below hb15)
          replace Ic := Lib.hid (Ic.out.below hb15)
          replace HT := Lib.hid (HT.out.below hb15)
          replace I13 := Lib.hid (I13.out.below hb15)
          replace HB := Lib.hid (HB.out.trans (hb15.mono HB.out.size))
          clear hb15
          go_wp2_with fail
          refine (meet_any Aa Ab ca cb a b _ Ia.out Ib.out (vlen Va.out) (vlen Vb.out)).mono ?_
          rintro e w16 ⟨A16, c16, rfl, hi16, hb16⟩
          rw [Va.out.fit Vb.out]
          try rw [Va.out.fit Vb.out] at hi16
          have I16 := Lib.hid hi16
          clear hi16
          replace Ia := Lib.hid (Ia.out.below hb16)
          replace Ib := Lib.hid (Ib.out.below hb16)
          replace Ic := Lib.hid (Ic.out.below hb16)
          replace HT := Lib.hid (HT.out.below hb16)
          replace HB := Lib.hid (HB.out.trans (hb16.mono HB.out.size))
          clear hb16
          go_wp2_with fail
          refine (must_any _ _ _ _).mono ?_
          rintro e w17 ⟨rfl, rfl⟩
          go_wp2_with fail
          refine (join_any Aa _ ca _ a (Ver.meetL a b) _ Ia.out I16.out (vlen Va.out) (vlen (Va.out.meet Vb.out))).mono ?_
          rintro e w18 ⟨A18, c18, rfl, hi18, hb18⟩
          rw [Va.out.fit (Va.out.meet Vb.out)]
          try rw [Va.out.fit (Va.out.meet Vb.out)] at hi18
          have I18 := Lib.hid hi18
          clear hi18
          replace Ia := Lib.hid (Ia.out.below hb18)
          replace Ib := Lib.hid (Ib.out.below hb18)
          replace Ic := Lib.hid (Ic.out.below hb18)
          replace HT := Lib.hid (HT.out.below hb18)
          replace I16 := Lib.hid (I16.out.below hb18)
          replace HB := Lib.hid (HB.out.trans (hb18.mono HB.out.size))
          clear hb18
          go_wp2_with fail
          refine (must_any _ _ _ _).mono ?_
          rintro e w19 ⟨rfl, rfl⟩
          go_wp2_with fail
          refine (sameV_any _ Aa _ ca (Ver.joinL a (Ver.meetL a b)) a _ I18.out Ia.out (vlen (Va.out.join (Va.out.meet Vb.out))) (vlen Va.out)).mono ?_
          rintro e w20 ⟨rfl, hb20⟩
          rw [decide_eq_true (Ver.join_absorb Va.out Vb.out)]
          replace Ia := Lib.hid (Ia.out.below hb20)
          replace Ib := Lib.hid (Ib.out.below hb20)
          replace Ic := Lib.hid (Ic.out.below hb20)
          replace HT := Lib.hid (HT.out.below hb20)
          replace I16 := Lib.hid (I16.out.below hb20)
          replace I18 := Lib.hid (I18.out.below hb20)
          replace HB := Lib.hid (HB.out.trans (hb20.mono HB.out.size))
          clear hb20
          go_wp2
          go_roundw
          case rel => exact ⟨1, by omega, by go_num, HB.out⟩
          case measure => simp [intOf]
        | 1, _ =>
          go_wp2
          go_quiet (fail)
          replace Ia := Lib.hid ((Ia.out.alloc (.cells #[(Value.func (Fn.func 15) #[] #[]), (Value.func (Fn.func 13) #[] #[])] 32)).drewN nq)
          replace Ib := Lib.hid ((Ib.out.alloc (.cells #[(Value.func (Fn.func 15) #[] #[]), (Value.func (Fn.func 13) #[] #[])] 32)).drewN nq)
          replace Ic := Lib.hid ((Ic.out.alloc (.cells #[(Value.func (Fn.func 15) #[] #[]), (Value.func (Fn.func 13) #[] #[])] 32)).drewN nq)
          replace HT := Lib.hid ((HT.out.alloc (.cells #[(Value.func (Fn.func 15) #[] #[]), (Value.func (Fn.func 13) #[] #[])] 32)).below (below_drewN (Below.refl _ _) nq))
          replace HB := Lib.hid (below_drewN (HB.out.alloc HB.out.size (.cells #[(Value.func (Fn.func 15) #[] #[]), (Value.func (Fn.func 13) #[] #[])] 32)) nq)
          clear hk0 hk1 hk2 hk3
          generalize (wr.alloc (.cells #[(Value.func (Fn.func 15) #[] #[]), (Value.func (Fn.func 13) #[] #[])] 32)).drewN nq = wq at Ia Ib Ic HT HB ⊢
          go_wp2_with fail
          refine (meet_any Aa Ab ca cb a b _ Ia.out Ib.out (vlen Va.out) (vlen Vb.out)).mono ?_
          rintro e w1 ⟨A1, c1, rfl, hi1, hb1⟩
          rw [Va.out.fit Vb.out]
          try rw [Va.out.fit Vb.out] at hi1
          have I1 := Lib.hid hi1
          clear hi1
          replace Ia := Lib.hid (Ia.out.below hb1)
          replace Ib := Lib.hid (Ib.out.below hb1)
          replace Ic := Lib.hid (Ic.out.below hb1)
          replace HT := Lib.hid (HT.out.below hb1)
          replace HB := Lib.hid (HB.out.trans (hb1.mono HB.out.size))
          clear hb1
          go_wp2_with fail
          refine (must_any _ _ _ _).mono ?_
          rintro e w2 ⟨rfl, rfl⟩
          go_wp2_with fail
          refine (meet_any Ab Ac cb cc b c _ Ib.out Ic.out (vlen Vb.out) (vlen Vc.out)).mono ?_
          rintro e w3 ⟨A3, c3, rfl, hi3, hb3⟩
          rw [Vb.out.fit Vc.out]
          try rw [Vb.out.fit Vc.out] at hi3
          have I3 := Lib.hid hi3
          clear hi3
          replace Ia := Lib.hid (Ia.out.below hb3)
          replace Ib := Lib.hid (Ib.out.below hb3)
          replace Ic := Lib.hid (Ic.out.below hb3)
          replace HT := Lib.hid (HT.out.below hb3)
          replace I1 := Lib.hid (I1.out.below hb3)
          replace HB := Lib.hid (HB.out.trans (hb3.mono HB.out.size))
          clear hb3
          go_wp2_with fail
          refine (must_any _ _ _ _).mono ?_
          rintro e w4 ⟨rfl, rfl⟩
          have hlb : ((((Ver.meetL a b)).length : Int) != (a.length : Int)) = false := by rw [(Va.out.meet Vb.out).1]; simp
          have hle : ((((Ver.meetL a b)).length : Int) == (a.length : Int)) = true := by rw [(Va.out.meet Vb.out).1]; simp
          go_wp2_with fail
          refine (meet_any Ab Aa cb ca b a _ Ib.out Ia.out (vlen Vb.out) (vlen Va.out)).mono ?_
          rintro e w5 ⟨A5, c5, rfl, hi5, hb5⟩
          rw [Vb.out.fit Va.out]
          try rw [Vb.out.fit Va.out] at hi5
          have I5 := Lib.hid hi5
          clear hi5
          replace Ia := Lib.hid (Ia.out.below hb5)
          replace Ib := Lib.hid (Ib.out.below hb5)
          replace Ic := Lib.hid (Ic.out.below hb5)
          replace HT := Lib.hid (HT.out.below hb5)
          replace I1 := Lib.hid (I1.out.below hb5)
          replace I3 := Lib.hid (I3.out.below hb5)
          replace HB := Lib.hid (HB.out.trans (hb5.mono HB.out.size))
          clear hb5
          go_wp2_with fail
          refine (must_any _ _ _ _).mono ?_
          rintro e w6 ⟨rfl, rfl⟩
          clear hlb hle
          go_wp2_with fail
          refine (sameV_any _ _ _ _ (Ver.meetL a b) (Ver.meetL b a) _ I1.out I5.out (vlen (Va.out.meet Vb.out)) (vlen (Vb.out.meet Va.out))).mono ?_
          rintro e w7 ⟨rfl, hb7⟩
          rw [decide_eq_true (Ver.meet_comm Va.out Vb.out)]
          replace Ia := Lib.hid (Ia.out.below hb7)
          replace Ib := Lib.hid (Ib.out.below hb7)
          replace Ic := Lib.hid (Ic.out.below hb7)
          replace HT := Lib.hid (HT.out.below hb7)
          replace I1 := Lib.hid (I1.out.below hb7)
          replace I3 := Lib.hid (I3.out.below hb7)
          replace I5 := Lib.hid (I5.out.below hb7)
          replace HB := Lib.hid (HB.out.trans (hb7.mono HB.out.size))
          clear hb7
          go_wp2_with fail
          refine (meet_any _ Ac _ cc (Ver.meetL a b) c _ I1.out Ic.out (vlen (Va.out.meet Vb.out)) (vlen Vc.out)).mono ?_
          rintro e w8 ⟨A8, c8, rfl, hi8, hb8⟩
          rw [(Va.out.meet Vb.out).fit Vc.out]
          try rw [(Va.out.meet Vb.out).fit Vc.out] at hi8
          have I8 := Lib.hid hi8
          clear hi8
          replace Ia := Lib.hid (Ia.out.below hb8)
          replace Ib := Lib.hid (Ib.out.below hb8)
          replace Ic := Lib.hid (Ic.out.below hb8)
          replace HT := Lib.hid (HT.out.below hb8)
          replace I1 := Lib.hid (I1.out.below hb8)
          replace I3 := Lib.hid (I3.out.below hb8)
          replace HB := Lib.hid (HB.out.trans (hb8.mono HB.out.size))
          clear hb8
          go_wp2_with fail
          refine (must_any _ _ _ _).mono ?_
          rintro e w9 ⟨rfl, rfl⟩
          go_wp2_with fail
          refine (meet_any Aa _ ca _ a (Ver.meetL b c) _ Ia.out I3.out (vlen Va.out) (vlen (Vb.out.meet Vc.out))).mono ?_
          rintro e w10 ⟨A10, c10, rfl, hi10, hb10⟩
          rw [Va.out.fit (Vb.out.meet Vc.out)]
          try rw [Va.out.fit (Vb.out.meet Vc.out)] at hi10
          have I10 := Lib.hid hi10
          clear hi10
          replace Ia := Lib.hid (Ia.out.below hb10)
          replace Ib := Lib.hid (Ib.out.below hb10)
          replace Ic := Lib.hid (Ic.out.below hb10)
          replace HT := Lib.hid (HT.out.below hb10)
          replace I1 := Lib.hid (I1.out.below hb10)
          replace I3 := Lib.hid (I3.out.below hb10)
          replace I8 := Lib.hid (I8.out.below hb10)
          replace HB := Lib.hid (HB.out.trans (hb10.mono HB.out.size))
          clear hb10
          go_wp2_with fail
          refine (must_any _ _ _ _).mono ?_
          rintro e w11 ⟨rfl, rfl⟩
          go_wp2_with fail
          refine (sameV_any _ _ _ _ (Ver.meetL (Ver.meetL a b) c) (Ver.meetL a (Ver.meetL b c)) _ I8.out I10.out (vlen ((Va.out.meet Vb.out).meet Vc.out)) (vlen (Va.out.meet (Vb.out.meet Vc.out)))).mono ?_
          rintro e w12 ⟨rfl, hb12⟩
          rw [decide_eq_true (Ver.meet_assoc Va.out Vb.out Vc.out)]
          replace Ia := Lib.hid (Ia.out.below hb12)
          replace Ib := Lib.hid (Ib.out.below hb12)
          replace Ic := Lib.hid (Ic.out.below hb12)
          replace HT := Lib.hid (HT.out.below hb12)
          replace I1 := Lib.hid (I1.out.below hb12)
          replace I3 := Lib.hid (I3.out.below hb12)
          replace I8 := Lib.hid (I8.out.below hb12)
          replace I10 := Lib.hid (I10.out.below hb12)
          replace HB := Lib.hid (HB.out.trans (hb12.mono HB.out.size))
          clear hb12
          go_wp2_with fail
          refine (meet_any Aa Aa ca ca a a _ Ia.out Ia.out (vlen Va.out) (vlen Va.out)).mono ?_
          rintro e w13 ⟨A13, c13, rfl, hi13, hb13⟩
          rw [Va.out.fit Va.out]
          try rw [Va.out.fit Va.out] at hi13
          have I13 := Lib.hid hi13
          clear hi13
          replace Ia := Lib.hid (Ia.out.below hb13)
          replace Ib := Lib.hid (Ib.out.below hb13)
          replace Ic := Lib.hid (Ic.out.below hb13)
          replace HT := Lib.hid (HT.out.below hb13)
          replace HB := Lib.hid (HB.out.trans (hb13.mono HB.out.size))
          clear hb13
          go_wp2_with fail
          refine (must_any _ _ _ _).mono ?_
          rintro e w14 ⟨rfl, rfl⟩
          go_wp2_with fail
          refine (sameV_any _ Aa _ ca (Ver.meetL a a) a _ I13.out Ia.out (vlen (Va.out.meet Va.out)) (vlen Va.out)).mono ?_
          rintro e w15 ⟨rfl, hb15⟩
          rw [decide_eq_true (Ver.meet_self Va.out)]
          replace Ia := Lib.hid (Ia.out.below hb15)
          replace Ib := Lib.hid (Ib.out.below hb15)
          replace Ic := Lib.hid (Ic.out.below hb15)
          replace HT := Lib.hid (HT.out.below hb15)
          replace I13 := Lib.hid (I13.out.below hb15)
          replace HB := Lib.hid (HB.out.trans (hb15.mono HB.out.size))
          clear hb15
          go_wp2_with fail
          refine (join_any Aa Ab ca cb a b _ Ia.out Ib.out (vlen Va.out) (vlen Vb.out)).mono ?_
          rintro e w16 ⟨A16, c16, rfl, hi16, hb16⟩
          rw [Va.out.fit Vb.out]
          try rw [Va.out.fit Vb.out] at hi16
          have I16 := Lib.hid hi16
          clear hi16
          replace Ia := Lib.hid (Ia.out.below hb16)
          replace Ib := Lib.hid (Ib.out.below hb16)
          replace Ic := Lib.hid (Ic.out.below hb16)
          replace HT := Lib.hid (HT.out.below hb16)
          replace HB := Lib.hid (HB.out.trans (hb16.mono HB.out.size))
          clear hb16
          go_wp2_with fail
          refine (must_any _ _ _ _).mono ?_
          rintro e w17 ⟨rfl, rfl⟩
          go_wp2_with fail
          refine (meet_any Aa _ ca _ a (Ver.joinL a b) _ Ia.out I16.out (vlen Va.out) (vlen (Va.out.join Vb.out))).mono ?_
          rintro e w18 ⟨A18, c18, rfl, hi18, hb18⟩
          rw [Va.out.fit (Va.out.join Vb.out)]
          try rw [Va.out.fit (Va.out.join Vb.out)] at hi18
          have I18 := Lib.hid hi18
          clear hi18
          replace Ia := Lib.hid (Ia.out.below hb18)
          replace Ib := Lib.hid (Ib.out.below hb18)
          replace Ic := Lib.hid (Ic.out.below hb18)
          replace HT := Lib.hid (HT.out.below hb18)
          replace I16 := Lib.hid (I16.out.below hb18)
          replace HB := Lib.hid (HB.out.trans (hb18.mono HB.out.size))
          clear hb18
          go_wp2_with fail
          refine (must_any _ _ _ _).mono ?_
          rintro e w19 ⟨rfl, rfl⟩
          go_wp2_with fail
          refine (sameV_any _ Aa _ ca (Ver.meetL a (Ver.joinL a b)) a _ I18.out Ia.out (vlen (Va.out.meet (Va.out.join Vb.out))) (vlen Va.out)).mono ?_
          rintro e w20 ⟨rfl, hb20⟩
          rw [decide_eq_true (Ver.meet_absorb Va.out Vb.out)]
          replace Ia := Lib.hid (Ia.out.below hb20)
          replace Ib := Lib.hid (Ib.out.below hb20)
          replace Ic := Lib.hid (Ic.out.below hb20)
          replace HT := Lib.hid (HT.out.below hb20)
          replace I16 := Lib.hid (I16.out.below hb20)
          replace I18 := Lib.hid (I18.out.below hb20)
          replace HB := Lib.hid (HB.out.trans (hb20.mono HB.out.size))
          clear hb20
          go_wp2
          go_roundw
          case rel => exact ⟨2, by omega, by go_num, HB.out⟩
          case measure => simp [intOf]
        | 2, _ =>
          replace HB := Lib.hid (HBV.out.trans (HB.out.mono HBV.out.size))
          go_wp2_with fail
          refine (awake_any _ HT.out).mono ?_
          rintro e w1 ⟨rfl, hb1⟩
          replace Ia := Lib.hid (Ia.out.below hb1)
          replace Ib := Lib.hid (Ib.out.below hb1)
          replace Ic := Lib.hid (Ic.out.below hb1)
          replace HT := Lib.hid (HT.out.below hb1)
          replace HB := Lib.hid (HB.out.trans (hb1.mono HB.out.size))
          clear hb1
          go_wp2
          go_ret
          exact ⟨rfl, HB.out⟩
end Go.Proofs.YtolohghpiccbaaaDoor
