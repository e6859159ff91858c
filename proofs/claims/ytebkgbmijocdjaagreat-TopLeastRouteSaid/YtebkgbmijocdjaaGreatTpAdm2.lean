/- route.Admit of the program, walked. Condition: the tables and the hops lie in memory, the tables are valid, fewer than 20 hops. -/
import Derived.Test.YtebkgbmijocdjaaGreatTpAdL
import Derived.Test.YtebkgbmijocdjaaGreatTpHol
namespace Go.Proofs.YtebkgbmijocdjaaGreat.Tp
open Go Go.RowKit

theorem holdsL_len {p : Pln} {q : Rq} {l : List Hop} {tk : Int} (h : RouteOK p q l) : (holdsL p q l tk).length = l.length := by
  have hway := h.2.2.2.1
  have hHL : holdsP p q tk q.ready (plcF p q.src q.ready l) = holdsL p q l tk := holdsP_way hway
  rw [← hHL, holdsP_len, plcF_len hway]
set_option maxHeartbeats 8000000 in
set_option maxRecDepth 100000 in
theorem admit_any (Aq : Option Addr) (cq : Nat) (Ac : Option Addr) (cc : Nat) (B : Option Addr) (cb : Nat) (H : Option Addr) (ch : Nat) (t : Tbl) (q : Rq) (A : Option Addr) (cA : Nat) (l : List Hop) (w : World) (ht : TblAt w Aq cq Ac cc B cb H ch t) (hok : TblOK t) (hl : SlAt hpE w A l) (h20 : l.length < 20) :
    Calls Tryz.prog 11 #[.agg #[.slice Aq t.p.q.length cq, .slice Ac t.p.c.length cc, .slice B t.b.length cb, .slice H t.h.length ch], .agg #[.int .i64 q.src, .int .i64 q.dst, .int .i64 q.size, .int .i64 q.ready, .int .i64 q.dead, .int .i64 q.prio, .bool q.cust], .slice A l.length cA] w (RetErr (AdmitD t q l) w) := by
  have HT := Lib.hid ht
  have HOK := Lib.hid hok
  have HL := Lib.hid hl
  have hbl : t.b.length ≤ 512 := hok.2.1.1
  have hhl : t.h.length ≤ 512 := hok.2.2.1
  have HB0 : Hid (Below w.heap.size w ((w.alloc (.cells (tbA Aq cq Ac cc B cb H ch t) 29)).alloc (.cells #[.int .i64 q.src, .int .i64 q.dst, .int .i64 q.size, .int .i64 q.ready, .int .i64 q.dead, .int .i64 q.prio, .bool q.cust] 31))) := ((Below.refl _ _).alloc (Nat.le_refl _) _).alloc (by simp) _
  have HK := Lib.hid ((Bk.new w 29 (tbA Aq cq Ac cc B cb H ch t)).alloc (.cells #[.int .i64 q.src, .int .i64 q.dst, .int .i64 q.size, .int .i64 q.ready, .int .i64 q.dead, .int .i64 q.prio, .bool q.cust] 31))
  have HQ : Hid (Bk ((w.alloc (.cells (tbA Aq cq Ac cc B cb H ch t) 29)).alloc (.cells #[.int .i64 q.src, .int .i64 q.dst, .int .i64 q.size, .int .i64 q.ready, .int .i64 q.dead, .int .i64 q.prio, .bool q.cust] 31)) (w.heap.size + 1) 31 #[.int .i64 q.src, .int .i64 q.dst, .int .i64 q.size, .int .i64 q.ready, .int .i64 q.dead, .int .i64 q.prio, .bool q.cust]) := by
    have h := Bk.new (w.alloc (.cells (tbA Aq cq Ac cc B cb H ch t) 29)) 31 #[.int .i64 q.src, .int .i64 q.dst, .int .i64 q.size, .int .i64 q.ready, .int .i64 q.dead, .int .i64 q.prio, .bool q.cust]
    rwa [World.size_alloc] at h
  have HC1 := Lib.hid (fun w h => tables_yes Aq cq Ac cc B cb H ch t w h hok)
  have HC2 := Lib.hid (fun w hp hl => routeCheck_any Aq cq Ac cc t.p q A cA l w hp hl (by unfold maxLen; omega))
  clear ht hl hok
  go_enter Tryz.func11, Tryz.ntmps11
  go_wp2_with fail
  generalize (w.alloc (.cells (tbA Aq cq Ac cc B cb H ch t) 29)).alloc (.cells #[.int .i64 q.src, .int .i64 q.dst, .int .i64 q.size, .int .i64 q.ready, .int .i64 q.dead, .int .i64 q.prio, .bool q.cust] 31) = W at HB0 HK HQ ⊢
  generalize hg0 : w.heap.size = g0 at HK HQ HB0 ⊢
  have HB0' : Hid (Below w.heap.size w W) := by show Below _ _ _; rw [hg0]; exact HB0.out
  refine (HC1.out W (HT.out.below HB0'.out)).mono ?_
  rintro e w1 ⟨rfl, hb1⟩
  have HB1 := Lib.hid (below_next HB0'.out hb1)
  have HK1 := Lib.hid (HK.out.below hb1 HK.out.lt)
  have HQ1 := Lib.hid (HQ.out.below hb1 HQ.out.lt)
  have t0 : w1.cell? ⟨g0, 0, none⟩ = some (.slice Aq t.p.q.length cq) := HK1.out.cell 0
  have t1 : w1.cell? ⟨g0, 1, none⟩ = some (.slice Ac t.p.c.length cc) := HK1.out.cell 1
  have b0 : w1.cell? ⟨g0 + 1, 0, none⟩ = some (.int .i64 q.src) := HQ1.out.cell 0
  have b1 : w1.cell? ⟨g0 + 1, 1, none⟩ = some (.int .i64 q.dst) := HQ1.out.cell 1
  have b2 : w1.cell? ⟨g0 + 1, 2, none⟩ = some (.int .i64 q.size) := HQ1.out.cell 2
  have b3 : w1.cell? ⟨g0 + 1, 3, none⟩ = some (.int .i64 q.ready) := HQ1.out.cell 3
  have b4 : w1.cell? ⟨g0 + 1, 4, none⟩ = some (.int .i64 q.dead) := HQ1.out.cell 4
  have b5 : w1.cell? ⟨g0 + 1, 5, none⟩ = some (.int .i64 q.prio) := HQ1.out.cell 5
  have b6 : w1.cell? ⟨g0 + 1, 6, none⟩ = some (.bool q.cust) := HQ1.out.cell 6
  clear hb1 HC1 HB0 HB0' HK HQ
  go_wp2_with fail
  clear t0 t1 b0 b1 b2 b3 b4 b5 b6
  refine (HC2.out w1 (HT.out.p.below HB1.out) (HL.out.below HB1.out)).mono ?_
  rintro e w2 ⟨q2, rfl, hq2, hb2⟩
  have HB2 := Lib.hid (below_next HB1.out hb2)
  have HK2 := Lib.hid (HK1.out.below hb2 HK1.out.lt)
  have HQ2 := Lib.hid (HQ1.out.below hb2 HQ1.out.lt)
  clear hb2 HC2 HB1 HK1 HQ1
  by_cases hz : q2 = 0
  · subst hz
    have HR : Hid (RouteOK t.p q l) := hq2.1 rfl
    have hl0 : l ≠ [] := HR.out.2.1
    have HHC := Lib.hid (fun w hp hl => holds_any Aq cq Ac cc t.p q A cA l 0 w hp hl HR.out)
    have t0 : w2.cell? ⟨g0, 0, none⟩ = some (.slice Aq t.p.q.length cq) := HK2.out.cell 0
    have t1 : w2.cell? ⟨g0, 1, none⟩ = some (.slice Ac t.p.c.length cc) := HK2.out.cell 1
    have b0 : w2.cell? ⟨g0 + 1, 0, none⟩ = some (.int .i64 q.src) := HQ2.out.cell 0
    have b1 : w2.cell? ⟨g0 + 1, 1, none⟩ = some (.int .i64 q.dst) := HQ2.out.cell 1
    have b2 : w2.cell? ⟨g0 + 1, 2, none⟩ = some (.int .i64 q.size) := HQ2.out.cell 2
    have b3 : w2.cell? ⟨g0 + 1, 3, none⟩ = some (.int .i64 q.ready) := HQ2.out.cell 3
    have b4 : w2.cell? ⟨g0 + 1, 4, none⟩ = some (.int .i64 q.dead) := HQ2.out.cell 4
    have b5 : w2.cell? ⟨g0 + 1, 5, none⟩ = some (.int .i64 q.prio) := HQ2.out.cell 5
    have b6 : w2.cell? ⟨g0 + 1, 6, none⟩ = some (.bool q.cust) := HQ2.out.cell 6
    clear hq2
    go_wp2_with fail
    clear t0 t1 b0 b1 b2 b3 b4 b5 b6
    refine (HHC.out w2 (HT.out.p.below HB2.out) (HL.out.below HB2.out)).mono ?_
    rintro e w3 ⟨Lh, hLp, Ah, ch2, rfl, hs3, hc3, ha3, hb3⟩
    have HLP := Lib.hid hLp
    have HHL : Hid (Lh.length = l.length) := by show _ = _; rw [hLp.length_eq]; exact holdsL_len HR.out
    have hhl2 := HHL.out
    have HS3 := Lib.hid hs3
    have HB3 := Lib.hid (below_next HB2.out hb3)
    have HK3 := Lib.hid (HK2.out.below hb3 HK2.out.lt)
    have HQ3 := Lib.hid (HQ2.out.below hb3 HQ2.out.lt)
    have t2 : w3.cell? ⟨g0, 2, none⟩ = some (.slice B t.b.length cb) := HK3.out.cell 2
    have t3 : w3.cell? ⟨g0, 3, none⟩ = some (.slice H t.h.length ch) := HK3.out.cell 3
    clear hLp hs3 hc3 ha3 hb3 HHC HB2 HK2 HQ2
    by_cases hn : t.b.length + l.length ≤ 512 ∧ t.h.length + l.length ≤ 512
    · have HN := Lib.hid hn
      have n1 : ¬ (512 : Int) < (t.b.length : Int) + (l.length : Int) := by omega
      have n2 : ¬ (512 : Int) < (t.h.length : Int) + (Lh.length : Int) := by omega
      have n3 : (t.b.length : Int) + (l.length : Int) ≤ 512 := by omega
      have n4 : (t.h.length : Int) + (Lh.length : Int) ≤ 512 := by omega
      clear hn
      go_wp2_with fail
      clear t2 t3
      refine (bookings_any A cA l 0 w3 (HL.out.below HB3.out) hl0 h20).mono ?_
      rintro e w4 ⟨Lb, hLq, Ab, cb2, rfl, hs4, hc4, ha4, hb4⟩
      have HLQ := Lib.hid hLq
      have HLB : Hid (Lb.length = l.length) := by show _ = _; rw [hLq.length_eq]; simp [bksL]
      have hlb2 := HLB.out
      have HS4 := Lib.hid hs4
      have HB4 := Lib.hid (below_next HB3.out hb4)
      have HK4 := Lib.hid (HK3.out.below hb4 HK3.out.lt)
      have HS5 := Lib.hid (HS3.out.below hb4)
      clear hLq hs4 hc4 ha4 hb4 HB3 HK3 HQ3 HS3 n1 n2 n3 n4
      have hlbp : (0 : Int) ≤ (l.length : Int) := by omega
      go_wp2
      go_loopw [9, 11, 12, 13, 56] (fun v _ _ _ i wr => ∃ (k : Nat) (lk : List Bkg) (A9 : Option Addr) (c9 : Nat), k ≤ l.length ∧ i = .int .i64 k ∧ v = .slice A9 lk.length c9 ∧ SlAt bkE wr A9 lk ∧ lk.Perm (Lb.take k ++ t.b) ∧ BksOK t.p lk ∧ Below w4.heap.size w4 wr) (fun _ _ _ _ i _ => l.length - (intOf i).toNat)
      case atStart => exact ⟨0, t.b, B, cb, Nat.zero_le _, rfl, rfl, HT.out.b.below HB4.out, List.Perm.refl _, HOK.out.2.1, Below.refl _ _⟩
      case round =>
        obtain ⟨k, lk, A9, c9, hk, rfl, rfl, hsk, hpk, hok, hbk⟩ := hrel
        have HSK := Lib.hid hsk
        have HPK := Lib.hid hpk
        have HOK9 := Lib.hid hok
        have HBK := Lib.hid hbk
        clear hsk hpk hok hbk
        by_cases hlt : k < l.length
        · obtain ⟨bb, ob, rfl, hr⟩ := (HS4.out.below HBK.out).one (by omega)
          obtain ⟨x, hx⟩ : ∃ x, Lb[k]? = some x := ⟨_, List.getElem?_eq_getElem (by omega)⟩
          have hrg : wr.rangeAt bb (ob + k * 4) (bkE.f x) := hr k x hx
          have c0 : wr.cell? ⟨bb, ob + k * 4, none⟩ = some (.int .i64 x.ct) := hrg 0 _ rfl
          have c1 : wr.cell? ⟨bb, ob + k * 4 + 1, none⟩ = some (.int .i64 x.beg) := hrg 1 _ rfl
          have c2 : wr.cell? ⟨bb, ob + k * 4 + 2, none⟩ = some (.int .i64 x.fin) := hrg 2 _ rfl
          have c3 : wr.cell? ⟨bb, ob + k * 4 + 3, none⟩ = some (.int .i64 x.tick) := hrg 3 _ rfl
          have HX := Lib.hid hx
          have hk0 : (0 : Int) ≤ (k : Int) := by omega
          have hk1 : (k : Int) < (l.length : Int) := by omega
          have HXB : Hid (Bk (wr.alloc (.cells (bkA x) 95)) wr.heap.size 95 (bkA x)) := Bk.new _ _ _
          have HBX : Hid (Below wr.heap.size wr (wr.alloc (.cells (bkA x) 95))) := (Below.refl _ _).alloc (Nat.le_refl _) _
          have HKR := Lib.hid ((HK4.out.below HBK.out HK4.out.lt).below HBX.out ((HK4.out.below HBK.out HK4.out.lt).lt))
          have t0 : (wr.alloc (.cells (bkA x) 95)).cell? ⟨g0, 0, none⟩ = some (.slice Aq t.p.q.length cq) := HKR.out.cell 0
          have t1 : (wr.alloc (.cells (bkA x) 95)).cell? ⟨g0, 1, none⟩ = some (.slice Ac t.p.c.length cc) := HKR.out.cell 1
          have HBF : Hid (Below w4.heap.size w4 (wr.alloc (.cells (bkA x) 95))) := below_next HBK.out HBX.out
          have HAD := Lib.hid (bkAdd_any Aq cq Ac cc t.p A9 c9 lk x (wr.alloc (.cells (bkA x) 95)) (HT.out.p.below (below_next HB4.out HBF.out)) (HSK.out.below HBX.out) ⟨HOK.out.1, HOK9.out⟩)
          clear hr hx hrg
          go_wp2_with fail
          refine HAD.out.mono ?_
          clear HAD c0 c1 c2 c3 t0 t1
          rintro e w6 ⟨⟨hy, l', A', c', hp', hok', rfl, hs', _, _⟩ | ⟨hno, q', hq', rfl⟩, hb6⟩
          · have HF : Hid (SlAt bkE w6 A' l' ∧ l'.Perm (Lb.take (k + 1) ++ t.b) ∧ BksOK t.p l' ∧ Below w4.heap.size w4 w6) := ⟨hs', adm_step HPK.out HX.out hp', hok', below_next HBF.out hb6⟩
            clear hp' hok' hs' hb6 hy
            go_wp2
            go_roundw
            case rel => exact ⟨k + 1, l', A', c', by omega, by go_num, rfl, HF.out.1, HF.out.2.1, HF.out.2.2.1, HF.out.2.2.2⟩
            case measure => simp [intOf]; omega
          · have HNO : Hid (¬ AdmitD t q l) := fun h => hno (adm_bk h.1 HLQ.out HPK.out HX.out)
            have z1 : (q' == 0) = false := by simpa using hq'
            have z2 : (q' != 0) = true := by simpa using hq'
            have HBE : Hid (Below w.heap.size w w6) := below_next HB4.out (below_next HBF.out hb6)
            clear hno hb6 hq'
            go_wp2
            go_ret
            exact retErr_no (by decide) HNO.out HBE.out
        · have HPE : Hid (lk.Perm (Lb ++ t.b)) := by
            have h := HPK.out
            rwa [List.take_of_length_le (by omega)] at h
          have HBW : Hid (Below w.heap.size w wr) := below_next HB4.out HBK.out
          have HKW := Lib.hid (HK4.out.below HBK.out HK4.out.lt)
          have HSW := Lib.hid (HS5.out.below HBK.out)
          have t3 : wr.cell? ⟨g0, 3, none⟩ = some (.slice H t.h.length ch) := HKW.out.cell 3
          go_wp2
          clear t3
          obtain ⟨wq, rfl⟩ : ∃ wq, wq = wr := ⟨wr, rfl⟩
          go_loopw [14, 16, 17, 18, 76] (fun v _ _ _ i ww => ∃ (k : Nat) (hk : List Hld) (A9 : Option Addr) (c9 : Nat), k ≤ l.length ∧ i = .int .i64 k ∧ v = .slice A9 hk.length c9 ∧ SlAt hdE ww A9 hk ∧ hk.Perm (Lh.take k ++ t.h) ∧ HdsOK t.p hk ∧ Below wq.heap.size wq ww) (fun _ _ _ _ i _ => l.length - (intOf i).toNat)
          case atStart => exact ⟨0, t.h, H, ch, Nat.zero_le _, rfl, rfl, HT.out.h.below HBW.out, List.Perm.refl _, HOK.out.2.2, Below.refl _ _⟩
          case round =>
            obtain ⟨m, hk2, A8, c8, hkm, rfl, rfl, hsk2, hpk2, hok2, hbk2⟩ := hrel
            have HSK2 := Lib.hid hsk2
            have HPK2 := Lib.hid hpk2
            have HOK8 := Lib.hid hok2
            have HBK2 := Lib.hid hbk2
            clear hsk2 hpk2 hok2 hbk2
            by_cases hlt2 : m < l.length
            · obtain ⟨bb, ob, rfl, hr⟩ := (HSW.out.below HBK2.out).one (by omega)
              obtain ⟨x, hx⟩ : ∃ x, Lh[m]? = some x := ⟨_, List.getElem?_eq_getElem (by omega)⟩
              have hrg : wr.rangeAt bb (ob + m * 5) (hdE.f x) := hr m x hx
              have c0 : wr.cell? ⟨bb, ob + m * 5, none⟩ = some (.int .i64 x.node) := hrg 0 _ rfl
              have c1 : wr.cell? ⟨bb, ob + m * 5 + 1, none⟩ = some (.int .i64 x.frm) := hrg 1 _ rfl
              have c2 : wr.cell? ⟨bb, ob + m * 5 + 2, none⟩ = some (.int .i64 x.til) := hrg 2 _ rfl
              have c3 : wr.cell? ⟨bb, ob + m * 5 + 3, none⟩ = some (.int .i64 x.size) := hrg 3 _ rfl
              have c4 : wr.cell? ⟨bb, ob + m * 5 + 4, none⟩ = some (.int .i64 x.tick) := hrg 4 _ rfl
              have HX := Lib.hid hx
              have hm0 : (0 : Int) ≤ (m : Int) := by omega
              have hm1 : (m : Int) < (l.length : Int) := by omega
              have HXB : Hid (Bk (wr.alloc (.cells (hdA x) 99)) wr.heap.size 99 (hdA x)) := Bk.new _ _ _
              have HBX : Hid (Below wr.heap.size wr (wr.alloc (.cells (hdA x) 99))) := (Below.refl _ _).alloc (Nat.le_refl _) _
              have HKR := Lib.hid ((HKW.out.below HBK2.out HKW.out.lt).below HBX.out ((HKW.out.below HBK2.out HKW.out.lt).lt))
              have t0 : (wr.alloc (.cells (hdA x) 99)).cell? ⟨g0, 0, none⟩ = some (.slice Aq t.p.q.length cq) := HKR.out.cell 0
              have t1 : (wr.alloc (.cells (hdA x) 99)).cell? ⟨g0, 1, none⟩ = some (.slice Ac t.p.c.length cc) := HKR.out.cell 1
              have HBF : Hid (Below wq.heap.size wq (wr.alloc (.cells (hdA x) 99))) := below_next HBK2.out HBX.out
              have HAD := Lib.hid (hdAdd_any Aq cq Ac cc t.p A8 c8 hk2 x (wr.alloc (.cells (hdA x) 99)) (HT.out.p.below (below_next HBW.out HBF.out)) (HSK2.out.below HBX.out) ⟨HOK.out.1, HOK8.out⟩)
              clear hr hx hrg
              go_wp2_with fail
              refine HAD.out.mono ?_
              clear HAD c0 c1 c2 c3 c4 t0 t1
              rintro e w6 ⟨⟨hy, l', A', c', hp', hok', rfl, hs', _, _⟩ | ⟨hno, q', hq', rfl⟩, hb6⟩
              · have HF : Hid (SlAt hdE w6 A' l' ∧ l'.Perm (Lh.take (m + 1) ++ t.h) ∧ HdsOK t.p l' ∧ Below wq.heap.size wq w6) := ⟨hs', adm_step HPK2.out HX.out hp', hok', below_next HBF.out hb6⟩
                clear hp' hok' hs' hb6 hy
                go_wp2
                go_roundw
                case rel => exact ⟨m + 1, l', A', c', by omega, by go_num, rfl, HF.out.1, HF.out.2.1, HF.out.2.2.1, HF.out.2.2.2⟩
                case measure => simp [intOf]; omega
              · have HNO : Hid (¬ AdmitD t q l) := fun h => hno (adm_hd h HLP.out (holdsL_len HR.out) HPK2.out HX.out)
                have z1 : (q' == 0) = false := by simpa using hq'
                have z2 : (q' != 0) = true := by simpa using hq'
                have HBE : Hid (Below w.heap.size w w6) := below_next HBW.out (below_next HBF.out hb6)
                clear hno hb6 hq'
                go_wp2
                go_ret
                exact retErr_no (by decide) HNO.out HBE.out
            · have HYE : Hid (AdmitD t q l) := adm_end HOK.out HR.out HN.out HLQ.out HLP.out HPE.out HOK9.out (by
                have h := HPK2.out
                rwa [List.take_of_length_le (by have := HHL.out; omega)] at h) HOK8.out
              have HBE : Hid (Below w.heap.size w wr) := below_next HBW.out HBK2.out
              go_wp2
              go_ret
              exact retErr_yes HYE.out HBE.out
    · have HN : Hid (¬ AdmitD t q l) := fun h => hn h.1.2.2.1
      clear hhl2
      by_cases hn1 : t.b.length + l.length ≤ 512
      · have n1 : ¬ (512 : Int) < (t.b.length : Int) + (l.length : Int) := by omega
        have hl2 := HHL.out
        have n2 : (512 : Int) < (t.h.length : Int) + (l.length : Int) := by omega
        have n3 : (t.b.length : Int) + (l.length : Int) ≤ 512 := by omega
        clear hn hn1
        go_wp2
        go_ret
        exact retErr_no (by decide) HN.out HB3.out
      · have n1 : (512 : Int) < (t.b.length : Int) + (l.length : Int) := by omega
        clear hn hn1
        go_wp2
        go_ret
        exact retErr_no (by decide) HN.out HB3.out
  · have HN : Hid (¬ AdmitD t q l) := fun h => hz (hq2.2 h.1.2.1)
    have z1 : (q2 == 0) = false := by simpa using hz
    have z2 : (q2 != 0) = true := by simpa using hz
    have HZ := Lib.hid hz
    clear hq2 hz
    go_wp2
    go_ret
    exact retErr_no HZ.out HN.out HB2.out
end Go.Proofs.YtebkgbmijocdjaaGreat.Tp
