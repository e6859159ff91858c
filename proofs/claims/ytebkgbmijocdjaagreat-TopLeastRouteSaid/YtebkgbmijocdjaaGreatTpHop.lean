/- route.Hop of the program, walked: it returns some hop and some error number. Condition: the plan lies in memory. -/
import Derived.Test.YtebkgbmijocdjaaGreatTpRte
namespace Go.Proofs.YtebkgbmijocdjaaGreat.Tp
open Go Go.RowKit

/-- some hop and some error number -/
def RetHop (w : World) (e : Ending) (w' : World) : Prop := ∃ (h : Hop) (q : Int), e = .returned (.tuple #[.agg #[.int .i64 h.ct, .int .i64 h.beg, .int .i64 h.fin, .int .i64 h.arr], .int .i64 q]) ∧ Below w.heap.size w w'
theorem retHop_of {w w' : World} {a b c d q : Int} (h : Below w.heap.size w w') : RetHop w (.returned (.tuple #[.agg #[.int .i64 a, .int .i64 b, .int .i64 c, .int .i64 d], .int .i64 q])) w' := ⟨⟨a, b, c, d⟩, q, rfl, h⟩
theorem hop4 {w W : World} {n g : Nat} {t : TypeId} {v0 v1 v2 v3 : Value} (h : Bk W g t #[v0, v1, v2, v3]) (hb : Below n w W) (hg : n ≤ g) (a b c d : Value) :
    (((((W.setCell ⟨g, 0, none⟩ a).setCell ⟨g, 1, none⟩ b).setCell ⟨g, 2, none⟩ c).setCell ⟨g, 3, none⟩ d).cell? ⟨g, 0, none⟩ = some a ∧ ((((W.setCell ⟨g, 0, none⟩ a).setCell ⟨g, 1, none⟩ b).setCell ⟨g, 2, none⟩ c).setCell ⟨g, 3, none⟩ d).cell? ⟨g, 1, none⟩ = some b ∧ ((((W.setCell ⟨g, 0, none⟩ a).setCell ⟨g, 1, none⟩ b).setCell ⟨g, 2, none⟩ c).setCell ⟨g, 3, none⟩ d).cell? ⟨g, 2, none⟩ = some c ∧ ((((W.setCell ⟨g, 0, none⟩ a).setCell ⟨g, 1, none⟩ b).setCell ⟨g, 2, none⟩ c).setCell ⟨g, 3, none⟩ d).cell? ⟨g, 3, none⟩ = some d) ∧ Below n w ((((W.setCell ⟨g, 0, none⟩ a).setCell ⟨g, 1, none⟩ b).setCell ⟨g, 2, none⟩ c).setCell ⟨g, 3, none⟩ d) := by
  have HF : Bk ((((W.setCell ⟨g, 0, none⟩ a).setCell ⟨g, 1, none⟩ b).setCell ⟨g, 2, none⟩ c).setCell ⟨g, 3, none⟩ d) g t #[a, b, c, d] := (((h.put 0 a).put 1 b).put 2 c).put 3 d
  exact ⟨⟨HF.cell 0, HF.cell 1, HF.cell 2, HF.cell 3⟩, (((hb.setCell (p := ⟨g, 0, none⟩) hg _).setCell (p := ⟨g, 1, none⟩) hg _).setCell (p := ⟨g, 2, none⟩) hg _).setCell (p := ⟨g, 3, none⟩) hg _⟩
set_option maxHeartbeats 8000000 in
set_option maxRecDepth 100000 in
theorem routeHop_any (Aq : Option Addr) (cq : Nat) (Ac : Option Addr) (cc : Nat) (p : Pln) (q : Rq) (ct b : Int) (w : World) (hp : PlnAt w Aq cq Ac cc p) :
    Calls Tryz.prog 41 #[.agg #[.slice Aq p.q.length cq, .slice Ac p.c.length cc], .agg #[.int .i64 q.src, .int .i64 q.dst, .int .i64 q.size, .int .i64 q.ready, .int .i64 q.dead, .int .i64 q.prio, .bool q.cust], .int .i64 ct, .int .i64 b] w (RetHop w) := by
  have HP := Lib.hid hp
  have hm := hp.cm
  unfold maxLen at hm
  have HB0 : Hid (Below w.heap.size w (((w.alloc (.cells #[.slice Aq p.q.length cq, .slice Ac p.c.length cc] 25)).alloc (.cells #[.int .i64 q.src, .int .i64 q.dst, .int .i64 q.size, .int .i64 q.ready, .int .i64 q.dead, .int .i64 q.prio, .bool q.cust] 31)).alloc (.cells #[.int .i64 0, .int .i64 0, .int .i64 0, .int .i64 0] 41))) := (((Below.refl _ _).alloc (Nat.le_refl _) _).alloc (by simp) _).alloc (by simp; omega) _
  have HK0 : Hid (Bk (((w.alloc (.cells #[.slice Aq p.q.length cq, .slice Ac p.c.length cc] 25)).alloc (.cells #[.int .i64 q.src, .int .i64 q.dst, .int .i64 q.size, .int .i64 q.ready, .int .i64 q.dead, .int .i64 q.prio, .bool q.cust] 31)).alloc (.cells #[.int .i64 0, .int .i64 0, .int .i64 0, .int .i64 0] 41)) w.heap.size 25 #[.slice Aq p.q.length cq, .slice Ac p.c.length cc]) := ((Bk.new w _ _).alloc _).alloc _
  have HK1 : Hid (Bk (((w.alloc (.cells #[.slice Aq p.q.length cq, .slice Ac p.c.length cc] 25)).alloc (.cells #[.int .i64 q.src, .int .i64 q.dst, .int .i64 q.size, .int .i64 q.ready, .int .i64 q.dead, .int .i64 q.prio, .bool q.cust] 31)).alloc (.cells #[.int .i64 0, .int .i64 0, .int .i64 0, .int .i64 0] 41)) (w.heap.size + 1) 31 #[.int .i64 q.src, .int .i64 q.dst, .int .i64 q.size, .int .i64 q.ready, .int .i64 q.dead, .int .i64 q.prio, .bool q.cust]) := by
    have h := Bk.new (w.alloc (.cells #[.slice Aq p.q.length cq, .slice Ac p.c.length cc] 25)) 31 #[.int .i64 q.src, .int .i64 q.dst, .int .i64 q.size, .int .i64 q.ready, .int .i64 q.dead, .int .i64 q.prio, .bool q.cust]
    rw [World.size_alloc] at h
    exact h.alloc _
  have HK2 : Hid (Bk (((w.alloc (.cells #[.slice Aq p.q.length cq, .slice Ac p.c.length cc] 25)).alloc (.cells #[.int .i64 q.src, .int .i64 q.dst, .int .i64 q.size, .int .i64 q.ready, .int .i64 q.dead, .int .i64 q.prio, .bool q.cust] 31)).alloc (.cells #[.int .i64 0, .int .i64 0, .int .i64 0, .int .i64 0] 41)) (w.heap.size + 2) 41 #[.int .i64 0, .int .i64 0, .int .i64 0, .int .i64 0]) := by
    have h := Bk.new ((w.alloc (.cells #[.slice Aq p.q.length cq, .slice Ac p.c.length cc] 25)).alloc (.cells #[.int .i64 q.src, .int .i64 q.dst, .int .i64 q.size, .int .i64 q.ready, .int .i64 q.dead, .int .i64 q.prio, .bool q.cust] 31)) 41 #[.int .i64 0, .int .i64 0, .int .i64 0, .int .i64 0]
    rwa [World.size_alloc, World.size_alloc] at h
  have HRQ := Lib.hid (fun w hp => request_any Aq cq Ac cc p q w hp)
  clear hp
  go_enter Tryz.func41, Tryz.ntmps41
  go_wp2_with fail
  generalize ((w.alloc (.cells #[.slice Aq p.q.length cq, .slice Ac p.c.length cc] 25)).alloc (.cells #[.int .i64 q.src, .int .i64 q.dst, .int .i64 q.size, .int .i64 q.ready, .int .i64 q.dead, .int .i64 q.prio, .bool q.cust] 31)).alloc (.cells #[.int .i64 0, .int .i64 0, .int .i64 0, .int .i64 0] 41) = W at HB0 HK0 HK1 HK2 ⊢
  generalize hg0 : w.heap.size = g0 at HB0 HK0 HK1 HK2 ⊢
  refine (HRQ.out W (HP.out.below (by rw [hg0]; exact HB0.out))).mono ?_
  rintro e w1 ⟨q1, rfl, hq1, hb1⟩
  have HB1 : Hid (Below w.heap.size w w1) := below_next (by rw [hg0]; exact HB0.out) hb1
  have HM0 := Lib.hid (HK0.out.below hb1 HK0.out.lt)
  have HM1 := Lib.hid (HK1.out.below hb1 HK1.out.lt)
  have HM2 := Lib.hid (HK2.out.below hb1 HK2.out.lt)
  clear hb1 HB0 HK0 HK1 HK2 HRQ
  have r0 : w1.cell? ⟨g0 + 2, 0, none⟩ = some (.int .i64 0) := HM2.out.cell 0
  have r1 : w1.cell? ⟨g0 + 2, 1, none⟩ = some (.int .i64 0) := HM2.out.cell 1
  have r2 : w1.cell? ⟨g0 + 2, 2, none⟩ = some (.int .i64 0) := HM2.out.cell 2
  have r3 : w1.cell? ⟨g0 + 2, 3, none⟩ = some (.int .i64 0) := HM2.out.cell 3
  have f0 : w1.frozen? ⟨g0 + 2, 0, none⟩ = false := HM2.out.free 0
  have f1 : w1.frozen? ⟨g0 + 2, 1, none⟩ = false := HM2.out.free 1
  have f2 : w1.frozen? ⟨g0 + 2, 2, none⟩ = false := HM2.out.free 2
  have f3 : w1.frozen? ⟨g0 + 2, 3, none⟩ = false := HM2.out.free 3
  by_cases hz : q1 = 0
  · subst hz
    have HRQ : Hid (RqOK p q) := hq1.1 rfl
    have a1 : w1.cell? ⟨g0, 1, none⟩ = some (.slice Ac p.c.length cc) := HM0.out.cell 1
    clear hq1
    by_cases hneg : ct < 0
    · go_wp2
      obtain ⟨⟨p0, p1, p2, p3⟩, hbf⟩ := hop4 (g := g0 + 2) HM2.out HB1.out (by omega) (.int .i64 0) (.int .i64 0) (.int .i64 0) (.int .i64 0)
      generalize (((w1.setCell ⟨g0 + 2, 0, none⟩ (.int .i64 0)).setCell ⟨g0 + 2, 1, none⟩ (.int .i64 0)).setCell ⟨g0 + 2, 2, none⟩ (.int .i64 0)).setCell ⟨g0 + 2, 3, none⟩ (.int .i64 0) = WF at p0 p1 p2 p3 hbf ⊢
      exact bodyPost_ret (v := .tuple #[.agg #[.int .i64 0, .int .i64 0, .int .i64 0, .int .i64 0], .int .i64 2]) (by simp [results, Tryz.results41, go_sem, p0, p1, p2, p3]) rfl (retHop_of hbf)
    · obtain ⟨m, rfl⟩ : ∃ m : Nat, ct = (m : Int) := ⟨ct.toNat, by omega⟩
      clear hneg
      by_cases hge : m < p.c.length
      · obtain ⟨c, hc⟩ : ∃ c, p.c[m]? = some c := ⟨_, List.getElem?_eq_getElem hge⟩
        have HC := Lib.hid hc
        have hi0 : (0 : Int) ≤ (m : Int) := by omega
        have hi1 : (m : Int) < (p.c.length : Int) := by omega
        have hi2 : ¬ (p.c.length : Int) ≤ (m : Int) := by omega
        have HFT := Lib.hid (fun w => cfits_any c b q.size w)
        obtain ⟨bc, oc, rfl, hr⟩ := (HP.out.below HB1.out).c.one (by omega)
        have hrg := hr m c hc
        have c0 : w1.cell? ⟨bc, oc + m * 7, none⟩ = some (.int .i64 c.src) := hrg 0 _ rfl
        have c1 : w1.cell? ⟨bc, oc + m * 7 + 1, none⟩ = some (.int .i64 c.dst) := hrg 1 _ rfl
        have c2 : w1.cell? ⟨bc, oc + m * 7 + 2, none⟩ = some (.int .i64 c.beg) := hrg 2 _ rfl
        have c3 : w1.cell? ⟨bc, oc + m * 7 + 3, none⟩ = some (.int .i64 c.fin) := hrg 3 _ rfl
        have c4 : w1.cell? ⟨bc, oc + m * 7 + 4, none⟩ = some (.int .i64 c.rate) := hrg 4 _ rfl
        have c5 : w1.cell? ⟨bc, oc + m * 7 + 5, none⟩ = some (.int .i64 c.rng) := hrg 5 _ rfl
        have c6 : w1.cell? ⟨bc, oc + m * 7 + 6, none⟩ = some (.int .i64 c.loss) := hrg 6 _ rfl
        have HRG := Lib.hid hrg
        have b2 : w1.cell? ⟨g0 + 1, 2, none⟩ = some (.int .i64 q.size) := HM1.out.cell 2
        have HD : Hid (∀ w', Below w1.heap.size w1 w' → (w'.cell? ⟨g0, 1, none⟩ = some (.slice (some ⟨bc, oc, none⟩) p.c.length cc) ∧ w'.cell? ⟨g0 + 1, 2, none⟩ = some (.int .i64 q.size)) ∧ (w'.cell? ⟨bc, oc + m * 7, none⟩ = some (.int .i64 c.src) ∧ w'.cell? ⟨bc, oc + m * 7 + 1, none⟩ = some (.int .i64 c.dst) ∧ w'.cell? ⟨bc, oc + m * 7 + 2, none⟩ = some (.int .i64 c.beg) ∧ w'.cell? ⟨bc, oc + m * 7 + 3, none⟩ = some (.int .i64 c.fin) ∧ w'.cell? ⟨bc, oc + m * 7 + 4, none⟩ = some (.int .i64 c.rate) ∧ w'.cell? ⟨bc, oc + m * 7 + 5, none⟩ = some (.int .i64 c.rng) ∧ w'.cell? ⟨bc, oc + m * 7 + 6, none⟩ = some (.int .i64 c.loss))) := fun w' hb => by
          have h0 := HM0.out.below hb HM0.out.lt
          have h1 := HM1.out.below hb HM1.out.lt
          have h2 := range_below HRG.out hb
          exact ⟨⟨h0.cell 1, h1.cell 2⟩, ⟨h2 0 _ rfl, h2 1 _ rfl, h2 2 _ rfl, h2 3 _ rfl, h2 4 _ rfl, h2 5 _ rfl, h2 6 _ rfl⟩⟩
        clear hr hrg hc hge
        go_wp2_with fail
        go_region_held3 (fun w' => ((w'.cell? ⟨g0, 1, none⟩ = some (.slice (some ⟨bc, oc, none⟩) p.c.length cc) ∧ w'.cell? ⟨g0 + 1, 2, none⟩ = some (.int .i64 q.size)) ∧ (w'.cell? ⟨bc, oc + m * 7, none⟩ = some (.int .i64 c.src) ∧ w'.cell? ⟨bc, oc + m * 7 + 1, none⟩ = some (.int .i64 c.dst) ∧ w'.cell? ⟨bc, oc + m * 7 + 2, none⟩ = some (.int .i64 c.beg) ∧ w'.cell? ⟨bc, oc + m * 7 + 3, none⟩ = some (.int .i64 c.fin) ∧ w'.cell? ⟨bc, oc + m * 7 + 4, none⟩ = some (.int .i64 c.rate) ∧ w'.cell? ⟨bc, oc + m * 7 + 5, none⟩ = some (.int .i64 c.rng) ∧ w'.cell? ⟨bc, oc + m * 7 + 6, none⟩ = some (.int .i64 c.loss))) ∧ Hid (Below w1.heap.size w1 w')) (((try go_split_ands); first | exact held_start HD (Below.refl _ _).drew | exact held_step HD (by assumption) hb6))
          ((go_at_call 101
            refine (HFT.out _).mono ?_
            rintro e w6 ⟨v, rfl, hv, hb6⟩))
        have HBF : Hid (Below w1.heap.size w1 w6) := by (try go_split_ands); assumption
        have HB6 := Lib.hid (below_next HB1.out HBF.out)
        have HH := Lib.hid (HM2.out.below HBF.out HM2.out.lt)
        have HG0 := Lib.hid (HM0.out.below HBF.out HM0.out.lt)
        have HG1 := Lib.hid (HM1.out.below HBF.out HM1.out.lt)
        clear r0 r1 r2 r3 f0 f1 f2 f3 a1 b2 c0 c1 c2 c3 c4 c5 c6 HD
        have r0 : w6.cell? ⟨g0 + 2, 0, none⟩ = some (.int .i64 0) := HH.out.cell 0
        have r1 : w6.cell? ⟨g0 + 2, 1, none⟩ = some (.int .i64 0) := HH.out.cell 1
        have r2 : w6.cell? ⟨g0 + 2, 2, none⟩ = some (.int .i64 0) := HH.out.cell 2
        have r3 : w6.cell? ⟨g0 + 2, 3, none⟩ = some (.int .i64 0) := HH.out.cell 3
        have f0 : w6.frozen? ⟨g0 + 2, 0, none⟩ = false := HH.out.free 0
        have f1 : w6.frozen? ⟨g0 + 2, 1, none⟩ = false := HH.out.free 1
        have f2 : w6.frozen? ⟨g0 + 2, 2, none⟩ = false := HH.out.free 2
        have f3 : w6.frozen? ⟨g0 + 2, 3, none⟩ = false := HH.out.free 3
        have HV := Lib.hid hv
        clear hv
        cases v with
        | false =>
          go_wp2
          obtain ⟨⟨p0, p1, p2, p3⟩, hbf⟩ := hop4 (g := g0 + 2) HH.out HB6.out (by omega) (.int .i64 0) (.int .i64 0) (.int .i64 0) (.int .i64 0)
          generalize (((w6.setCell ⟨g0 + 2, 0, none⟩ (.int .i64 0)).setCell ⟨g0 + 2, 1, none⟩ (.int .i64 0)).setCell ⟨g0 + 2, 2, none⟩ (.int .i64 0)).setCell ⟨g0 + 2, 3, none⟩ (.int .i64 0) = WF at p0 p1 p2 p3 hbf ⊢
          exact bodyPost_ret (v := .tuple #[.agg #[.int .i64 0, .int .i64 0, .int .i64 0, .int .i64 0], .int .i64 16]) (by simp [results, Tryz.results41, go_sem, p0, p1, p2, p3]) rfl (retHop_of hbf)
        | true =>
          have HIN := Lib.hid (HV.out.1 rfl).2
          have a0 : w6.cell? ⟨g0, 0, none⟩ = some (.slice Aq p.q.length cq) := HG0.out.cell 0
          have a1 : w6.cell? ⟨g0, 1, none⟩ = some (.slice (some ⟨bc, oc, none⟩) p.c.length cc) := HG0.out.cell 1
          have b0 : w6.cell? ⟨g0 + 1, 0, none⟩ = some (.int .i64 q.src) := HG1.out.cell 0
          have b1 : w6.cell? ⟨g0 + 1, 1, none⟩ = some (.int .i64 q.dst) := HG1.out.cell 1
          have b2 : w6.cell? ⟨g0 + 1, 2, none⟩ = some (.int .i64 q.size) := HG1.out.cell 2
          have b3 : w6.cell? ⟨g0 + 1, 3, none⟩ = some (.int .i64 q.ready) := HG1.out.cell 3
          have b4 : w6.cell? ⟨g0 + 1, 4, none⟩ = some (.int .i64 q.dead) := HG1.out.cell 4
          have b5 : w6.cell? ⟨g0 + 1, 5, none⟩ = some (.int .i64 q.prio) := HG1.out.cell 5
          have b6 : w6.cell? ⟨g0 + 1, 6, none⟩ = some (.bool q.cust) := HG1.out.cell 6
          go_wp2_with fail
          refine (hop_any Aq cq (some ⟨bc, oc, none⟩) cc p q m c b w6 (HP.out.below HB6.out) HRQ.out HC.out HIN.out).mono ?_
          rintro e w7 ⟨rfl, hb7⟩
          have HB7 := Lib.hid (below_next HB6.out hb7)
          have HH7 := Lib.hid (HH.out.below hb7 HH.out.lt)
          clear hb7 a0 a1 b0 b1 b2 b3 b4 b5 b6 r0 r1 r2 r3 f0 f1 f2 f3
          have r0 : w7.cell? ⟨g0 + 2, 0, none⟩ = some (.int .i64 0) := HH7.out.cell 0
          have r1 : w7.cell? ⟨g0 + 2, 1, none⟩ = some (.int .i64 0) := HH7.out.cell 1
          have r2 : w7.cell? ⟨g0 + 2, 2, none⟩ = some (.int .i64 0) := HH7.out.cell 2
          have r3 : w7.cell? ⟨g0 + 2, 3, none⟩ = some (.int .i64 0) := HH7.out.cell 3
          have f0 : w7.frozen? ⟨g0 + 2, 0, none⟩ = false := HH7.out.free 0
          have f1 : w7.frozen? ⟨g0 + 2, 1, none⟩ = false := HH7.out.free 1
          have f2 : w7.frozen? ⟨g0 + 2, 2, none⟩ = false := HH7.out.free 2
          have f3 : w7.frozen? ⟨g0 + 2, 3, none⟩ = false := HH7.out.free 3
          go_wp2
          obtain ⟨⟨p0, p1, p2, p3⟩, hbf⟩ := hop4 (g := g0 + 2) HH7.out HB7.out (by omega) (.int .i64 (m : Int)) (.int .i64 b) (.int .i64 (b + dur c q.size)) (.int .i64 (b + dur c q.size + c.rng))
          generalize (((w7.setCell ⟨g0 + 2, 0, none⟩ (.int .i64 (m : Int))).setCell ⟨g0 + 2, 1, none⟩ (.int .i64 b)).setCell ⟨g0 + 2, 2, none⟩ (.int .i64 (b + dur c q.size))).setCell ⟨g0 + 2, 3, none⟩ (.int .i64 (b + dur c q.size + c.rng)) = WF at p0 p1 p2 p3 hbf ⊢
          exact bodyPost_ret (v := .tuple #[.agg #[.int .i64 (m : Int), .int .i64 b, .int .i64 (b + dur c q.size), .int .i64 (b + dur c q.size + c.rng)], .int .i64 0]) (by simp [results, Tryz.results41, go_sem, p0, p1, p2, p3]) rfl (retHop_of hbf)
      · have hi1 : (p.c.length : Int) ≤ (m : Int) := by omega
        have hi2 : ¬ (m : Int) < (p.c.length : Int) := by omega
        clear hge
        go_wp2
        obtain ⟨⟨p0, p1, p2, p3⟩, hbf⟩ := hop4 (g := g0 + 2) HM2.out HB1.out (by omega) (.int .i64 0) (.int .i64 0) (.int .i64 0) (.int .i64 0)
        generalize (((w1.setCell ⟨g0 + 2, 0, none⟩ (.int .i64 0)).setCell ⟨g0 + 2, 1, none⟩ (.int .i64 0)).setCell ⟨g0 + 2, 2, none⟩ (.int .i64 0)).setCell ⟨g0 + 2, 3, none⟩ (.int .i64 0) = WF at p0 p1 p2 p3 hbf ⊢
        exact bodyPost_ret (v := .tuple #[.agg #[.int .i64 0, .int .i64 0, .int .i64 0, .int .i64 0], .int .i64 2]) (by simp [results, Tryz.results41, go_sem, p0, p1, p2, p3]) rfl (retHop_of hbf)
  · have z1 : (q1 == 0) = false := by simpa using hz
    have z2 : (q1 != 0) = true := by simpa using hz
    clear hq1 hz
    go_wp2
    obtain ⟨⟨p0, p1, p2, p3⟩, hbf⟩ := hop4 (g := g0 + 2) HM2.out HB1.out (by omega) (.int .i64 0) (.int .i64 0) (.int .i64 0) (.int .i64 0)
    generalize (((w1.setCell ⟨g0 + 2, 0, none⟩ (.int .i64 0)).setCell ⟨g0 + 2, 1, none⟩ (.int .i64 0)).setCell ⟨g0 + 2, 2, none⟩ (.int .i64 0)).setCell ⟨g0 + 2, 3, none⟩ (.int .i64 0) = WF at p0 p1 p2 p3 hbf ⊢
    exact bodyPost_ret (v := .tuple #[.agg #[.int .i64 0, .int .i64 0, .int .i64 0, .int .i64 0], .int .i64 1]) (by simp [results, Tryz.results41, go_sem, p0, p1, p2, p3]) rfl (retHop_of hbf)
end Go.Proofs.YtebkgbmijocdjaaGreat.Tp
