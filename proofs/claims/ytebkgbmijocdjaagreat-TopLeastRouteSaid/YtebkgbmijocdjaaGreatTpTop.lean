/- mailboattop.top30Fine and the law TopLeastRoute, walked. Condition: the tables lie in memory. -/
import Derived.BigQuiet
import Derived.Test.YtebkgbmijocdjaaGreatTpAwk
import Derived.Test.YtebkgbmijocdjaaGreatTpRt3
namespace Go.Proofs.YtebkgbmijocdjaaGreat.Tp
open Go Go.RowKit

/-- the tables and the request are valid, and small -/
def SmallOK (t : Tbl) (q : Rq) : Prop := TblOK t ∧ RqOK t.p q ∧ t.p.q.length ≤ 4 ∧ t.p.c.length ≤ 6 ∧ t.b.length ≤ 6 ∧ t.h.length ≤ 6
def FinePost (t : Tbl) (q : Rq) (w : World) (e : Ending) (w' : World) : Prop := ∃ b : Bool, e = .returned (.bool b) ∧ (b = true → SmallOK t q) ∧ Below w.heap.size w w'
set_option maxHeartbeats 8000000 in
set_option maxRecDepth 100000 in
theorem fine_any (Aq : Option Addr) (cq : Nat) (Ac : Option Addr) (cc : Nat) (B : Option Addr) (cb : Nat) (H : Option Addr) (ch : Nat) (t : Tbl) (q : Rq) (w : World) (ht : TblAt w Aq cq Ac cc B cb H ch t) :
    Calls Tryz.prog 7 #[.agg #[.slice Aq t.p.q.length cq, .slice Ac t.p.c.length cc, .slice B t.b.length cb, .slice H t.h.length ch], .agg #[.int .i64 q.src, .int .i64 q.dst, .int .i64 q.size, .int .i64 q.ready, .int .i64 q.dead, .int .i64 q.prio, .bool q.cust]] w (FinePost t q w) := by
  have HT := Lib.hid ht
  have HB0 : Hid (Below w.heap.size w ((w.alloc (.cells (tbA Aq cq Ac cc B cb H ch t) 29)).alloc (.cells (rqL q).toArray 31))) := ((Below.refl _ _).alloc (Nat.le_refl _) _).alloc (by simp) _
  have HK0 : Hid (Bk ((w.alloc (.cells (tbA Aq cq Ac cc B cb H ch t) 29)).alloc (.cells (rqL q).toArray 31)) w.heap.size 29 (tbA Aq cq Ac cc B cb H ch t)) := (Bk.new _ _ _).alloc _
  have HK1 : Hid (Bk ((w.alloc (.cells (tbA Aq cq Ac cc B cb H ch t) 29)).alloc (.cells (rqL q).toArray 31)) (w.heap.size + 1) 31 (rqL q).toArray) := by
    have h := Bk.new (w.alloc (.cells (tbA Aq cq Ac cc B cb H ch t) 29)) 31 (rqL q).toArray
    rwa [World.size_alloc] at h
  have a0 : ((w.alloc (.cells (tbA Aq cq Ac cc B cb H ch t) 29)).alloc (.cells (rqL q).toArray 31)).cell? ⟨w.heap.size, 0, none⟩ = some (.slice Aq t.p.q.length cq) := HK0.out.cell 0
  have a1 : ((w.alloc (.cells (tbA Aq cq Ac cc B cb H ch t) 29)).alloc (.cells (rqL q).toArray 31)).cell? ⟨w.heap.size, 1, none⟩ = some (.slice Ac t.p.c.length cc) := HK0.out.cell 1
  have a2 : ((w.alloc (.cells (tbA Aq cq Ac cc B cb H ch t) 29)).alloc (.cells (rqL q).toArray 31)).cell? ⟨w.heap.size, 2, none⟩ = some (.slice B t.b.length cb) := HK0.out.cell 2
  have a3 : ((w.alloc (.cells (tbA Aq cq Ac cc B cb H ch t) 29)).alloc (.cells (rqL q).toArray 31)).cell? ⟨w.heap.size, 3, none⟩ = some (.slice H t.h.length ch) := HK0.out.cell 3
  have b0 : ((w.alloc (.cells (tbA Aq cq Ac cc B cb H ch t) 29)).alloc (.cells (rqL q).toArray 31)).cell? ⟨w.heap.size + 1, 0, none⟩ = some (.int .i64 q.src) := HK1.out.cell 0
  have b1 : ((w.alloc (.cells (tbA Aq cq Ac cc B cb H ch t) 29)).alloc (.cells (rqL q).toArray 31)).cell? ⟨w.heap.size + 1, 1, none⟩ = some (.int .i64 q.dst) := HK1.out.cell 1
  have b2 : ((w.alloc (.cells (tbA Aq cq Ac cc B cb H ch t) 29)).alloc (.cells (rqL q).toArray 31)).cell? ⟨w.heap.size + 1, 2, none⟩ = some (.int .i64 q.size) := HK1.out.cell 2
  have b3 : ((w.alloc (.cells (tbA Aq cq Ac cc B cb H ch t) 29)).alloc (.cells (rqL q).toArray 31)).cell? ⟨w.heap.size + 1, 3, none⟩ = some (.int .i64 q.ready) := HK1.out.cell 3
  have b4 : ((w.alloc (.cells (tbA Aq cq Ac cc B cb H ch t) 29)).alloc (.cells (rqL q).toArray 31)).cell? ⟨w.heap.size + 1, 4, none⟩ = some (.int .i64 q.dead) := HK1.out.cell 4
  have b5 : ((w.alloc (.cells (tbA Aq cq Ac cc B cb H ch t) 29)).alloc (.cells (rqL q).toArray 31)).cell? ⟨w.heap.size + 1, 5, none⟩ = some (.int .i64 q.prio) := HK1.out.cell 5
  have b6 : ((w.alloc (.cells (tbA Aq cq Ac cc B cb H ch t) 29)).alloc (.cells (rqL q).toArray 31)).cell? ⟨w.heap.size + 1, 6, none⟩ = some (.bool q.cust) := HK1.out.cell 6
  have HTB := Lib.hid (fun w' hb => ref29Tables_any Aq cq Ac cc B cb H ch t w' (ht.below (w' := w') hb))
  have HRQ := Lib.hid (fun w' hb => ref29Request_any Aq cq Ac cc t.p q w' (ht.below (w' := w') hb).p)
  have HNO : Hid (FinePost t q w (.returned (.bool false)) ((w.alloc (.cells (tbA Aq cq Ac cc B cb H ch t) 29)).alloc (.cells (rqL q).toArray 31))) := ⟨false, rfl, (fun h => by cases h), HB0.out⟩
  clear ht
  go_enter Tryz.func7, Tryz.ntmps7
  by_cases h1 : (t.p.q.length : Int) ≤ 4
  · have d1 : decide ((t.p.q.length : Int) ≤ 4) = true := by simpa using h1
    by_cases h2 : (t.p.c.length : Int) ≤ 6
    · have d2 : decide ((t.p.c.length : Int) ≤ 6) = true := by simpa using h2
      by_cases h3 : (t.b.length : Int) ≤ 6
      · have d3 : decide ((t.b.length : Int) ≤ 6) = true := by simpa using h3
        by_cases h4 : (t.h.length : Int) ≤ 6
        · have d4 : decide ((t.h.length : Int) ≤ 6) = true := by simpa using h4
          have HSZ : Hid (t.p.q.length ≤ 4 ∧ t.p.c.length ≤ 6 ∧ t.b.length ≤ 6 ∧ t.h.length ≤ 6) := by refine ⟨?_, ?_, ?_, ?_⟩ <;> omega
          clear HNO
          go_wp2_with fail
          clear a0 a1 a2 a3 b0 b1 b2 b3 b4 b5 b6 d1 d2 d3 d4 h1 h2 h3 h4
          generalize ((w.alloc (.cells (tbA Aq cq Ac cc B cb H ch t) 29)).alloc (.cells (rqL q).toArray 31)) = W at HB0 HK0 HK1 ⊢
          generalize hn0 : w.heap.size = n0 at HB0 HK0 HK1 ⊢
          refine (HTB.out W (by rw [hn0]; exact HB0.out)).mono ?_
          rintro e w1 ⟨e1, rfl, he1, hb1⟩
          have HM0 := Lib.hid (HK0.out.below hb1 HK0.out.lt)
          have HM1 := Lib.hid (HK1.out.below hb1 HK1.out.lt)
          have HB1 : Hid (Below n0 w w1) := HB0.out.trans (hb1.mono (by have := HK1.out.lt; omega))
          clear hb1 HB0 HK0 HK1
          by_cases hz : e1 = 0
          · have HTO := Lib.hid (he1 hz)
            subst hz
            clear he1
            have a0 : w1.cell? ⟨n0, 0, none⟩ = some (.slice Aq t.p.q.length cq) := HM0.out.cell 0
            have a1 : w1.cell? ⟨n0, 1, none⟩ = some (.slice Ac t.p.c.length cc) := HM0.out.cell 1
            have a2 : w1.cell? ⟨n0, 2, none⟩ = some (.slice B t.b.length cb) := HM0.out.cell 2
            have a3 : w1.cell? ⟨n0, 3, none⟩ = some (.slice H t.h.length ch) := HM0.out.cell 3
            have b0 : w1.cell? ⟨n0 + 1, 0, none⟩ = some (.int .i64 q.src) := HM1.out.cell 0
            have b1 : w1.cell? ⟨n0 + 1, 1, none⟩ = some (.int .i64 q.dst) := HM1.out.cell 1
            have b2 : w1.cell? ⟨n0 + 1, 2, none⟩ = some (.int .i64 q.size) := HM1.out.cell 2
            have b3 : w1.cell? ⟨n0 + 1, 3, none⟩ = some (.int .i64 q.ready) := HM1.out.cell 3
            have b4 : w1.cell? ⟨n0 + 1, 4, none⟩ = some (.int .i64 q.dead) := HM1.out.cell 4
            have b5 : w1.cell? ⟨n0 + 1, 5, none⟩ = some (.int .i64 q.prio) := HM1.out.cell 5
            have b6 : w1.cell? ⟨n0 + 1, 6, none⟩ = some (.bool q.cust) := HM1.out.cell 6
            go_wp2_with fail
            clear a0 a1 a2 a3 b0 b1 b2 b3 b4 b5 b6
            refine (HRQ.out w1 (by rw [hn0]; exact HB1.out)).mono ?_
            rintro e w2 ⟨e2, rfl, he2, hb2⟩
            have HB2 : Hid (Below n0 w w2) := HB1.out.trans (hb2.mono (by have := HM1.out.lt; omega))
            clear hb2
            by_cases hz2 : e2 = 0
            · have HQO := Lib.hid (he2 hz2)
              subst hz2
              clear he2
              go_wp2
              go_ret
              exact ⟨_, rfl, fun _ => ⟨HTO.out, HQO.out, HSZ.out⟩, by rw [hn0]; exact HB2.out⟩
            · have d5 : (e2 == 0) = false := by simpa using hz2
              clear he2
              go_wp2
              go_ret
              exact ⟨_, rfl, fun h => absurd h (by simp), by rw [hn0]; exact HB2.out⟩
          · have d5 : (e1 == 0) = false := by simpa using hz
            clear he1
            go_wp2
            go_ret
            exact ⟨_, rfl, fun h => absurd h (by simp), by rw [hn0]; exact HB1.out⟩
        · have d4 : decide ((t.h.length : Int) ≤ 6) = false := by simpa using h4
          go_wp2
          go_ret
          exact HNO.out
      · have d3 : decide ((t.b.length : Int) ≤ 6) = false := by simpa using h3
        go_wp2
        go_ret
        exact HNO.out
    · have d2 : decide ((t.p.c.length : Int) ≤ 6) = false := by simpa using h2
      go_wp2
      go_ret
      exact HNO.out
  · have d1 : decide ((t.p.q.length : Int) ≤ 4) = false := by simpa using h1
    go_wp2
    go_ret
    exact HNO.out
/-! The plain law. -/
theorem best_none {t : Tbl} {q : Rq} (hq : RqOK t.p q) (h : bestF t q = none) {m : List Hop} (hA : AdmitD t q m) : False := by
  have hok := hA.1.1
  obtain ⟨z, hz, y, k, hm, hn, _⟩ := admit_late hq (labs_of (grf_ok hok hq)) hA.1
  have h1 := minO_none.1 h
  have h2 : y.time ∈ arrT (grf t q) (labsF (grf t q)) := mem_arrT.2 ⟨z, hz, y, k, hm, hn, rfl⟩
  rw [h1] at h2
  simp at h2
theorem best_least {t : Tbl} {q : Rq} {n : Int} (hq : RqOK t.p q) (h : bestF t q = some n) {m : List Hop} (hA : AdmitD t q m) : n ≤ lastArr m := by
  have hok := hA.1.1
  obtain ⟨z, hz, y, k, hm, hn, hl⟩ := admit_late hq (labs_of (grf_ok hok hq)) hA.1
  have h1 := (minO_least h).2 y.time (mem_arrT.2 ⟨z, hz, y, k, hm, hn, rfl⟩)
  omega
theorem EarOK.good {t : Tbl} {q : Rq} {n : Int} {m : List Hop} (hs : SmallOK t q) (h : EarOK t q n m) : AdmitD t q m ∧ m.length ≤ 10 ∧ ∃ k x, m.length = k + 1 ∧ m[k]? = some x ∧ x.arr = n := by
  have hlen := h.len hs.1 hs.2.1
  have hk := keyN_le hs.1 q
  have h10 : m.length ≤ 10 := by have := hs.2.2; omega
  obtain ⟨L, x, xs, hp, hl, hx1, hx2⟩ := h
  have hg := grf_ok hs.1 hs.2.1
  have hL := (labs_of hg).perm hp
  have hap : ∀ a ∈ L, ∀ b ∈ L, same a b = true → a = b := fun a ha b hb hab => labs_apart hg a (hp.mem_iff.1 ha) b (hp.mem_iff.1 hb) hab
  obtain ⟨he, hne⟩ := hl.end_ hg
  have hs2 := hs.2.2
  refine ⟨path_admitD hs.1 hs.2.1 hL hap hl hx1 hx2 (by omega) (by omega), h10, ?_⟩
  have hls : ∀ (l : List Hop), l ≠ [] → ∃ k y, l.length = k + 1 ∧ l[k]? = some y ∧ y.arr = lastArr l := by
    intro l
    induction l with
    | nil => intro h; exact absurd rfl h
    | cons a l ih =>
      intro _
      cases l with
      | nil => exact ⟨0, a, rfl, rfl, rfl⟩
      | cons b l =>
        obtain ⟨k, y, h1, h2, h3⟩ := ih (by simp)
        exact ⟨k + 1, y, by rw [List.length_cons, h1], by simpa using h2, h3⟩
  obtain ⟨k, y, h1, h2, h3⟩ := hls m hne
  exact ⟨k, y, h1, h2, by rw [h3, he]⟩
set_option maxHeartbeats 16000000 in
set_option maxRecDepth 100000 in
theorem top_any (Aq : Option Addr) (cq : Nat) (Ac : Option Addr) (cc : Nat) (B : Option Addr) (cb : Nat) (H : Option Addr) (ch : Nat) (t : Tbl) (q : Rq) (w : World) (ht : TblAt w Aq cq Ac cc B cb H ch t) :
    Calls Tryz.prog 3 #[.agg #[.slice Aq t.p.q.length cq, .slice Ac t.p.c.length cc, .slice B t.b.length cb, .slice H t.h.length ch], .agg #[.int .i64 q.src, .int .i64 q.dst, .int .i64 q.size, .int .i64 q.ready, .int .i64 q.dead, .int .i64 q.prio, .bool q.cust]] w fun e w' => e = .returned (.bool true) ∧ Below w.heap.size w w' := by
  have HT := Lib.hid ht
  have HB0 : Hid (Below w.heap.size w ((w.alloc (.cells (tbA Aq cq Ac cc B cb H ch t) 29)).alloc (.cells (rqL q).toArray 31))) := ((Below.refl _ _).alloc (Nat.le_refl _) _).alloc (by simp) _
  have HK0 : Hid (Bk ((w.alloc (.cells (tbA Aq cq Ac cc B cb H ch t) 29)).alloc (.cells (rqL q).toArray 31)) w.heap.size 29 (tbA Aq cq Ac cc B cb H ch t)) := (Bk.new _ _ _).alloc _
  have HK1 : Hid (Bk ((w.alloc (.cells (tbA Aq cq Ac cc B cb H ch t) 29)).alloc (.cells (rqL q).toArray 31)) (w.heap.size + 1) 31 (rqL q).toArray) := by
    have h := Bk.new (w.alloc (.cells (tbA Aq cq Ac cc B cb H ch t) 29)) 31 (rqL q).toArray
    rwa [World.size_alloc] at h
  have a0 : ((w.alloc (.cells (tbA Aq cq Ac cc B cb H ch t) 29)).alloc (.cells (rqL q).toArray 31)).cell? ⟨w.heap.size, 0, none⟩ = some (.slice Aq t.p.q.length cq) := HK0.out.cell 0
  have a1 : ((w.alloc (.cells (tbA Aq cq Ac cc B cb H ch t) 29)).alloc (.cells (rqL q).toArray 31)).cell? ⟨w.heap.size, 1, none⟩ = some (.slice Ac t.p.c.length cc) := HK0.out.cell 1
  have a2 : ((w.alloc (.cells (tbA Aq cq Ac cc B cb H ch t) 29)).alloc (.cells (rqL q).toArray 31)).cell? ⟨w.heap.size, 2, none⟩ = some (.slice B t.b.length cb) := HK0.out.cell 2
  have a3 : ((w.alloc (.cells (tbA Aq cq Ac cc B cb H ch t) 29)).alloc (.cells (rqL q).toArray 31)).cell? ⟨w.heap.size, 3, none⟩ = some (.slice H t.h.length ch) := HK0.out.cell 3
  have b0 : ((w.alloc (.cells (tbA Aq cq Ac cc B cb H ch t) 29)).alloc (.cells (rqL q).toArray 31)).cell? ⟨w.heap.size + 1, 0, none⟩ = some (.int .i64 q.src) := HK1.out.cell 0
  have b1 : ((w.alloc (.cells (tbA Aq cq Ac cc B cb H ch t) 29)).alloc (.cells (rqL q).toArray 31)).cell? ⟨w.heap.size + 1, 1, none⟩ = some (.int .i64 q.dst) := HK1.out.cell 1
  have b2 : ((w.alloc (.cells (tbA Aq cq Ac cc B cb H ch t) 29)).alloc (.cells (rqL q).toArray 31)).cell? ⟨w.heap.size + 1, 2, none⟩ = some (.int .i64 q.size) := HK1.out.cell 2
  have b3 : ((w.alloc (.cells (tbA Aq cq Ac cc B cb H ch t) 29)).alloc (.cells (rqL q).toArray 31)).cell? ⟨w.heap.size + 1, 3, none⟩ = some (.int .i64 q.ready) := HK1.out.cell 3
  have b4 : ((w.alloc (.cells (tbA Aq cq Ac cc B cb H ch t) 29)).alloc (.cells (rqL q).toArray 31)).cell? ⟨w.heap.size + 1, 4, none⟩ = some (.int .i64 q.dead) := HK1.out.cell 4
  have b5 : ((w.alloc (.cells (tbA Aq cq Ac cc B cb H ch t) 29)).alloc (.cells (rqL q).toArray 31)).cell? ⟨w.heap.size + 1, 5, none⟩ = some (.int .i64 q.prio) := HK1.out.cell 5
  have b6 : ((w.alloc (.cells (tbA Aq cq Ac cc B cb H ch t) 29)).alloc (.cells (rqL q).toArray 31)).cell? ⟨w.heap.size + 1, 6, none⟩ = some (.bool q.cust) := HK1.out.cell 6
  have HFN := Lib.hid (fun w' hb => fine_any Aq cq Ac cc B cb H ch t q w' (ht.below (w' := w') hb))
  have hmf := fun (fn : Fn) (first cap : Array Value) (w : World) => (rfl : (Instr.makeFunc fn first cap).run Tryz.prog w = .ok (.func fn first cap) w)
  clear ht
  go_enter Tryz.func3, Tryz.ntmps3
  go_wp2_with fail
  clear a0 a1 a2 a3 b0 b1 b2 b3 b4 b5 b6
  generalize ((w.alloc (.cells (tbA Aq cq Ac cc B cb H ch t) 29)).alloc (.cells (rqL q).toArray 31)) = W at HB0 HK0 HK1 ⊢
  generalize hn0 : w.heap.size = n0 at HB0 HK0 HK1 ⊢
  refine (HFN.out W (by rw [hn0]; exact HB0.out)).mono ?_
  rintro e w1 ⟨bf, rfl, hbf, hb1⟩
  have HM0 := Lib.hid (HK0.out.below hb1 HK0.out.lt)
  have HM1 := Lib.hid (HK1.out.below hb1 HK1.out.lt)
  have HB1 : Hid (Below n0 w w1) := HB0.out.trans (hb1.mono (by have := HK1.out.lt; omega))
  have HBF := Lib.hid hbf
  clear hb1 HB0 HK0 HK1 HFN hbf
  cases bf with
  | false =>
    go_wp2_with fail
    refine (awake_any w1).mono ?_
    rintro e w2 ⟨rfl, hb2⟩
    have HB2 : Hid (Below n0 w w2) := HB1.out.trans (hb2.mono (by have := HM1.out.lt; omega))
    clear hb2
    go_wp2
    go_ret
    exact ⟨rfl, by rw [hn0]; exact HB2.out⟩
  | true =>
    have HSM := Lib.hid (HBF.out rfl)
    have HAR := Lib.hid (fun w' hb => arrivalTop_any Aq cq Ac cc B cb H ch t q w' (HT.out.below (w' := w') hb) HSM.out.1 HSM.out.2.1)
    have HEA := Lib.hid (fun w' hb => earliest_any Aq cq Ac cc B cb H ch t q w' (HT.out.below (w' := w') hb) HSM.out.1 HSM.out.2.1)
    have a0 : w1.cell? ⟨n0, 0, none⟩ = some (.slice Aq t.p.q.length cq) := HM0.out.cell 0
    have a1 : w1.cell? ⟨n0, 1, none⟩ = some (.slice Ac t.p.c.length cc) := HM0.out.cell 1
    have a2 : w1.cell? ⟨n0, 2, none⟩ = some (.slice B t.b.length cb) := HM0.out.cell 2
    have a3 : w1.cell? ⟨n0, 3, none⟩ = some (.slice H t.h.length ch) := HM0.out.cell 3
    have b0 : w1.cell? ⟨n0 + 1, 0, none⟩ = some (.int .i64 q.src) := HM1.out.cell 0
    have b1 : w1.cell? ⟨n0 + 1, 1, none⟩ = some (.int .i64 q.dst) := HM1.out.cell 1
    have b2 : w1.cell? ⟨n0 + 1, 2, none⟩ = some (.int .i64 q.size) := HM1.out.cell 2
    have b3 : w1.cell? ⟨n0 + 1, 3, none⟩ = some (.int .i64 q.ready) := HM1.out.cell 3
    have b4 : w1.cell? ⟨n0 + 1, 4, none⟩ = some (.int .i64 q.dead) := HM1.out.cell 4
    have b5 : w1.cell? ⟨n0 + 1, 5, none⟩ = some (.int .i64 q.prio) := HM1.out.cell 5
    have b6 : w1.cell? ⟨n0 + 1, 6, none⟩ = some (.bool q.cust) := HM1.out.cell 6
    go_wp2_with fail
    clear a0 a1 a2 a3 b0 b1 b2 b3 b4 b5 b6
    refine (HAR.out w1 (by rw [hn0]; exact HB1.out)).mono ?_
    rintro e w2 ⟨rfl, hb2⟩
    have HN0 := Lib.hid (HM0.out.below hb2 HM0.out.lt)
    have HN1 := Lib.hid (HM1.out.below hb2 HM1.out.lt)
    have HB2 : Hid (Below n0 w w2) := HB1.out.trans (hb2.mono (by have := HM1.out.lt; omega))
    clear hb2 HAR HM0 HM1
    cases hbest : bestF t q with
    | none =>
      have HBN := Lib.hid hbest
      unfold arvV
      dsimp only
      clear hbest
      have a0 : w2.cell? ⟨n0, 0, none⟩ = some (.slice Aq t.p.q.length cq) := HN0.out.cell 0
      have a1 : w2.cell? ⟨n0, 1, none⟩ = some (.slice Ac t.p.c.length cc) := HN0.out.cell 1
      have a2 : w2.cell? ⟨n0, 2, none⟩ = some (.slice B t.b.length cb) := HN0.out.cell 2
      have a3 : w2.cell? ⟨n0, 3, none⟩ = some (.slice H t.h.length ch) := HN0.out.cell 3
      have b0 : w2.cell? ⟨n0 + 1, 0, none⟩ = some (.int .i64 q.src) := HN1.out.cell 0
      have b1 : w2.cell? ⟨n0 + 1, 1, none⟩ = some (.int .i64 q.dst) := HN1.out.cell 1
      have b2 : w2.cell? ⟨n0 + 1, 2, none⟩ = some (.int .i64 q.size) := HN1.out.cell 2
      have b3 : w2.cell? ⟨n0 + 1, 3, none⟩ = some (.int .i64 q.ready) := HN1.out.cell 3
      have b4 : w2.cell? ⟨n0 + 1, 4, none⟩ = some (.int .i64 q.dead) := HN1.out.cell 4
      have b5 : w2.cell? ⟨n0 + 1, 5, none⟩ = some (.int .i64 q.prio) := HN1.out.cell 5
      have b6 : w2.cell? ⟨n0 + 1, 6, none⟩ = some (.bool q.cust) := HN1.out.cell 6
      go_wp2_with fail
      clear a0 a1 a2 a3 b0 b1 b2 b3 b4 b5 b6
      refine (HEA.out w2 (by rw [hn0]; exact HB2.out)).mono ?_
      rintro e w3 ⟨hb3, hpost⟩
      rw [HBN.out] at hpost
      dsimp only at hpost
      subst hpost
      have HO0 := Lib.hid (HN0.out.below hb3 HN0.out.lt)
      have HO1 := Lib.hid (HN1.out.below hb3 HN1.out.lt)
      have HB3 : Hid (Below n0 w w3) := HB2.out.trans (hb3.mono (by have := HN1.out.lt; omega))
      clear hb3 HEA HN0 HN1
      have hdd : 0 ≤ q.dead ∧ q.dead ≤ 1099511627776 := by have := HSM.out.2.1; have h := this.2.2.2.2.2; omega
      have HRT := Lib.hid (routes_any Aq cq Ac cc B cb H ch t q (q.dead + 1) n0 (n0 + 1) w3 (HT.out.below (by rw [hn0]; exact HB3.out)) HSM.out.1 (fun m _ _ hA => best_none HSM.out.2.1 HBN.out hA) HO0.out HO1.out)
      have a0 : w3.cell? ⟨n0, 0, none⟩ = some (.slice Aq t.p.q.length cq) := HO0.out.cell 0
      have a1 : w3.cell? ⟨n0, 1, none⟩ = some (.slice Ac t.p.c.length cc) := HO0.out.cell 1
      have a2 : w3.cell? ⟨n0, 2, none⟩ = some (.slice B t.b.length cb) := HO0.out.cell 2
      have a3 : w3.cell? ⟨n0, 3, none⟩ = some (.slice H t.h.length ch) := HO0.out.cell 3
      have b0 : w3.cell? ⟨n0 + 1, 0, none⟩ = some (.int .i64 q.src) := HO1.out.cell 0
      have b1 : w3.cell? ⟨n0 + 1, 1, none⟩ = some (.int .i64 q.dst) := HO1.out.cell 1
      have b2 : w3.cell? ⟨n0 + 1, 2, none⟩ = some (.int .i64 q.size) := HO1.out.cell 2
      have b3 : w3.cell? ⟨n0 + 1, 3, none⟩ = some (.int .i64 q.ready) := HO1.out.cell 3
      have b4 : w3.cell? ⟨n0 + 1, 4, none⟩ = some (.int .i64 q.dead) := HO1.out.cell 4
      have b5 : w3.cell? ⟨n0 + 1, 5, none⟩ = some (.int .i64 q.prio) := HO1.out.cell 5
      have b6 : w3.cell? ⟨n0 + 1, 6, none⟩ = some (.bool q.cust) := HO1.out.cell 6
      go_wp2_with fail
      clear a0 a1 a2 a3 b0 b1 b2 b3 b4 b5 b6
      refine HRT.out.mono ?_
      rintro e w4 ⟨rfl, hb4⟩
      have HB4 : Hid (Below n0 w w4) := HB3.out.trans (hb4.mono (by have := HO1.out.lt; omega))
      have HZ4 : Hid (n0 ≤ w4.heap.size) := by have := HO1.out.lt; have := hb4.size; show _ ≤ _; omega
      clear hb4 HRT HO0 HO1
      go_wp2_with fail
      refine (awake_any w4).mono ?_
      rintro e w5 ⟨rfl, hb5⟩
      have HB5 : Hid (Below n0 w w5) := HB4.out.trans (hb5.mono HZ4.out)
      clear hb5
      go_wp2
      go_ret
      exact ⟨rfl, by rw [hn0]; exact HB5.out⟩
    | some n =>
      have HBN := Lib.hid hbest
      unfold arvV
      dsimp only
      clear hbest
      have a0 : w2.cell? ⟨n0, 0, none⟩ = some (.slice Aq t.p.q.length cq) := HN0.out.cell 0
      have a1 : w2.cell? ⟨n0, 1, none⟩ = some (.slice Ac t.p.c.length cc) := HN0.out.cell 1
      have a2 : w2.cell? ⟨n0, 2, none⟩ = some (.slice B t.b.length cb) := HN0.out.cell 2
      have a3 : w2.cell? ⟨n0, 3, none⟩ = some (.slice H t.h.length ch) := HN0.out.cell 3
      have b0 : w2.cell? ⟨n0 + 1, 0, none⟩ = some (.int .i64 q.src) := HN1.out.cell 0
      have b1 : w2.cell? ⟨n0 + 1, 1, none⟩ = some (.int .i64 q.dst) := HN1.out.cell 1
      have b2 : w2.cell? ⟨n0 + 1, 2, none⟩ = some (.int .i64 q.size) := HN1.out.cell 2
      have b3 : w2.cell? ⟨n0 + 1, 3, none⟩ = some (.int .i64 q.ready) := HN1.out.cell 3
      have b4 : w2.cell? ⟨n0 + 1, 4, none⟩ = some (.int .i64 q.dead) := HN1.out.cell 4
      have b5 : w2.cell? ⟨n0 + 1, 5, none⟩ = some (.int .i64 q.prio) := HN1.out.cell 5
      have b6 : w2.cell? ⟨n0 + 1, 6, none⟩ = some (.bool q.cust) := HN1.out.cell 6
      go_wp2_with fail
      clear a0 a1 a2 a3 b0 b1 b2 b3 b4 b5 b6
      refine (HEA.out w2 (by rw [hn0]; exact HB2.out)).mono ?_
      rintro e w3 ⟨hb3, hpost⟩
      rw [HBN.out] at hpost
      dsimp only at hpost
      obtain ⟨m, A, c, hear, rfl, hsm⟩ := hpost
      obtain ⟨hadm, h10, k, x, hmk, hx, hxn⟩ := hear.good HSM.out
      have HO0 := Lib.hid (HN0.out.below hb3 HN0.out.lt)
      have HO1 := Lib.hid (HN1.out.below hb3 HN1.out.lt)
      have HB3 : Hid (Below n0 w w3) := HB2.out.trans (hb3.mono (by have := HN1.out.lt; omega))
      have HADM := Lib.hid hadm
      have HSL := Lib.hid hsm
      have HAD := Lib.hid (admit_any Aq cq Ac cc B cb H ch t q A c m w3 (HT.out.below (by rw [hn0]; exact HB3.out)) HSM.out.1 hsm (by omega))
      obtain ⟨b, off, rfl, hr⟩ := hsm.one (by omega)
      have x3 : w3.cell? ⟨b, off + k * 4 + 3, none⟩ = some (.int .i64 n) := by
        rw [← hxn]
        exact hr k x hx 3 _ rfl
      have hm1 : (m.length : Int) = (k : Int) + 1 := by omega
      have hm2 : ((m.length : Int) - 1) = (k : Int) := by omega
      have hm3 : ((m.length : Int) == 0) = false := by rw [beq_eq_false_iff_ne]; omega
      have hk10 : (k : Int) ≤ 10 := by omega
      have hk0 : (0 : Int) ≤ (k : Int) := by omega
      have hkm : (k : Int) < (m.length : Int) := by omega
      have hdd : 0 ≤ q.dead ∧ q.dead ≤ 1099511627776 := by have := HSM.out.2.1; have h := this.2.2.2.2.2; omega
      clear hb3 HEA HN0 HN1 hadm hr hx hxn hear hsm h10
      have a0 : w3.cell? ⟨n0, 0, none⟩ = some (.slice Aq t.p.q.length cq) := HO0.out.cell 0
      have a1 : w3.cell? ⟨n0, 1, none⟩ = some (.slice Ac t.p.c.length cc) := HO0.out.cell 1
      have a2 : w3.cell? ⟨n0, 2, none⟩ = some (.slice B t.b.length cb) := HO0.out.cell 2
      have a3 : w3.cell? ⟨n0, 3, none⟩ = some (.slice H t.h.length ch) := HO0.out.cell 3
      have b0 : w3.cell? ⟨n0 + 1, 0, none⟩ = some (.int .i64 q.src) := HO1.out.cell 0
      have b1 : w3.cell? ⟨n0 + 1, 1, none⟩ = some (.int .i64 q.dst) := HO1.out.cell 1
      have b2 : w3.cell? ⟨n0 + 1, 2, none⟩ = some (.int .i64 q.size) := HO1.out.cell 2
      have b3 : w3.cell? ⟨n0 + 1, 3, none⟩ = some (.int .i64 q.ready) := HO1.out.cell 3
      have b4 : w3.cell? ⟨n0 + 1, 4, none⟩ = some (.int .i64 q.dead) := HO1.out.cell 4
      have b5 : w3.cell? ⟨n0 + 1, 5, none⟩ = some (.int .i64 q.prio) := HO1.out.cell 5
      have b6 : w3.cell? ⟨n0 + 1, 6, none⟩ = some (.bool q.cust) := HO1.out.cell 6
      go_wp2_with fail
      rw [hmk] at HAD
      refine HAD.out.mono ?_
      rintro e w4 ⟨e4, rfl, he4, hb4⟩
      have hz4 : e4 = 0 := he4.2 HADM.out
      subst hz4
      clear a0 a1 a2 a3 b0 b1 b2 b3 b4 b5 b6 x3 hm1 hm2 hm3 hkm he4
      have HP0 := Lib.hid (HO0.out.below hb4 HO0.out.lt)
      have HP1 := Lib.hid (HO1.out.below hb4 HO1.out.lt)
      have HB4 : Hid (Below n0 w w4) := HB3.out.trans (hb4.mono (by have := HO1.out.lt; omega))
      have HRT := Lib.hid (routes_any Aq cq Ac cc B cb H ch t q n n0 (n0 + 1) w4 (HT.out.below (by rw [hn0]; exact HB4.out)) HSM.out.1 (fun m' _ hl hA => by have := best_least HSM.out.2.1 HBN.out hA; omega) HP0.out HP1.out)
      clear hb4 HAD HO0 HO1
      have a0 : w4.cell? ⟨n0, 0, none⟩ = some (.slice Aq t.p.q.length cq) := HP0.out.cell 0
      have a1 : w4.cell? ⟨n0, 1, none⟩ = some (.slice Ac t.p.c.length cc) := HP0.out.cell 1
      have a2 : w4.cell? ⟨n0, 2, none⟩ = some (.slice B t.b.length cb) := HP0.out.cell 2
      have a3 : w4.cell? ⟨n0, 3, none⟩ = some (.slice H t.h.length ch) := HP0.out.cell 3
      have b0 : w4.cell? ⟨n0 + 1, 0, none⟩ = some (.int .i64 q.src) := HP1.out.cell 0
      have b1 : w4.cell? ⟨n0 + 1, 1, none⟩ = some (.int .i64 q.dst) := HP1.out.cell 1
      have b2 : w4.cell? ⟨n0 + 1, 2, none⟩ = some (.int .i64 q.size) := HP1.out.cell 2
      have b3 : w4.cell? ⟨n0 + 1, 3, none⟩ = some (.int .i64 q.ready) := HP1.out.cell 3
      have b4 : w4.cell? ⟨n0 + 1, 4, none⟩ = some (.int .i64 q.dead) := HP1.out.cell 4
      have b5 : w4.cell? ⟨n0 + 1, 5, none⟩ = some (.int .i64 q.prio) := HP1.out.cell 5
      have b6 : w4.cell? ⟨n0 + 1, 6, none⟩ = some (.bool q.cust) := HP1.out.cell 6
      go_wp2_with fail
      clear a0 a1 a2 a3 b0 b1 b2 b3 b4 b5 b6
      refine HRT.out.mono ?_
      rintro e w5 ⟨rfl, hb5⟩
      have HB5 : Hid (Below n0 w w5) := HB4.out.trans (hb5.mono (by have := HP1.out.lt; omega))
      have HZ5 : Hid (n0 ≤ w5.heap.size) := by have := HP1.out.lt; have := hb5.size; show _ ≤ _; omega
      clear hb5 HRT HP0 HP1
      go_wp2_with fail
      refine (awake_any w5).mono ?_
      rintro e w6 ⟨rfl, hb6⟩
      have HB6 : Hid (Below n0 w w6) := HB5.out.trans (hb6.mono HZ5.out)
      clear hb6
      go_wp2
      go_ret
      exact ⟨rfl, by rw [hn0]; exact HB6.out⟩
end Go.Proofs.YtebkgbmijocdjaaGreat.Tp
