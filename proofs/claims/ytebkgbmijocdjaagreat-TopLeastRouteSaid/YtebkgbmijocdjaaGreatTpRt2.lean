/- mailboattop.top30Routes, walked: it returns true if no way that arrives early can be booked. Conditions: the tables lie in memory, and are valid.
The closure of top30Routes, walked: it returns true. Conditions: no way that arrives early can be booked; the tables lie in memory, and are valid. -/
import Derived.BigQuiet
import Derived.Test.YtebkgbmijocdjaaGreatTpBeg
import Derived.Test.YtebkgbmijocdjaaGreatTpAdm2
import Derived.Test.YtebkgbmijocdjaaGreatTpHop
import Derived.Test.YtebkgbmijocdjaaGreatTpBld
import Derived.Test.YtebkgbmijocdjaaGreatTpRev
namespace Go.Proofs.YtebkgbmijocdjaaGreat.Tp
open Go Go.RowKit

theorem infohp2 : (Tryz.prog.info? 41).map (fun i => (i.zero, i.size, i.bytes)) = some (some (.agg #[.int .i64 0, .int .i64 0, .int .i64 0, .int .i64 0]), 4, 32) := by kernel_rfl
/-- append of a hop to a full slice of hops: a new row -/
theorem run_append_hops {w : World} (ty : TypeId) (A : Option Addr) (l : List Hop) (hA : SlAt hpE w A l) (hnil : l = [] → A = none) (ad : Addr) (h : Hop) (hnews : ∀ j u, (hpE.f h)[j]? = some u → w.cell? (ad.add j) = some u) (hn : l.length ≤ 1000) :
    ∃ g c w', (Builtin.append_ #[37, 37] ty #[.slice A l.length l.length, .slice (some ad) 1 1]).run Tryz.prog w = .ok (.slice (some ⟨g, 0, none⟩) (l.length + 1) c) w' ∧ SlAt hpE w' (some ⟨g, 0, none⟩) (l ++ [h]) ∧ l.length + 1 ≤ c ∧ c ≤ maxLen ∧ w.heap.size ≤ g ∧ g < w'.heap.size ∧ Below w.heap.size w w' := by
  obtain ⟨i0, hi0, hz0, hz1, hz2⟩ := info_parts infohp2
  cases A with
  | none =>
    have hl : l = [] := by
      cases l with
      | nil => rfl
      | cons x l => obtain ⟨b, off, e, _⟩ := hA 0 x rfl; cases e
    subst hl
    obtain ⟨v', w', hr, h2, h3, -, -⟩ := run_append_own_at (P := Tryz.prog) w w.heap.size 37 ty 41 i0 _ 4 32 Tryz.underlying37 hi0 hz0 hz1 hz2 rfl (by decide) (.slice none 0 0) 0 [] (World.ownsRow_nil _ _ _ _) ad 1 1 (hpE.f h) rfl hnews (hpE.one h) (by unfold maxLen; omega) (by omega) (Nat.le_refl _)
    have h2' : w'.ownsRow w.heap.size 41 4 v' [h].length ([h].flatMap hpE.f) := h2
    obtain ⟨g, cap, rfl, hbg, hlc, hcm, hR⟩ := rowH_of h2' (by simp)
    refine ⟨g, cap, w', hr, ?_, hlc, hcm, hbg, hR.lt, ?_⟩
    · intro k r hk
      exact ⟨g, 0, rfl, by rw [Nat.zero_add]; exact hR.cells hk⟩
    · exact ⟨h3.os, h3.tape, h3.output, h3.size, fun k hk => h3.block k hk (by simp [Value.ownBlock])⟩
  | some a =>
    have hne : l ≠ [] := fun e => by have := hnil e; cases this
    obtain ⟨b, off, e, -⟩ := hA.one (List.length_pos_iff.2 hne)
    cases e
    have hsz : i0.size = 4 := hz1
    have hfl : (l.flatMap hpE.f).length = l.length * 4 := flat_len (E := hpE) l
    have hr := run_append_grow (P := Tryz.prog) w 37 ty 41 i0 _ Tryz.underlying37 hi0 hz0 ⟨b, off, none⟩ l.length l.length (l.flatMap hpE.f) (by rw [hsz]; exact hfl) (fun j v hj => by rw [Addr.add_mid]; exact cells_flat hA j v hj) ad 1 1 (hpE.f h) (by rw [hsz]; rfl) hnews (by omega) (by omega) (growslice_fits (by omega) (by rw [hz2]; omega))
    have hcap := grownCap_ge w (l.length + 1) l.length 41
    refine ⟨w.heap.size, _, _, hr, ?_, hcap, grownCap_le_maxLen w (l.length + 1) l.length 41 (by unfold maxLen; omega), Nat.le_refl _, by simp, ?_⟩
    · intro k r hk
      refine ⟨w.heap.size, 0, rfl, fun j v hj => ?_⟩
      have h1 := flat_get (E := hpE) (l ++ [h]) k r hk j v hj
      have hb := Bk.new w.drew 41 ((l.flatMap hpE.f).toArray ++ (hpE.f h).toArray ++ Builtin.zeroCells (Value.agg #[.int .i64 0, .int .i64 0, .int .i64 0, .int .i64 0]).cells (grownCap w (l.length + 1) l.length 41 - (l.length + 1)))
      have h2 := hb.cell (0 + k * hpE.k + j)
      rw [Nat.zero_add] at h2 ⊢
      refine h2.trans ?_
      have hlt : k * hpE.k + j < (l.flatMap hpE.f).length + (hpE.f h).length := by
        have := (List.getElem?_eq_some_iff.1 h1).1
        rw [List.flatMap_append, List.length_append] at this
        simpa using this
      rw [List.flatMap_append] at h1
      rw [Array.getElem?_append_left (by simpa using hlt)]
      simpa using h1
    · exact ((Below.refl w.heap.size w).drew).alloc (Nat.le_refl _) _
theorem wp_append_hops {w : World} {o : Oper} {a : Act} {K : Act → World → Prop} {Q : Exit → Act → World → Prop} (s x : Operand) (ho : o.op = .call { callee := .builtin .append, args := #[s, x], argTypes := #[37, 37] })
    (A : Option Addr) (l : List Hop) (hA : SlAt hpE w A l) (hnil : l = [] → A = none) (hs : a.eval s = .slice A l.length l.length) (ad : Addr) (h : Hop) (hx : a.eval x = .slice (some ad) 1 1) (hnews : ∀ j u, (hpE.f h)[j]? = some u → w.cell? (ad.add j) = some u) (hn : l.length ≤ 1000)
    (hk : ∀ g c w', SlAt hpE w' (some ⟨g, 0, none⟩) (l ++ [h]) → l.length + 1 ≤ c → c ≤ maxLen → w.heap.size ≤ g → g < w'.heap.size → Below w.heap.size w w' → K (a.put o.dst (.slice (some ⟨g, 0, none⟩) (l.length + 1) c)) w') : o.wp Tryz.prog a w K Q := by
  obtain ⟨g, c, w', hr, h1, h2, h2', h3, h4, h5⟩ := run_append_hops o.type A l hA hnil ad h hnews hn
  unfold Oper.wp execOp
  simp only [ho, resolve, invoke, builtin, Sem.run_bind, Sem.run_pure, Result.andThen_ok, List.map_toArray, List.map_cons, List.map_nil, hs, hx, hr]
  exact hk g c w' h1 h2 h2' h3 h4 h5
set_option maxHeartbeats 2000000 in
/-- what visits a route: it answers true if the route cannot be booked -/
theorem visit_any (Aq : Option Addr) (cq : Nat) (Ac : Option Addr) (cc : Nat) (B : Option Addr) (cb : Nat) (H : Option Addr) (ch : Nat) (t : Tbl) (q : Rq) (T R : Nat) (A : Option Addr) (cA : Nat) (l : List Hop) (w : World) (ht : TblAt w Aq cq Ac cc B cb H ch t) (hok : TblOK t) (hT : Bk w T 29 (tbA Aq cq Ac cc B cb H ch t)) (hR : Bk w R 31 (rqL q).toArray) (hl : SlAt hpE w A l) (h20 : l.length < 20) (hno : ¬ AdmitD t q l) :
    Calls Tryz.prog 13 #[.slice A l.length cA, .pointer (some ⟨T, 0, none⟩), .pointer (some ⟨R, 0, none⟩)] w fun e w' => e = .returned (.bool true) ∧ Below w.heap.size w w' := by
  have HA := Lib.hid (admit_any Aq cq Ac cc B cb H ch t q A cA l w ht hok hl h20)
  have HNO := Lib.hid hno
  have a0 : w.cell? ⟨T, 0, none⟩ = some (.slice Aq t.p.q.length cq) := hT.cell 0
  have a1 : w.cell? ⟨T, 1, none⟩ = some (.slice Ac t.p.c.length cc) := hT.cell 1
  have a2 : w.cell? ⟨T, 2, none⟩ = some (.slice B t.b.length cb) := hT.cell 2
  have a3 : w.cell? ⟨T, 3, none⟩ = some (.slice H t.h.length ch) := hT.cell 3
  have b0 : w.cell? ⟨R, 0, none⟩ = some (.int .i64 q.src) := hR.cell 0
  have b1 : w.cell? ⟨R, 1, none⟩ = some (.int .i64 q.dst) := hR.cell 1
  have b2 : w.cell? ⟨R, 2, none⟩ = some (.int .i64 q.size) := hR.cell 2
  have b3 : w.cell? ⟨R, 3, none⟩ = some (.int .i64 q.ready) := hR.cell 3
  have b4 : w.cell? ⟨R, 4, none⟩ = some (.int .i64 q.dead) := hR.cell 4
  have b5 : w.cell? ⟨R, 5, none⟩ = some (.int .i64 q.prio) := hR.cell 5
  have b6 : w.cell? ⟨R, 6, none⟩ = some (.bool q.cust) := hR.cell 6
  clear ht hok hT hR hl hno
  go_enter Tryz.func13, Tryz.ntmps13
  go_wp2_with fail
  refine HA.out.mono ?_
  rintro e w1 ⟨e1, rfl, he, hb⟩
  have hne : ¬ e1 = 0 := fun h => HNO.out (he.1 h)
  have d1 : (e1 != 0) = true := by simpa using hne
  have HB := Lib.hid hb
  clear he hb HA hne
  go_wp2
  go_ret
  exact ⟨by first | rfl | exact ret_b d1, HB.out⟩
/-- what the search for routes keeps in memory -/
structure RtV (w0 : World) (LB T4 R5 B6 V7 K10 T2 R3 : Nat) (tb : Array Value) (rq : Array Value) (Bf : Int) (W : World) : Prop where
  be : Below w0.heap.size w0 W
  t4 : Bk W T4 29 tb
  r5 : Bk W R5 31 rq
  b6 : Bk W B6 3 #[.int .i64 Bf]
  v7 : Bk W V7 44 #[.func (.func 13) #[] #[.pointer (some ⟨T2, 0, none⟩), .pointer (some ⟨R3, 0, none⟩)]]
  k10 : Bk W K10 102 #[.func (.func 39) #[] #[.pointer (some ⟨LB, 0, none⟩), .pointer (some ⟨T4, 0, none⟩), .pointer (some ⟨R5, 0, none⟩), .pointer (some ⟨B6, 0, none⟩), .pointer (some ⟨V7, 0, none⟩), .pointer (some ⟨K10, 0, none⟩)]]
  t2 : Bk W T2 29 tb
  r3 : Bk W R3 31 rq
  lf : ∃ n, Bk W LB 3 #[.int .i64 n]
  ne : B6 ≠ LB ∧ w0.heap.size ≤ LB
section
variable {w0 : World} {LB T4 R5 B6 V7 K10 T2 R3 : Nat} {tb rq : Array Value} {Bf : Int} {W W' : World}
theorem RtV.grown (h : RtV w0 LB T4 R5 B6 V7 K10 T2 R3 tb rq Bf W) (hg : W.grownBy W' (some LB)) (hl : ∃ n, Bk W' LB 3 #[.int .i64 n]) : RtV w0 LB T4 R5 B6 V7 K10 T2 R3 tb rq Bf W' := by
  obtain ⟨n, hn⟩ := h.lf
  have up : ∀ {b : Nat} {u : TypeId} {cs : Array Value}, u ≠ 3 → Bk W b u cs → Bk W' b u cs := fun {b u cs} hu hb => hb.grown hg fun e => by
    have e2 : b = LB := Option.some.inj e
    subst e2
    have := (show W.heap[b]? = _ from hb).symm.trans hn
    simp at this
    exact hu this.2
  exact ⟨h.be.grown hg (by have := hn.lt; have := h.ne.2; omega) (fun k e => by cases e; exact h.ne.2), up (by decide) h.t4, up (by decide) h.r5, h.b6.grown hg (fun e => h.ne.1 (Option.some.inj e)), up (by decide) h.v7, up (by decide) h.k10, up (by decide) h.t2, up (by decide) h.r3, hl, h.ne⟩
theorem RtV.below (h : RtV w0 LB T4 R5 B6 V7 K10 T2 R3 tb rq Bf W) (hb : Below W.heap.size W W') : RtV w0 LB T4 R5 B6 V7 K10 T2 R3 tb rq Bf W' := by
  obtain ⟨n, hn⟩ := h.lf
  exact h.grown (grown_below hb _) ⟨n, hn.below hb hn.lt⟩
end
end Go.Proofs.YtebkgbmijocdjaaGreat.Tp
namespace Go.Proofs.YtebkgbmijocdjaaGreat.Tp
open Go Go.RowKit

/-- what is known of the call of the closure -/
def WalkPost (LB : Nat) (W : World) (e : Ending) (w' : World) : Prop := e = .returned (.bool true) ∧ W.grownBy w' (some LB) ∧ ∃ n, Bk w' LB 3 #[.int .i64 n]
theorem lastArr_snoc (h : Hop) : ∀ (l : List Hop), lastArr (l ++ [h]) = h.arr
  | [] => rfl
  | [x] => rfl
  | x :: y :: l => by
    have ih := lastArr_snoc h (y :: l)
    rw [List.cons_append, List.cons_append, lastArr, ← List.cons_append]
    exact ih
set_option maxHeartbeats 32000000 in
set_option maxRecDepth 100000 in
theorem walk_any (w0 : World) (LB T4 R5 B6 V7 K10 T2 R3 : Nat) (Aq : Option Addr) (cq : Nat) (Ac : Option Addr) (cc : Nat) (B : Option Addr) (cb : Nat) (H : Option Addr) (ch : Nat) (t : Tbl) (q : Rq) (Bf : Int) (ht : TblAt w0 Aq cq Ac cc B cb H ch t) (hok : TblOK t) (hno : ∀ m, m ≠ [] → lastArr m < Bf → ¬ AdmitD t q m) :
    ∀ (d : Nat) (A : Option Addr) (cA : Nat) (l : List Hop) (node at_ : Int) (W : World), l.length + d = 3 → RtV w0 LB T4 R5 B6 V7 K10 T2 R3 (tbA Aq cq Ac cc B cb H ch t) (rqL q).toArray Bf W → SlAt hpE W A l → (l = [] → A = none) → l.length ≤ cA → cA ≤ maxLen → (∀ a, l ≠ [] → A = some a → a.block ≠ LB) →
      Calls Tryz.prog 39 #[.slice A l.length cA, .int .i64 node, .int .i64 at_, .pointer (some ⟨LB, 0, none⟩), .pointer (some ⟨T4, 0, none⟩), .pointer (some ⟨R5, 0, none⟩), .pointer (some ⟨B6, 0, none⟩), .pointer (some ⟨V7, 0, none⟩), .pointer (some ⟨K10, 0, none⟩)] W (WalkPost LB W) := by
  have HT := Lib.hid ht
  have HOK := Lib.hid hok
  have HNO := Lib.hid hno
  have hcl := hok.1.1.2.2
  clear ht hok hno
  intro d
  induction d with
  | zero =>
    intro A cA l node at_ W hld hv hs hnil hlc hcm hab
    have HV := Lib.hid hv
    obtain ⟨n, hn⟩ := hv.lf
    have l0 : W.cell? ⟨LB, 0, none⟩ = some (.int .i64 n) := hn.cell 0
    have f0 : W.frozen? ⟨LB, 0, none⟩ = false := hn.free 0
    have l1 : (W.setCell ⟨LB, 0, none⟩ (.int .i64 (wrap64 (n - 1)))).cell? ⟨LB, 0, none⟩ = some (.int .i64 (wrap64 (n - 1))) := (hn.put 0 _).cell 0
    have HF : Hid (WalkPost LB W (.returned (.bool true)) (W.setCell ⟨LB, 0, none⟩ (.int .i64 (wrap64 (n - 1))))) := ⟨rfl, grown_put _ _ _ _, _, hn.put 0 _⟩
    have hl3 : ((l.length : Int) == 3) = true := by rw [beq_iff_eq]; omega
    clear hv hs hnil hlc hab hn hld
    go_enter Tryz.func39, Tryz.ntmps39
    by_cases hneg : wrap64 (n - 1) < 0
    · have d1 : decide (wrap64 (n - 1) < 0) = true := by simpa using hneg
      go_wp2
      go_ret
      exact HF.out
    · have d1 : decide (wrap64 (n - 1) < 0) = false := by simpa using hneg
      go_wp2
      go_ret
      exact HF.out
  | succ d ih =>
    intro A cA l node at_ W hld hv hs hnil hlc hcm hab
    have IH := Lib.hid ih
    have HS := Lib.hid hs
    have HNIL := Lib.hid hnil
    have HLC := Lib.hid hlc
    have HCM := Lib.hid hcm
    have HAB := Lib.hid hab
    obtain ⟨n, hn⟩ := hv.lf
    have l0 : W.cell? ⟨LB, 0, none⟩ = some (.int .i64 n) := hn.cell 0
    have f0 : W.frozen? ⟨LB, 0, none⟩ = false := hn.free 0
    have l1 : (W.setCell ⟨LB, 0, none⟩ (.int .i64 (wrap64 (n - 1)))).cell? ⟨LB, 0, none⟩ = some (.int .i64 (wrap64 (n - 1))) := (hn.put 0 _).cell 0
    have HF : Hid (WalkPost LB W (.returned (.bool true)) (W.setCell ⟨LB, 0, none⟩ (.int .i64 (wrap64 (n - 1))))) := ⟨rfl, grown_put _ _ _ _, _, hn.put 0 _⟩
    have HV1 := Lib.hid (hv.grown (grown_put W LB 0 (.int .i64 (wrap64 (n - 1)))) ⟨_, hn.put 0 _⟩)
    have HG1 := Lib.hid (grown_put W LB 0 (.int .i64 (wrap64 (n - 1))))
    have t1 : (W.setCell ⟨LB, 0, none⟩ (.int .i64 (wrap64 (n - 1)))).cell? ⟨T4, 1, none⟩ = some (.slice Ac t.p.c.length cc) := HV1.out.t4.cell 1
    have hl3 : ((l.length : Int) == 3) = false := by rw [beq_eq_false_iff_ne]; omega
    have HLD := Lib.hid hld
    clear hv hs hnil hlc hab hn ih hld hcm
    go_enter Tryz.func39, Tryz.ntmps39
    by_cases hneg : wrap64 (n - 1) < 0
    · have d1 : decide (wrap64 (n - 1) < 0) = true := by simpa using hneg
      clear t1
      go_wp2
      go_ret
      exact HF.out
    · have d1 : decide (wrap64 (n - 1) < 0) = false := by simpa using hneg
      go_wp2_with fail
      clear l0 f0 l1 t1 HF hl3 d1 hneg
      generalize W.setCell ⟨LB, 0, none⟩ (.int .i64 (wrap64 (n - 1))) = W1 at HV1 HG1 ⊢
      go_loopw [33] (fun i wr => ∃ k : Nat, k ≤ t.p.c.length ∧ i = .int .i64 k ∧ RtV w0 LB T4 R5 B6 V7 K10 T2 R3 (tbA Aq cq Ac cc B cb H ch t) (rqL q).toArray Bf wr ∧ W.grownBy wr (some LB)) (fun i _ => t.p.c.length - (intOf i).toNat)
      case atStart => exact ⟨0, Nat.zero_le _, rfl, HV1.out, HG1.out⟩
      case round =>
        obtain ⟨k, hk, rfl, hv, hg⟩ := hrel
        have HV := Lib.hid hv
        have HG := Lib.hid hg
        clear hv hg HV1 HG1
        by_cases hlt : k < t.p.c.length
        · obtain ⟨c, hc⟩ : ∃ c, t.p.c[k]? = some c := ⟨_, List.getElem?_eq_getElem hlt⟩
          have HC := Lib.hid hc
          obtain ⟨bc, oc, rfl, hr⟩ := (HT.out.below HV.out.be).p.c.one (by omega)
          have hrg := hr k c hc
          have c0 : wr.cell? ⟨bc, oc + k * 7, none⟩ = some (.int .i64 c.src) := hrg 0 _ rfl
          have c1 : wr.cell? ⟨bc, oc + k * 7 + 1, none⟩ = some (.int .i64 c.dst) := hrg 1 _ rfl
          have c2 : wr.cell? ⟨bc, oc + k * 7 + 2, none⟩ = some (.int .i64 c.beg) := hrg 2 _ rfl
          have c3 : wr.cell? ⟨bc, oc + k * 7 + 3, none⟩ = some (.int .i64 c.fin) := hrg 3 _ rfl
          have c4 : wr.cell? ⟨bc, oc + k * 7 + 4, none⟩ = some (.int .i64 c.rate) := hrg 4 _ rfl
          have c5 : wr.cell? ⟨bc, oc + k * 7 + 5, none⟩ = some (.int .i64 c.rng) := hrg 5 _ rfl
          have c6 : wr.cell? ⟨bc, oc + k * 7 + 6, none⟩ = some (.int .i64 c.loss) := hrg 6 _ rfl
          have hk0 : (0 : Int) ≤ (k : Int) := by omega
          have hk1 : (k : Int) < (t.p.c.length : Int) := by omega
          have hk2 : (k : Int) ≤ 64 := by omega
          have HBX : Hid (Below wr.heap.size wr (wr.alloc (.cells (ctA c) 104))) := (Below.refl _ _).alloc (Nat.le_refl _) _
          have HCB : Hid (Bk (wr.alloc (.cells (ctA c) 104)) wr.heap.size 104 (ctA c)) := Bk.new _ _ _
          have HV2 := Lib.hid (HV.out.below HBX.out)
          have HG2 : Hid (W.grownBy (wr.alloc (.cells (ctA c) 104)) (some LB)) := HG.out.trans (grown_below HBX.out _)
          have HLZ : Hid (LB < wr.heap.size) := by obtain ⟨n, hn⟩ := HV.out.lf; exact hn.lt
          have b0 : (wr.alloc (.cells (ctA c) 104)).cell? ⟨wr.heap.size, 0, none⟩ = some (.int .i64 c.src) := HCB.out.cell 0
          clear hc hr hrg HV HG HBX
          by_cases hsn : c.src = node
          · have d2 : (c.src != node) = false := by simpa using hsn
            have t0 : (wr.alloc (.cells (ctA c) 104)).cell? ⟨T4, 0, none⟩ = some (.slice Aq t.p.q.length cq) := HV2.out.t4.cell 0
            have t1 : (wr.alloc (.cells (ctA c) 104)).cell? ⟨T4, 1, none⟩ = some (.slice (some ⟨bc, oc, none⟩) t.p.c.length cc) := HV2.out.t4.cell 1
            have t2 : (wr.alloc (.cells (ctA c) 104)).cell? ⟨T4, 2, none⟩ = some (.slice B t.b.length cb) := HV2.out.t4.cell 2
            have t3 : (wr.alloc (.cells (ctA c) 104)).cell? ⟨T4, 3, none⟩ = some (.slice H t.h.length ch) := HV2.out.t4.cell 3
            clear hsn
            go_wp2_with fail
            clear c0 c1 c2 c3 c4 c5 c6 b0 t0 t1 t2 t3 d2
            generalize (wr.alloc (.cells (ctA c) 104)) = w2 at HCB HV2 HG2 ⊢
            generalize wr.heap.size = CB at HCB HLZ ⊢
            refine (begins_any Aq cq (some ⟨bc, oc, none⟩) cc B cb H ch t k c at_ w2 (HT.out.below HV2.out.be) HOK.out HC.out).mono ?_
            rintro e w3 ⟨LL, hll, A3, c3, rfl, hs3, hc3, hba3, hb3⟩
            have HV3 := Lib.hid (HV2.out.below hb3)
            have HG3 : Hid (W.grownBy w3 (some LB)) := HG2.out.trans (grown_below hb3 _)
            have HCB3 := Lib.hid (HCB.out.below hb3 HCB.out.lt)
            have HS3 := Lib.hid hs3
            have HLL := Lib.hid hll
            have HA3 : Hid (∀ a, A3 = some a → a.block ≠ LB) := fun a ha e => by
              have h1 := hba3 a ha
              obtain ⟨n, hn⟩ := HV2.out.lf
              have := hn.lt
              omega
            clear hll hs3 hc3 hba3 hb3 HV2 HG2 HCB
            go_wp2_with fail
            go_loopw [47] (fun j wr2 => ∃ m : Nat, m ≤ LL.length ∧ j = .int .i64 m ∧ RtV w0 LB T4 R5 B6 V7 K10 T2 R3 (tbA Aq cq (some ⟨bc, oc, none⟩) cc B cb H ch t) (rqL q).toArray Bf wr2 ∧ W.grownBy wr2 (some LB) ∧ w3.grownBy wr2 (some LB)) (fun j _ => LL.length - (intOf j).toNat)
            case atStart => exact ⟨0, Nat.zero_le _, rfl, HV3.out, HG3.out, (grown_below (Below.refl _ _) none).but _⟩
            case round =>
              obtain ⟨m, hm, rfl, hv, hg, hg3⟩ := hrel
              have HV := Lib.hid hv
              have HG := Lib.hid hg
              have HG4 := Lib.hid hg3
              clear hv hg hg3
              by_cases hlm : m < LL.length
              · obtain ⟨bg, hbg⟩ : ∃ bg, LL[m]? = some bg := ⟨_, List.getElem?_eq_getElem hlm⟩
                obtain ⟨b3, o3, rfl, hr3⟩ := (slAt_grown HS3.out HG4.out (fun a _ ha e => HA3.out a ha (Option.some.inj e))).one (by omega)
                have e0 : wr.cell? ⟨b3, o3 + m, none⟩ = some (.int .i64 bg) := by
                  have h := hr3 m bg hbg 0 _ rfl
                  have e : o3 + m * intE.k + 0 = o3 + m := by show o3 + m * 1 + 0 = _; omega
                  rwa [e] at h
                have hm0 : (0 : Int) ≤ (m : Int) := by omega
                have hm1 : (m : Int) < (LL.length : Int) := by omega
                have hm2 : (m : Int) ≤ 3000 := by have := HLL.out; omega
                have t0 : wr.cell? ⟨T4, 0, none⟩ = some (.slice Aq t.p.q.length cq) := HV.out.t4.cell 0
                have t1 : wr.cell? ⟨T4, 1, none⟩ = some (.slice (some ⟨bc, oc, none⟩) t.p.c.length cc) := HV.out.t4.cell 1
                have r0 : wr.cell? ⟨R5, 0, none⟩ = some (.int .i64 q.src) := HV.out.r5.cell 0
                have r1 : wr.cell? ⟨R5, 1, none⟩ = some (.int .i64 q.dst) := HV.out.r5.cell 1
                have r2 : wr.cell? ⟨R5, 2, none⟩ = some (.int .i64 q.size) := HV.out.r5.cell 2
                have r3 : wr.cell? ⟨R5, 3, none⟩ = some (.int .i64 q.ready) := HV.out.r5.cell 3
                have r4 : wr.cell? ⟨R5, 4, none⟩ = some (.int .i64 q.dead) := HV.out.r5.cell 4
                have r5 : wr.cell? ⟨R5, 5, none⟩ = some (.int .i64 q.prio) := HV.out.r5.cell 5
                have r6 : wr.cell? ⟨R5, 6, none⟩ = some (.bool q.cust) := HV.out.r5.cell 6
                have HCB5 := Lib.hid (HCB3.out.grown HG4.out (by intro e; have := Option.some.inj e; have := HLZ.out; omega))
                clear hbg hr3
                go_wp2_with fail
                clear e0 t0 t1 r0 r1 r2 r3 r4 r5 r6
                refine (routeHop_any Aq cq (some ⟨bc, oc, none⟩) cc t.p q k bg wr (HT.out.below HV.out.be).p).mono ?_
                rintro e w5 ⟨h, q1, rfl, hb5⟩
                have HBX : Hid (Below wr.heap.size wr (w5.alloc (.cells #[.int .i64 h.ct, .int .i64 h.beg, .int .i64 h.fin, .int .i64 h.arr] 41))) := below_next hb5 ((Below.refl _ _).alloc (Nat.le_refl _) _)
                have HV6 := Lib.hid (HV.out.below HBX.out)
                have HG6 : Hid (W.grownBy (w5.alloc (.cells #[.int .i64 h.ct, .int .i64 h.beg, .int .i64 h.fin, .int .i64 h.arr] 41)) (some LB)) := HG.out.trans (grown_below HBX.out _)
                have HGG6 : Hid (w3.grownBy (w5.alloc (.cells #[.int .i64 h.ct, .int .i64 h.beg, .int .i64 h.fin, .int .i64 h.arr] 41)) (some LB)) := HG4.out.trans (grown_below HBX.out _)
                have HCB6 := Lib.hid (HCB5.out.below HBX.out HCB5.out.lt)
                have HHB : Hid (Bk (w5.alloc (.cells #[.int .i64 h.ct, .int .i64 h.beg, .int .i64 h.fin, .int .i64 h.arr] 41)) w5.heap.size 41 #[.int .i64 h.ct, .int .i64 h.beg, .int .i64 h.fin, .int .i64 h.arr]) := Bk.new _ _ _
                have HHZ : Hid (LB < w5.heap.size) := by obtain ⟨n, hn⟩ := HV.out.lf; have h1 := hn.lt; have h2 := hb5.size; show _ < _; omega
                have h3 : (w5.alloc (.cells #[.int .i64 h.ct, .int .i64 h.beg, .int .i64 h.fin, .int .i64 h.arr] 41)).cell? ⟨w5.heap.size, 3, none⟩ = some (.int .i64 h.arr) := HHB.out.cell 3
                have bf : (w5.alloc (.cells #[.int .i64 h.ct, .int .i64 h.beg, .int .i64 h.fin, .int .i64 h.arr] 41)).cell? ⟨B6, 0, none⟩ = some (.int .i64 Bf) := HV6.out.b6.cell 0
                clear hb5 HBX HV HG HG4 HCB5
                by_cases hq : q1 = 0
                · subst hq
                  by_cases har : Bf ≤ h.arr
                  · have d4 : decide (Bf ≤ h.arr) = true := by simpa using har
                    go_wp2
                    go_roundw
                    case rel => exact ⟨m + 1, by omega, by go_num, HV6.out, HG6.out, HGG6.out⟩
                    case measure => simp [intOf]; omega
                  · have d4 : decide (Bf ≤ h.arr) = false := by simpa using har
                    have HAR : Hid (h.arr < Bf) := by show _ < _; omega
                    go_wp2_with fail
                    clear h3 bf d4 har
                    generalize (w5.alloc (.cells #[.int .i64 h.ct, .int .i64 h.beg, .int .i64 h.fin, .int .i64 h.arr] 41)) = w6 at HV6 HG6 HGG6 HCB6 HHB ⊢
                    generalize w5.heap.size = HB at HHB HHZ ⊢
                    have HSF : Hid (∀ w', Bk w' HB 41 #[.int .i64 h.ct, .int .i64 h.beg, .int .i64 h.fin, .int .i64 h.arr] → (w'.cell? ⟨HB, 0, none⟩ = some (.int .i64 h.ct) ∧ w'.cell? ⟨HB, 1, none⟩ = some (.int .i64 h.beg) ∧ w'.cell? ⟨HB, 2, none⟩ = some (.int .i64 h.fin) ∧ w'.cell? ⟨HB, 3, none⟩ = some (.int .i64 h.arr))) := fun w' hb => ⟨hb.cell 0, hb.cell 1, hb.cell 2, hb.cell 3⟩
                    have HSA : Hid (SlAt hpE w6 A l) := slAt_grown HS.out HG6.out (fun a hl ha e => HAB.out a hl ha (Option.some.inj e))
                    have hlc : (l.length : Int) ≤ (cA : Int) := by have := HLC.out; omega
                    have hlc2 : (cA : Int) ≤ 9223372036854775807 := by have := HCM.out; unfold maxLen at this; omega
                    refine region_pl (S := fun w' => (w'.cell? ⟨HB, 0, none⟩ = some (.int .i64 h.ct) ∧ w'.cell? ⟨HB, 1, none⟩ = some (.int .i64 h.beg) ∧ w'.cell? ⟨HB, 2, none⟩ = some (.int .i64 h.fin) ∧ w'.cell? ⟨HB, 3, none⟩ = some (.int .i64 h.arr))) (by kernel_rfl) (HSF.out _ (HHB.out.below (Below.refl w6.heap.size w6).drew HHB.out.lt)) (fun hHeld => ?_)
                    have HV7 := Lib.hid (HV6.out.below (Below.refl w6.heap.size w6).drew)
                    have HG7 : Hid (W.grownBy w6.drew (some LB)) := HG6.out.trans (grown_below (Below.refl w6.heap.size w6).drew _)
                    have HGG7 : Hid (w3.grownBy w6.drew (some LB)) := HGG6.out.trans (grown_below (Below.refl w6.heap.size w6).drew _)
                    have HCB7 := Lib.hid (HCB6.out.below (Below.refl w6.heap.size w6).drew HCB6.out.lt)
                    have HHB7 := Lib.hid (HHB.out.below (Below.refl w6.heap.size w6).drew HHB.out.lt)
                    have HSA7 := Lib.hid (HSA.out.below (Below.refl w6.heap.size w6).drew)
                    clear HV6 HG6 HGG6 HCB6 HHB HSA
                    generalize w6.drew = V at HV7 HG7 HGG7 HCB7 HHB7 HSA7 hHeld ⊢
                    refine takeL (i := 0) (v := ?v0_1) rfl (by kernel_rfl) (by kernel_rfl) (by kernel_rfl) (fun _ _ _ h => nomatch h.1) (Or.inl ⟨by rfl, ?hy0_1⟩) (by assumption) ?_
                    case hy0_1 => (intro w hSw; (try dsimp only at hSw); go_simp; try with_reducible rfl)
                    try simp only [Act.put, List.setIfInBounds_toArray, List.set_cons_zero, List.set_cons_succ]
                    refine takeL (i := 1) (v := ?v1_2) rfl (by kernel_rfl) (by kernel_rfl) (by kernel_rfl) (fun _ _ _ h => nomatch h.1) (Or.inl ⟨by rfl, ?hy1_2⟩) (by assumption) ?_
                    case hy1_2 => (intro w hSw; (try dsimp only at hSw); go_simp; try with_reducible rfl)
                    try simp only [Act.put, List.setIfInBounds_toArray, List.set_cons_zero, List.set_cons_succ]
                    refine takeL (i := 2) (v := (.int .i64 (l.length : Int))) rfl (by kernel_rfl) (by kernel_rfl) (by kernel_rfl) (fun _ _ _ h => nomatch h.1) (Or.inl ⟨by rfl, ?hy2_3⟩) (by assumption) ?_
                    case hy2_3 => (intro w hSw; (try dsimp only at hSw); go_simp; try with_reducible rfl)
                    try simp only [Act.put, List.setIfInBounds_toArray, List.set_cons_zero, List.set_cons_succ]
                    refine takeL (i := 3) (v := ?v3_4) rfl (by kernel_rfl) (by kernel_rfl) (by kernel_rfl) (fun _ _ _ h => nomatch h.1) (Or.inl ⟨by rfl, ?hy3_4⟩) (by assumption) ?_
                    case hy3_4 => (intro w hSw; (try dsimp only at hSw); go_simp; try with_reducible rfl)
                    try simp only [Act.put, List.setIfInBounds_toArray, List.set_cons_zero, List.set_cons_succ]
                    refine takeL (i := 4) (v := (.int .i64 (l.length : Int))) rfl (by kernel_rfl) (by kernel_rfl) (by kernel_rfl) (fun _ _ _ h => nomatch h.1) (Or.inl ⟨by rfl, ?hy4_5⟩) (by assumption) ?_
                    case hy4_5 => (intro w hSw; (try dsimp only at hSw); go_simp; try with_reducible rfl)
                    try simp only [Act.put, List.setIfInBounds_toArray, List.set_cons_zero, List.set_cons_succ]
                    refine takeL (i := 5) (v := (.slice A l.length l.length)) rfl (by kernel_rfl) (by kernel_rfl) (by kernel_rfl) (fun _ _ _ h => nomatch h.1) (Or.inl ⟨by rfl, ?hy5_6⟩) (by assumption) ?_
                    case hy5_6 => (intro w hSw; (try dsimp only at hSw); go_simp; try with_reducible rfl)
                    try simp only [Act.put, List.setIfInBounds_toArray, List.set_cons_zero, List.set_cons_succ]
                    refine takeL (i := 6) (v := (.agg #[.int .i64 h.ct, .int .i64 h.beg, .int .i64 h.fin, .int .i64 h.arr])) rfl (by kernel_rfl) (by kernel_rfl) (by kernel_rfl) (fun _ _ _ h => nomatch h.1) (Or.inl ⟨by rfl, ?hy6_7⟩) (by assumption) ?_
                    case hy6_7 => (intro w hSw; (try dsimp only at hSw); go_simp; try with_reducible rfl)
                    try simp only [Act.put, List.setIfInBounds_toArray, List.set_cons_zero, List.set_cons_succ]
                    refine readyL_one (i := 7) rfl (by kernel_rfl) (by rfl) (fun K hK => ?_)
                    go_simp
                    have HB8 : Hid (Below V.heap.size V (V.alloc (.cells #[.int .i64 h.ct, .int .i64 h.beg, .int .i64 h.fin, .int .i64 h.arr] 41))) := (Below.refl _ _).alloc (Nat.le_refl _) _
                    have HN8 : Hid (∀ j u, (hpE.f h)[j]? = some u → (V.alloc (.cells #[.int .i64 h.ct, .int .i64 h.beg, .int .i64 h.fin, .int .i64 h.arr] 41)).cell? ((⟨V.heap.size, 0, none⟩ : Addr).add j) = some u) := fun j u hu => by rw [Addr.add_mid, Nat.zero_add]; exact new_at _ [.int .i64 h.ct, .int .i64 h.beg, .int .i64 h.fin, .int .i64 h.arr] _ rfl j u hu
                    refine hK _ _ (HSF.out _ (HHB7.out.below HB8.out HHB7.out.lt)) (fun hHeld => ?_)
                    clear hK K
                    try simp only [Act.put, List.setIfInBounds_toArray, List.set_cons_zero, List.set_cons_succ]
                    refine readyL_one (i := 8) rfl (by kernel_rfl) (by rfl) (fun K hK => ?_)
                    generalize hX : (V.alloc (.cells #[.int .i64 h.ct, .int .i64 h.beg, .int .i64 h.fin, .int .i64 h.arr] 41)) = X at HB8 HN8 hHeld ⊢
                    clear hX
                    generalize hp1 : V.heap.size = p1 at HN8 ⊢
                    refine wp_append_hops (.tmp 73) (.tmp 75) rfl A l (HSA7.out.below HB8.out) HNIL.out rfl ⟨p1, 0, none⟩ h rfl HN8.out (by have := HLD.out; omega) (fun g c9 w9 hs9 hc9 hcm9 hg9 hgl9 hb9 => ?_)
                    have hbb : Below V.heap.size V w9 := below_next HB8.out hb9
                    have HV9 := Lib.hid (HV7.out.below hbb)
                    have HG9 : Hid (W.grownBy w9 (some LB)) := HG7.out.trans (grown_below hbb _)
                    have HGG9 : Hid (w3.grownBy w9 (some LB)) := HGG7.out.trans (grown_below hbb _)
                    have HCB9 := Lib.hid (HCB7.out.below hbb HCB7.out.lt)
                    have HHB9 := Lib.hid (HHB7.out.below hbb HHB7.out.lt)
                    have HS9 := Lib.hid hs9
                    have HC9 := Lib.hid (And.intro hc9 hcm9)
                    have HGL9 : Hid (LB < g) := by obtain ⟨n, hn⟩ := (HV7.out.below HB8.out).lf; have h1 := hn.lt; show _ < _; omega
                    refine hK _ _ (HSF.out _ HHB9.out) (fun hHeld => ?_)
                    clear hK K hs9 hc9 hcm9 hg9 hgl9 hb9 hbb HV7 HG7 HGG7 HCB7 HHB7 HSA7 HB8 HN8
                    try simp only [Act.put, List.setIfInBounds_toArray, List.set_cons_zero, List.set_cons_succ]
                    refine takeL (i := 9) (v := (.slice (some ⟨g, 0, none⟩) (l.length + 1) c9)) rfl (by kernel_rfl) (by kernel_rfl) (by kernel_rfl) (fun _ _ _ h => nomatch h.1) (Or.inl ⟨by rfl, ?hy9_8⟩) (by assumption) ?_
                    case hy9_8 => (intro w hSw; (try dsimp only at hSw); go_simp; try with_reducible rfl)
                    try simp only [Act.put, List.setIfInBounds_toArray, List.set_cons_zero, List.set_cons_succ]
                    refine doneL (by kernel_rfl) ?_
                    clear hHeld HSF hlc hlc2
                    have hln : (l ++ [h]).length = l.length + 1 := by rw [List.length_append]; rfl
                    have cd : w9.cell? ⟨CB, 1, none⟩ = some (.int .i64 c.dst) := HCB9.out.cell 1
                    have rd : w9.cell? ⟨R5, 1, none⟩ = some (.int .i64 q.dst) := HV9.out.r5.cell 1
                    by_cases hdst : c.dst = q.dst
                    · have d5 : (c.dst == q.dst) = true := by simpa using hdst
                      have d6 : (c.dst != q.dst) = false := by simpa using hdst
                      have vv : w9.cell? ⟨V7, 0, none⟩ = some (.func (.func 13) #[] #[.pointer (some ⟨T2, 0, none⟩), .pointer (some ⟨R3, 0, none⟩)]) := HV9.out.v7.cell 0
                      have HVI := Lib.hid (visit_any Aq cq (some ⟨bc, oc, none⟩) cc B cb H ch t q T2 R3 (some ⟨g, 0, none⟩) c9 (l ++ [h]) w9 (HT.out.below HV9.out.be) HOK.out HV9.out.t2 HV9.out.r3 HS9.out (by rw [hln]; have := HLD.out; omega) (HNO.out _ (by simp) (by rw [lastArr_snoc]; exact HAR.out)))
                      rw [hln] at HVI
                      clear hdst hln
                      go_wp2_with fail
                      clear vv cd rd
                      refine HVI.out.mono ?_
                      rintro e w10 ⟨rfl, hb10⟩
                      have HVA := Lib.hid (HV9.out.below hb10)
                      have HGA : Hid (W.grownBy w10 (some LB)) := HG9.out.trans (grown_below hb10 _)
                      have HGGA : Hid (w3.grownBy w10 (some LB)) := HGG9.out.trans (grown_below hb10 _)
                      have cd : w10.cell? ⟨CB, 1, none⟩ = some (.int .i64 c.dst) := (HCB9.out.below hb10 HCB9.out.lt).cell 1
                      have rd : w10.cell? ⟨R5, 1, none⟩ = some (.int .i64 q.dst) := HVA.out.r5.cell 1
                      clear hb10 HVI HV9 HG9 HGG9 HCB9
                      go_wp2
                      go_roundw
                      case rel => exact ⟨m + 1, by omega, by go_num, HVA.out, HGA.out, HGGA.out⟩
                      case measure => simp [intOf]; omega
                    · have d5 : (c.dst == q.dst) = false := by simpa using hdst
                      have d6 : (c.dst != q.dst) = true := by simpa using hdst
                      have kk : w9.cell? ⟨K10, 0, none⟩ = some (.func (.func 39) #[] #[.pointer (some ⟨LB, 0, none⟩), .pointer (some ⟨T4, 0, none⟩), .pointer (some ⟨R5, 0, none⟩), .pointer (some ⟨B6, 0, none⟩), .pointer (some ⟨V7, 0, none⟩), .pointer (some ⟨K10, 0, none⟩)]) := HV9.out.k10.cell 0
                      have ha3 : w9.cell? ⟨HB, 3, none⟩ = some (.int .i64 h.arr) := HHB9.out.cell 3
                      have HWK := Lib.hid (IH.out (some ⟨g, 0, none⟩) c9 (l ++ [h]) c.dst h.arr w9 (by rw [hln]; have := HLD.out; omega) HV9.out HS9.out (fun e => by simp at e) (by rw [hln]; exact HC9.out.1) HC9.out.2 (fun a _ ha => by cases ha; have := HGL9.out; show g ≠ LB; omega))
                      rw [hln] at HWK
                      clear hdst hln
                      go_wp2_with fail
                      clear kk cd rd ha3
                      refine HWK.out.mono ?_
                      rintro e w10 ⟨rfl, hg10, hl10⟩
                      have HVA := Lib.hid (HV9.out.grown hg10 hl10)
                      have HGA : Hid (W.grownBy w10 (some LB)) := HG9.out.trans hg10
                      have HGGA : Hid (w3.grownBy w10 (some LB)) := HGG9.out.trans hg10
                      clear hg10 hl10 HWK HV9 HG9 HGG9 HCB9
                      go_wp2
                      go_roundw
                      case rel => exact ⟨m + 1, by omega, by go_num, HVA.out, HGA.out, HGGA.out⟩
                      case measure => simp [intOf]; omega
                · have d3 : (q1 != 0) = true := by simpa using hq
                  go_wp2
                  go_roundw
                  case rel => exact ⟨m + 1, by omega, by go_num, HV6.out, HG6.out, HGG6.out⟩
                  case measure => simp [intOf]; omega
              · go_wp2
                go_roundw
                case rel => exact ⟨k + 1, by omega, by go_num, HV.out, HG.out⟩
                case measure => simp [intOf]; omega
          · have d2 : (c.src != node) = true := by simpa using hsn
            go_wp2
            go_roundw
            case rel => exact ⟨k + 1, by omega, by go_num, HV2.out, HG2.out⟩
            case measure => simp [intOf]; omega
        · go_wp2
          go_ret
          have hl := HV.out.lf
          exact ⟨rfl, HG.out, hl⟩
end Go.Proofs.YtebkgbmijocdjaaGreat.Tp
