/- route.holds of the program, walked. Condition: the plan and the hops lie in memory, the hops are a way. -/
import Derived.Test.YtebkgbmijocdjaaGreatTpChk
import Derived.Test.YtebkgbmijocdjaaGreatTpSrtK
namespace Go.Proofs.YtebkgbmijocdjaaGreat.Tp
open Go Go.RowKit
attribute [local go_sem] Oper.semAt_some

/-- the holds of a row of places, from a time on -/
def holdsP (p : Pln) (q : Rq) (tk : Int) : Int → List Plc → List Hld
  | _, [] => []
  | f, x :: l => ⟨x.node, f, leaveF q.cust (p.c.getD x.hop.ct.toNat ⟨0, 0, 0, 0, 0, 0, 0⟩) x.hop, q.size, tk⟩ :: holdsP p q tk x.hop.beg l
/-- the time behind a row of places -/
def lastB : Int → List Plc → Int
  | f, [] => f
  | _, x :: l => lastB x.hop.beg l
theorem holdsP_snoc (p : Pln) (q : Rq) (tk : Int) (x : Plc) : ∀ (l : List Plc) (f : Int), holdsP p q tk f (l ++ [x]) = holdsP p q tk f l ++ [⟨x.node, lastB f l, leaveF q.cust (p.c.getD x.hop.ct.toNat ⟨0, 0, 0, 0, 0, 0, 0⟩) x.hop, q.size, tk⟩]
  | [], _ => rfl
  | y :: l, f => by
    rw [List.cons_append, holdsP, holdsP_snoc p q tk x l]
    rfl
theorem lastB_snoc (x : Plc) : ∀ (l : List Plc) (f : Int), lastB f (l ++ [x]) = x.hop.beg
  | [], _ => rfl
  | y :: l, f => by rw [List.cons_append, lastB, lastB_snoc x l]
theorem holdsP_len (p : Pln) (q : Rq) (tk : Int) : ∀ (l : List Plc) (f : Int), (holdsP p q tk f l).length = l.length
  | [], _ => rfl
  | x :: l, f => by rw [holdsP, List.length_cons, holdsP_len p q tk l, List.length_cons]
/-- of a way: the holds that were defined over its hops -/
theorem holdsP_way {p : Pln} {q : Rq} {tk : Int} : ∀ {l : List Hop} {n a f : Int}, wayChk p q n a l → holdsP p q tk f (plcF p n a l) = (holdsW p.c q.cust n f l).map fun k => ⟨k.node, k.frm, k.til, q.size, tk⟩
  | [], n, a, f, _ => rfl
  | h :: l, n, a, f, ⟨c, hc, _, _, _, _, _, _, hw⟩ => by
    rw [plcF, if_pos hc.1, hc.2, holdsP, holdsW, hc.2, List.map_cons]
    simp only
    rw [holdsP_way hw, List.getD_eq_getElem?_getD, hc.2]
    rfl
theorem plcF_len {p : Pln} {q : Rq} : ∀ {l : List Hop} {n a : Int}, wayChk p q n a l → (plcF p n a l).length = l.length
  | [], n, a, _ => rfl
  | h :: l, n, a, ⟨c, hc, _, _, _, _, _, _, hw⟩ => by rw [plcF, if_pos hc.1, hc.2, List.length_cons, List.length_cons]; simp only; rw [plcF_len hw]

theorem own_row_own {β : Type} {B g base k : Nat} {t t' : TypeId} {n : β → Nat} {xs : β → List Value} : OwnFrom B (fun (s : β) W => ∃ v, Bk W g t #[v] ∧ W.ownsRow base t' k v (n s) (xs s)) := by
  rintro s W W' row ⟨v, h1, h2⟩ hg hr
  refine ⟨v, ownFrom_bk (β := Unit) _ _ _ _ () _ _ row h1 hg hr, h2.kept hg ?_⟩
  rcases h2.2 with ⟨rfl, _⟩ | ⟨b', cap, cur, rfl, _, hb, _⟩
  · exact .inl rfl
  · refine .inr fun e => ?_
    obtain ⟨_, o, ho, hc⟩ := hr b' e.symm
    rw [hb] at ho
    cases ho
    cases hc
theorem blind_row {β : Type} {B g base k : Nat} {t t' : TypeId} {n : β → Nat} {xs : β → List Value} (hB : B < base) (hg : g ≠ B) : Blind B (fun (s : β) W => ∃ v, Bk W g t #[v] ∧ W.ownsRow base t' k v (n s) (xs s)) := by
  rintro s W o u ⟨v, h1, h2⟩
  refine ⟨v, h1.other hg _, h2.kept (grown_put W B o u) ?_⟩
  cases hv : v.ownBlock with
  | none => exact .inl rfl
  | some b =>
    refine .inr fun e => ?_
    have := (h2.lt b hv).1
    simp at e
    omega
theorem bk_not_row {W : World} {B : Nat} {t e : TypeId} {cs : Array Value} (h : Bk W B t cs) (hte : t ≠ e) {base size k : Nat} {v : Value} {xs : List Value} (hr : W.ownsRow base e size v k xs) : some B ≠ v.ownBlock := by
  rcases hr.2 with ⟨rfl, _⟩ | ⟨g, cap, cur, rfl, _, hgb, _⟩
  · simp [Value.ownBlock]
  · intro e'
    obtain rfl : B = g := by simpa [Value.ownBlock] using e'
    have := (show W.heap[B]? = _ from h).symm.trans hgb
    simp at this
    exact hte this.2
set_option maxHeartbeats 1000000 in
theorem hold_fin {g0 base b : Nat} {w W w7 w8 : World} {Aq Ac A1 : Option Addr} {cq cc c1 : Nat} {p : Pln} {q : Rq} {tk : Int} {pre : List Plc} {x : Plc} {c : Ct} {v' : Value} (hgd : p.c.getD x.hop.ct.toNat ⟨0, 0, 0, 0, 0, 0, 0⟩ = c) (hgb : g0 + 5 ≤ b) (hb0 : g0 + 5 ≤ base) (hbW : base ≤ W.heap.size)
    (hA : Bk W g0 25 #[.slice Aq p.q.length cq, .slice Ac p.c.length cc] ∧ Bk W (g0 + 1) 31 #[.int .i64 q.src, .int .i64 q.dst, .int .i64 q.size, .int .i64 q.ready, .int .i64 q.dead, .int .i64 q.prio, .bool q.cust] ∧ Bk W (g0 + 2) 3 #[.int .i64 tk] ∧ Bk W (g0 + 4) 3 #[.int .i64 (lastB q.ready pre)] ∧ Bk W b 158 #[.int .i64 x.node, .int .i64 x.time] ∧ Bk W (b + 1) 41 #[.int .i64 x.hop.ct, .int .i64 x.hop.beg, .int .i64 x.hop.fin, .int .i64 x.hop.arr]) (hO : Bk W (g0 + 3) 27 #[.slice A1 (holdsP p q tk q.ready pre).length c1])
    (hR : W.ownsRow base 99 hdE.k (.slice A1 (holdsP p q tk q.ready pre).length c1) (holdsP p q tk q.ready pre).length ((holdsP p q tk q.ready pre).flatMap hdE.f)) (hw : Below g0 w W)
    (h7 : Below W.heap.size W w7) (h8 : w7.grownBy w8 (Value.slice A1 (holdsP p q tk q.ready pre).length c1).ownBlock)
    (hR8 : w8.ownsRow base 99 hdE.k v' ((holdsP p q tk q.ready pre).length + 1) ((holdsP p q tk q.ready pre).flatMap hdE.f ++ [.int .i64 x.node, .int .i64 (lastB q.ready pre), .int .i64 (leaveF q.cust c x.hop), .int .i64 q.size, .int .i64 tk])) :
    ((Bk w8 g0 25 #[.slice Aq p.q.length cq, .slice Ac p.c.length cc] ∧ Bk w8 (g0 + 1) 31 #[.int .i64 q.src, .int .i64 q.dst, .int .i64 q.size, .int .i64 q.ready, .int .i64 q.dead, .int .i64 q.prio, .bool q.cust] ∧ Bk w8 (g0 + 2) 3 #[.int .i64 tk] ∧ Bk w8 (g0 + 4) 3 #[.int .i64 (lastB q.ready pre)] ∧ Bk w8 b 158 #[.int .i64 x.node, .int .i64 x.time] ∧ Bk w8 (b + 1) 41 #[.int .i64 x.hop.ct, .int .i64 x.hop.beg, .int .i64 x.hop.fin, .int .i64 x.hop.arr]) ∧ Bk w8 (g0 + 3) 27 #[.slice A1 (holdsP p q tk q.ready pre).length c1]) ∧ (Bk (w8.setCell ⟨g0 + 3, 0, none⟩ v') g0 25 #[.slice Aq p.q.length cq, .slice Ac p.c.length cc] ∧ Bk (w8.setCell ⟨g0 + 3, 0, none⟩ v') (g0 + 1) 31 #[.int .i64 q.src, .int .i64 q.dst, .int .i64 q.size, .int .i64 q.ready, .int .i64 q.dead, .int .i64 q.prio, .bool q.cust] ∧ Bk (w8.setCell ⟨g0 + 3, 0, none⟩ v') (g0 + 2) 3 #[.int .i64 tk] ∧ Bk (w8.setCell ⟨g0 + 3, 0, none⟩ v') (g0 + 4) 3 #[.int .i64 (lastB q.ready pre)] ∧ Bk (w8.setCell ⟨g0 + 3, 0, none⟩ v') b 158 #[.int .i64 x.node, .int .i64 x.time] ∧ Bk (w8.setCell ⟨g0 + 3, 0, none⟩ v') (b + 1) 41 #[.int .i64 x.hop.ct, .int .i64 x.hop.beg, .int .i64 x.hop.fin, .int .i64 x.hop.arr]) ∧ KeepsOthers W ((w8.setCell ⟨g0 + 3, 0, none⟩ v').setCell ⟨g0 + 4, 0, none⟩ (.int .i64 x.hop.beg)) ∧ KpT g0 W ((w8.setCell ⟨g0 + 3, 0, none⟩ v').setCell ⟨g0 + 4, 0, none⟩ (.int .i64 x.hop.beg)) ∧ (Bk ((w8.setCell ⟨g0 + 3, 0, none⟩ v').setCell ⟨g0 + 4, 0, none⟩ (.int .i64 x.hop.beg)) g0 25 #[.slice Aq p.q.length cq, .slice Ac p.c.length cc] ∧ Bk ((w8.setCell ⟨g0 + 3, 0, none⟩ v').setCell ⟨g0 + 4, 0, none⟩ (.int .i64 x.hop.beg)) (g0 + 1) 31 #[.int .i64 q.src, .int .i64 q.dst, .int .i64 q.size, .int .i64 q.ready, .int .i64 q.dead, .int .i64 q.prio, .bool q.cust] ∧ Bk ((w8.setCell ⟨g0 + 3, 0, none⟩ v').setCell ⟨g0 + 4, 0, none⟩ (.int .i64 x.hop.beg)) (g0 + 2) 3 #[.int .i64 tk]) ∧ (∃ v, Bk ((w8.setCell ⟨g0 + 3, 0, none⟩ v').setCell ⟨g0 + 4, 0, none⟩ (.int .i64 x.hop.beg)) (g0 + 3) 27 #[v] ∧ ((w8.setCell ⟨g0 + 3, 0, none⟩ v').setCell ⟨g0 + 4, 0, none⟩ (.int .i64 x.hop.beg)).ownsRow base 99 hdE.k v (holdsP p q tk q.ready (pre ++ [x])).length ((holdsP p q tk q.ready (pre ++ [x])).flatMap hdE.f)) ∧ Bk ((w8.setCell ⟨g0 + 3, 0, none⟩ v').setCell ⟨g0 + 4, 0, none⟩ (.int .i64 x.hop.beg)) (g0 + 4) 3 #[.int .i64 (lastB q.ready (pre ++ [x]))] ∧ Below g0 w ((w8.setCell ⟨g0 + 3, 0, none⟩ v').setCell ⟨g0 + 4, 0, none⟩ (.int .i64 x.hop.beg)) := by
  obtain ⟨m1, m2, m3, m5, m7, m8⟩ := hA
  have hR7 := row_next hR h7
  have up : ∀ {g : Nat} {t : TypeId} {cs : Array Value}, t ≠ 99 → Bk W g t cs → Bk w8 g t cs := fun {g t cs} ht hb =>
    (hb.below h7 hb.lt).grown h8 (bk_not_row (hb.below h7 hb.lt) ht hR7)
  have n1 := up (by decide) m1
  have n2 := up (by decide) m2
  have n3 := up (by decide) m3
  have n5 := up (by decide) m5
  have n7 := up (by decide) m7
  have n8 := up (by decide) m8
  have nO := up (by decide) hO
  have ot : ∀ {g i : Nat} {t : TypeId} {cs : Array Value} {V : World} {u : Value} {h : Nat}, g ≠ h → Bk V g t cs → Bk (V.setCell ⟨h, i, none⟩ u) g t cs := fun {g i t cs V u h} hne hb => hb.other (p := ⟨h, i, none⟩) hne _
  refine ⟨⟨⟨n1, n2, n3, n5, n7, n8⟩, nO⟩, ⟨ot (by omega) n1, ot (by omega) n2, ot (by omega) n3, ot (by omega) n5, ot (by omega) n7, ot (by omega) n8⟩, ?_, ⟨?_, ?_⟩, ⟨ot (by omega) (ot (by omega) n1), ot (by omega) (ot (by omega) n2), ot (by omega) (ot (by omega) n3)⟩, ⟨v', ot (by omega) (nO.put 0 v'), ?_⟩, ?_, ?_⟩
  · refine (((keepsOthers_of h7).trans (KeepsOthers.of_grownBy h8 fun j o ej hj => ?_)).trans (KeepsOthers.setCell _ _ _)).trans (KeepsOthers.setCell _ _ _)
    rcases hR7.2 with ⟨e, _⟩ | ⟨g, cap, cur, e, _, hgb', _⟩
    · rw [e] at ej; simp [Value.ownBlock] at ej
    · rw [e] at ej
      obtain rfl : g = j := by simpa [Value.ownBlock] using ej
      rw [hgb'] at hj
      cases hj
      rfl
  · refine ((((Below.refl g0 W).trans (h7.mono (by omega))).grown h8 (by have := h7.size; omega) (fun k e => ?_)).setCell (p := ⟨g0 + 3, 0, none⟩) (by show g0 ≤ g0 + 3; omega) _).setCell (p := ⟨g0 + 4, 0, none⟩) (by show g0 ≤ g0 + 4; omega) _
    have := (hR7.lt k e).1
    omega
  · intro k cs t ht hb
    have hne : t ≠ 99 ∧ t ≠ 27 ∧ t ≠ 3 := by rcases ht with rfl | rfl | rfl | rfl | rfl <;> decide
    have d3 : k ≠ g0 + 3 := fun e => by subst e; have := (show W.heap[g0 + 3]? = _ from hb).symm.trans hO; simp at this; exact hne.2.1 this.2
    have d4 : k ≠ g0 + 4 := fun e => by subst e; have := (show W.heap[g0 + 4]? = _ from hb).symm.trans m5; simp at this; exact hne.2.2 this.2
    exact ot d4 (ot d3 (up hne.1 hb))
  · have e : (holdsP p q tk q.ready (pre ++ [x])).flatMap hdE.f = (holdsP p q tk q.ready pre).flatMap hdE.f ++ [.int .i64 x.node, .int .i64 (lastB q.ready pre), .int .i64 (leaveF q.cust c x.hop), .int .i64 q.size, .int .i64 tk] := by
      rw [holdsP_snoc, hgd, List.flatMap_append]
      rfl
    have e2 : (holdsP p q tk q.ready (pre ++ [x])).length = (holdsP p q tk q.ready pre).length + 1 := by rw [holdsP_snoc, List.length_append]; rfl
    rw [e, e2]
    have r1 : (w8.setCell ⟨g0 + 3, 0, none⟩ v').ownsRow base 99 hdE.k v' ((holdsP p q tk q.ready pre).length + 1) ((holdsP p q tk q.ready pre).flatMap hdE.f ++ [.int .i64 x.node, .int .i64 (lastB q.ready pre), .int .i64 (leaveF q.cust c x.hop), .int .i64 q.size, .int .i64 tk]) := hR8.kept (grown_put w8 (g0 + 3) 0 v') (.inr (bk_not_row nO (by decide) hR8).symm)
    exact r1.kept (grown_put _ (g0 + 4) 0 _) (.inr (bk_not_row (ot (by omega) n5 : Bk (w8.setCell ⟨g0 + 3, 0, none⟩ v') (g0 + 4) 3 #[.int .i64 (lastB q.ready pre)]) (by decide) r1).symm)
  · rw [lastB_snoc]
    exact (ot (by omega) n5 : Bk (w8.setCell ⟨g0 + 3, 0, none⟩ v') (g0 + 4) 3 #[.int .i64 (lastB q.ready pre)]).put 0 _
  · refine (((hw.trans (h7.mono (by omega))).grown h8 (by have := h7.size; omega) (fun k e => ?_)).setCell (p := ⟨g0 + 3, 0, none⟩) (by show g0 ≤ g0 + 3; omega) _).setCell (p := ⟨g0 + 4, 0, none⟩) (by show g0 ≤ g0 + 4; omega) _
    have := (hR7.lt k e).1
    omega
set_option maxHeartbeats 8000000 in
set_option maxRecDepth 100000 in
theorem holds_any (Aq : Option Addr) (cq : Nat) (Ac : Option Addr) (cc : Nat) (p : Pln) (q : Rq) (A : Option Addr) (cA : Nat) (l : List Hop) (tk : Int) (w : World) (hp : PlnAt w Aq cq Ac cc p) (hl : SlAt hpE w A l) (hr : RouteOK p q l) :
    Calls Tryz.prog 35 #[.agg #[.slice Aq p.q.length cq, .slice Ac p.c.length cc], .agg #[.int .i64 q.src, .int .i64 q.dst, .int .i64 q.size, .int .i64 q.ready, .int .i64 q.dead, .int .i64 q.prio, .bool q.cust], .slice A l.length cA, .int .i64 tk] w fun e w' => ∃ L, L.Perm (holdsL p q l tk) ∧ RetSl hdE L w e w' := by
  have HP := Lib.hid hp
  have HL := Lib.hid hl
  have HR := Lib.hid hr
  clear hp hl hr
  refine (callsIn_wide (n := 8)).1 ?_
  refine callsIn_of_wp_marks Tryz.func35 rfl trivial ?_ rfl
  simp only [Tryz.ntmps35, List.size_toArray, List.length_cons, List.length_nil, Nat.reduceAdd, Nat.reduceSub, Array.replicate_succ, Array.replicate_zero, List.push_toArray, List.append_toArray, List.nil_append, List.cons_append]
  gi_wp2_with fail
  have HB0 : Hid (Below w.heap.size w (((((w.alloc (.cells #[.slice Aq p.q.length cq, .slice Ac p.c.length cc] 25)).alloc (.cells #[.int .i64 q.src, .int .i64 q.dst, .int .i64 q.size, .int .i64 q.ready, .int .i64 q.dead, .int .i64 q.prio, .bool q.cust] 31)).alloc (.cells #[.int .i64 tk] 3)).alloc (.cells #[.slice none 0 0] 27)).alloc (.cells #[.int .i64 q.ready] 3))) := (((((Below.refl _ _).alloc (Nat.le_refl _) _).alloc (by simp) _).alloc (by simp; omega) _).alloc (by simp; omega) _).alloc (by simp; omega) _
  have HK0 : Hid (Bk (((((w.alloc (.cells #[.slice Aq p.q.length cq, .slice Ac p.c.length cc] 25)).alloc (.cells #[.int .i64 q.src, .int .i64 q.dst, .int .i64 q.size, .int .i64 q.ready, .int .i64 q.dead, .int .i64 q.prio, .bool q.cust] 31)).alloc (.cells #[.int .i64 tk] 3)).alloc (.cells #[.slice none 0 0] 27)).alloc (.cells #[.int .i64 q.ready] 3)) w.heap.size 25 #[.slice Aq p.q.length cq, .slice Ac p.c.length cc]) := ((((Bk.new w _ _).alloc _).alloc _).alloc _).alloc _
  have HK1 : Hid (Bk (((((w.alloc (.cells #[.slice Aq p.q.length cq, .slice Ac p.c.length cc] 25)).alloc (.cells #[.int .i64 q.src, .int .i64 q.dst, .int .i64 q.size, .int .i64 q.ready, .int .i64 q.dead, .int .i64 q.prio, .bool q.cust] 31)).alloc (.cells #[.int .i64 tk] 3)).alloc (.cells #[.slice none 0 0] 27)).alloc (.cells #[.int .i64 q.ready] 3)) (w.heap.size + 1) 31 #[.int .i64 q.src, .int .i64 q.dst, .int .i64 q.size, .int .i64 q.ready, .int .i64 q.dead, .int .i64 q.prio, .bool q.cust]) := by
    have h := Bk.new (w.alloc (.cells #[.slice Aq p.q.length cq, .slice Ac p.c.length cc] 25)) 31 #[.int .i64 q.src, .int .i64 q.dst, .int .i64 q.size, .int .i64 q.ready, .int .i64 q.dead, .int .i64 q.prio, .bool q.cust]
    rw [World.size_alloc] at h
    exact ((h.alloc _).alloc _).alloc _
  have HK2 : Hid (Bk (((((w.alloc (.cells #[.slice Aq p.q.length cq, .slice Ac p.c.length cc] 25)).alloc (.cells #[.int .i64 q.src, .int .i64 q.dst, .int .i64 q.size, .int .i64 q.ready, .int .i64 q.dead, .int .i64 q.prio, .bool q.cust] 31)).alloc (.cells #[.int .i64 tk] 3)).alloc (.cells #[.slice none 0 0] 27)).alloc (.cells #[.int .i64 q.ready] 3)) (w.heap.size + 2) 3 #[.int .i64 tk]) := by
    have h := Bk.new ((w.alloc (.cells #[.slice Aq p.q.length cq, .slice Ac p.c.length cc] 25)).alloc (.cells #[.int .i64 q.src, .int .i64 q.dst, .int .i64 q.size, .int .i64 q.ready, .int .i64 q.dead, .int .i64 q.prio, .bool q.cust] 31)) 3 #[.int .i64 tk]
    rw [World.size_alloc, World.size_alloc] at h
    exact (h.alloc _).alloc _
  have HK3 : Hid (Bk (((((w.alloc (.cells #[.slice Aq p.q.length cq, .slice Ac p.c.length cc] 25)).alloc (.cells #[.int .i64 q.src, .int .i64 q.dst, .int .i64 q.size, .int .i64 q.ready, .int .i64 q.dead, .int .i64 q.prio, .bool q.cust] 31)).alloc (.cells #[.int .i64 tk] 3)).alloc (.cells #[.slice none 0 0] 27)).alloc (.cells #[.int .i64 q.ready] 3)) (w.heap.size + 3) 27 #[.slice none 0 0]) := by
    have h := Bk.new (((w.alloc (.cells #[.slice Aq p.q.length cq, .slice Ac p.c.length cc] 25)).alloc (.cells #[.int .i64 q.src, .int .i64 q.dst, .int .i64 q.size, .int .i64 q.ready, .int .i64 q.dead, .int .i64 q.prio, .bool q.cust] 31)).alloc (.cells #[.int .i64 tk] 3)) 27 #[.slice none 0 0]
    rw [World.size_alloc, World.size_alloc, World.size_alloc] at h
    exact h.alloc _
  have HK4 : Hid (Bk (((((w.alloc (.cells #[.slice Aq p.q.length cq, .slice Ac p.c.length cc] 25)).alloc (.cells #[.int .i64 q.src, .int .i64 q.dst, .int .i64 q.size, .int .i64 q.ready, .int .i64 q.dead, .int .i64 q.prio, .bool q.cust] 31)).alloc (.cells #[.int .i64 tk] 3)).alloc (.cells #[.slice none 0 0] 27)).alloc (.cells #[.int .i64 q.ready] 3)) (w.heap.size + 4) 3 #[.int .i64 q.ready]) := by
    have h := Bk.new ((((w.alloc (.cells #[.slice Aq p.q.length cq, .slice Ac p.c.length cc] 25)).alloc (.cells #[.int .i64 q.src, .int .i64 q.dst, .int .i64 q.size, .int .i64 q.ready, .int .i64 q.dead, .int .i64 q.prio, .bool q.cust] 31)).alloc (.cells #[.int .i64 tk] 3)).alloc (.cells #[.slice none 0 0] 27)) 3 #[.int .i64 q.ready]
    rwa [World.size_alloc, World.size_alloc, World.size_alloc, World.size_alloc] at h
  have HHS : Hid ((((((w.alloc (.cells #[.slice Aq p.q.length cq, .slice Ac p.c.length cc] 25)).alloc (.cells #[.int .i64 q.src, .int .i64 q.dst, .int .i64 q.size, .int .i64 q.ready, .int .i64 q.dead, .int .i64 q.prio, .bool q.cust] 31)).alloc (.cells #[.int .i64 tk] 3)).alloc (.cells #[.slice none 0 0] 27)).alloc (.cells #[.int .i64 q.ready] 3)).heap.size = w.heap.size + 5) := by show _ = _; simp
  generalize ((((w.alloc (.cells #[.slice Aq p.q.length cq, .slice Ac p.c.length cc] 25)).alloc (.cells #[.int .i64 q.src, .int .i64 q.dst, .int .i64 q.size, .int .i64 q.ready, .int .i64 q.dead, .int .i64 q.prio, .bool q.cust] 31)).alloc (.cells #[.int .i64 tk] 3)).alloc (.cells #[.slice none 0 0] 27)).alloc (.cells #[.int .i64 q.ready] 3) = w1 at HB0 HK0 HK1 HK2 HK3 HK4 HHS ⊢
  generalize hg0 : w.heap.size = g0 at HB0 HK0 HK1 HK2 HK3 HK4 HHS ⊢
  refine ⟨trivial, ?_⟩
  refine (places_in _ Aq cq Ac cc p q A cA l w1).mono ?_
  rintro e w2 ⟨rfl, rfl⟩
  obtain ⟨hbP, hbQ, hbL, hbB, hbS⟩ := plcW_bks w1 Aq cq Ac cc p q A cA l
  have HW0 := Lib.hid (HK0.out.below hbB HK0.out.lt)
  have HW1 := Lib.hid (HK1.out.below hbB HK1.out.lt)
  have HW2 := Lib.hid (HK2.out.below hbB HK2.out.lt)
  have HW3 := Lib.hid (HK3.out.below hbB HK3.out.lt)
  have HW4 := Lib.hid (HK4.out.below hbB HK4.out.lt)
  have HBP : Hid (Below g0 w (plcW w1 Aq cq Ac cc p q A cA l)) := by
    have h1 : Below g0 w w1 := HB0.out
    exact h1.trans (hbB.mono (by have := HHS.out; omega))
  have HHW : Hid (w1.heap.size = g0 + 5 ∧ (plcW w1 Aq cq Ac cc p q A cA l).heap.size = w1.heap.size + 3) := ⟨HHS.out, hbS⟩
  clear HB0 HK0 HK1 HK2 HK3 HK4 HHS
  generalize plcW w1 Aq cq Ac cc p q A cA l = wP at hbP hbQ hbL hbB hbS HW0 HW1 HW2 HW3 HW4 HBP HHW ⊢
  have hlm : l.length ≤ 1000 := HR.out.2.2.1
  gi_wp2_with fail
  refine range_state rfl (by omega) (gf := 144) (lb := #[.pointer (some ⟨w1.heap.size + 1, 0, none⟩), .pointer (some ⟨w1.heap.size + 2, 0, none⟩), .pointer (some ⟨w1.heap.size, 0, none⟩)]) rfl trivial (enters_of Tryz.func144 (by kernel_rfl) rfl)
    (places_state _ (by omega) g0 (w1.heap.size + 1) (w1.heap.size + 2) w1.heap.size A cA l Aq cq Ac cc p q wP (by have := HHW.out; omega) hbQ hbL hbP (fun W' hb => HP.out.below (by rw [hg0]; exact HBP.out.trans hb)) (fun W' hb => HL.out.below (by rw [hg0]; exact HBP.out.trans hb)) (by omega)) KpT.trans (kpT_turn (by have := HHW.out; omega)) (Below.refl _ _) (fun _ => rfl)
    (fun pre W => (Bk W g0 25 #[.slice Aq p.q.length cq, .slice Ac p.c.length cc] ∧ Bk W (g0 + 1) 31 #[.int .i64 q.src, .int .i64 q.dst, .int .i64 q.size, .int .i64 q.ready, .int .i64 q.dead, .int .i64 q.prio, .bool q.cust] ∧ Bk W (g0 + 2) 3 #[.int .i64 tk]) ∧ (∃ v, Bk W (g0 + 3) 27 #[v] ∧ W.ownsRow (wP.heap.size + 3) 99 hdE.k v (holdsP p q tk q.ready pre).length ((holdsP p q tk q.ready pre).flatMap hdE.f)) ∧ Bk W (g0 + 4) 3 #[.int .i64 (lastB q.ready pre)] ∧ Below g0 w W)
    (fun _ _ => False)
    (fun pre x b W => ((Bk W g0 25 #[.slice Aq p.q.length cq, .slice Ac p.c.length cc] ∧ Bk W (g0 + 1) 31 #[.int .i64 q.src, .int .i64 q.dst, .int .i64 q.size, .int .i64 q.ready, .int .i64 q.dead, .int .i64 q.prio, .bool q.cust] ∧ Bk W (g0 + 2) 3 #[.int .i64 tk]) ∧ (∃ v, Bk W (g0 + 3) 27 #[v] ∧ W.ownsRow (wP.heap.size + 3) 99 hdE.k v (holdsP p q tk q.ready pre).length ((holdsP p q tk q.ready pre).flatMap hdE.f)) ∧ Bk W (g0 + 4) 3 #[.int .i64 (lastB q.ready pre)] ∧ Below g0 w W) ∧ Bk W b 158 #[.int .i64 x.node, .int .i64 x.time] ∧ Bk W (b + 1) 41 #[.int .i64 x.hop.ct, .int .i64 x.hop.beg, .int .i64 x.hop.fin, .int .i64 x.hop.arr] ∧ g0 + 5 ≤ b)
    ?oi (fun _ _ _ _ h _ _ => h) ?o1 ?bl ?h0 ?a1 ?assign ?body ?done ?stop
  case stop => exact fun _ _ _ _ _ h _ => h.elim
  case oi =>
    rintro pre W W' row ⟨⟨k1, k2, k3⟩, k4, k5, k6⟩ hg hr
    exact ⟨⟨ownFrom_bk (β := Unit) _ _ _ _ () _ _ row k1 hg hr, ownFrom_bk (β := Unit) _ _ _ _ () _ _ row k2 hg hr, ownFrom_bk (β := Unit) _ _ _ _ () _ _ row k3 hg hr⟩, own_row_own (n := fun pre => (holdsP p q tk q.ready pre).length) (xs := fun pre => (holdsP p q tk q.ready pre).flatMap hdE.f) pre _ _ row k4 hg hr, ownFrom_bk (β := Unit) _ _ _ _ () _ _ row k5 hg hr, ownFrom_below (β := Unit) (by omega) (by have := HHW.out; omega) () _ _ row k6 hg hr⟩
  case o1 =>
    rintro s W W' row ⟨⟨⟨k1, k2, k3⟩, k4, k5, k6⟩, k7, k8, k9⟩ hg hr
    exact ⟨⟨⟨ownFrom_bk (β := Unit) _ _ _ _ () _ _ row k1 hg hr, ownFrom_bk (β := Unit) _ _ _ _ () _ _ row k2 hg hr, ownFrom_bk (β := Unit) _ _ _ _ () _ _ row k3 hg hr⟩, own_row_own (n := fun pre => (holdsP p q tk q.ready pre).length) (xs := fun pre => (holdsP p q tk q.ready pre).flatMap hdE.f) s.1 _ _ row k4 hg hr, ownFrom_bk (β := Unit) _ _ _ _ () _ _ row k5 hg hr, ownFrom_below (β := Unit) (by omega) (by have := HHW.out; omega) () _ _ row k6 hg hr⟩, ownFrom_bk (β := Unit) _ _ _ _ () _ _ row k7 hg hr, ownFrom_bk (β := Unit) _ _ _ _ () _ _ row k8 hg hr, k9⟩
  case bl =>
    rintro pre W o u ⟨⟨k1, k2, k3⟩, k4, k5, k6⟩
    have hz := HHW.out
    exact ⟨⟨k1.other (p := ⟨wP.heap.size + 2, o, none⟩) (by show _ ≠ wP.heap.size + 2; omega) _, k2.other (p := ⟨wP.heap.size + 2, o, none⟩) (by show _ ≠ wP.heap.size + 2; omega) _, k3.other (p := ⟨wP.heap.size + 2, o, none⟩) (by show _ ≠ wP.heap.size + 2; omega) _⟩, blind_row (B := wP.heap.size + 2) (g := g0 + 3) (base := wP.heap.size + 3) (n := fun pre => (holdsP p q tk q.ready pre).length) (xs := fun pre => (holdsP p q tk q.ready pre).flatMap hdE.f) (by omega) (by omega) pre W o u k4, k5.other (p := ⟨wP.heap.size + 2, o, none⟩) (by show _ ≠ wP.heap.size + 2; omega) _, k6.setCell (p := ⟨wP.heap.size + 2, o, none⟩) (by show _ ≤ wP.heap.size + 2; omega) _⟩
  case h0 => exact ⟨⟨HW0.out, HW1.out, HW2.out⟩, ⟨_, HW3.out, World.ownsRow_nil _ _ _ _⟩, HW4.out, HBP.out⟩
  case assign =>
    rintro l' pre x W ⟨⟨k1, k2, k3⟩, ⟨v, k4, k4'⟩, k5, k6⟩ _ hbz hpl
    have HB1 : Hid (Bk ((W.alloc (.cells #[.int .i64 x.node, .int .i64 x.time] 158)).alloc (.cells #[.int .i64 x.hop.ct, .int .i64 x.hop.beg, .int .i64 x.hop.fin, .int .i64 x.hop.arr] 41)) W.heap.size 158 #[.int .i64 x.node, .int .i64 x.time]) := (Bk.new _ _ _).alloc _
    have HB2 : Hid (Bk ((W.alloc (.cells #[.int .i64 x.node, .int .i64 x.time] 158)).alloc (.cells #[.int .i64 x.hop.ct, .int .i64 x.hop.beg, .int .i64 x.hop.fin, .int .i64 x.hop.arr] 41)) (W.heap.size + 1) 41 #[.int .i64 x.hop.ct, .int .i64 x.hop.beg, .int .i64 x.hop.fin, .int .i64 x.hop.arr]) := by
      have h := Bk.new (W.alloc (.cells #[.int .i64 x.node, .int .i64 x.time] 158)) 41 #[.int .i64 x.hop.ct, .int .i64 x.hop.beg, .int .i64 x.hop.fin, .int .i64 x.hop.arr]
      rwa [World.size_alloc] at h
    have hlt := k5.lt
    have HBB : Hid (Below W.heap.size W ((W.alloc (.cells #[.int .i64 x.node, .int .i64 x.time] 158)).alloc (.cells #[.int .i64 x.hop.ct, .int .i64 x.hop.beg, .int .i64 x.hop.fin, .int .i64 x.hop.arr] 41))) := ((Below.refl _ _).alloc (Nat.le_refl _) _).alloc (by simp) _
    gi_wp2
    generalize (W.alloc (.cells #[.int .i64 x.node, .int .i64 x.time] 158)).alloc (.cells #[.int .i64 x.hop.ct, .int .i64 x.hop.beg, .int .i64 x.hop.fin, .int .i64 x.hop.arr] 41) = W2 at HB1 HB2 HBB ⊢
    refine ⟨keepsOthers_of HBB.out, KpT.of_below HBB.out (by omega), ?_⟩
    have HJ : Hid (((Bk W2 g0 25 #[.slice Aq p.q.length cq, .slice Ac p.c.length cc] ∧ Bk W2 (g0 + 1) 31 #[.int .i64 q.src, .int .i64 q.dst, .int .i64 q.size, .int .i64 q.ready, .int .i64 q.dead, .int .i64 q.prio, .bool q.cust] ∧ Bk W2 (g0 + 2) 3 #[.int .i64 tk]) ∧ (∃ v, Bk W2 (g0 + 3) 27 #[v] ∧ W2.ownsRow (wP.heap.size + 3) 99 hdE.k v (holdsP p q tk q.ready pre).length ((holdsP p q tk q.ready pre).flatMap hdE.f)) ∧ Bk W2 (g0 + 4) 3 #[.int .i64 (lastB q.ready pre)] ∧ Below g0 w W2) ∧ Bk W2 W.heap.size 158 #[.int .i64 x.node, .int .i64 x.time] ∧ Bk W2 (W.heap.size + 1) 41 #[.int .i64 x.hop.ct, .int .i64 x.hop.beg, .int .i64 x.hop.fin, .int .i64 x.hop.arr] ∧ g0 + 5 ≤ W.heap.size) :=
      ⟨⟨⟨k1.below HBB.out k1.lt, k2.below HBB.out k2.lt, k3.below HBB.out k3.lt⟩, ⟨v, k4.below HBB.out k4.lt, row_next k4' HBB.out⟩, k5.below HBB.out k5.lt, k6.trans (HBB.out.mono (by omega))⟩, HB1.out, HB2.out, by omega⟩
    clear HB1 HB2 HBB k1 k2 k3 k4 k4' k5 k6 hlt hbz hpl
    generalize W.heap.size = b at HJ ⊢
    refine ⟨b, ?_, HJ.out⟩
    rfl
  case body =>
    rintro l' pre x b W ⟨⟨⟨k1, k2, k3⟩, ⟨v, k4, k4'⟩, k5, k6⟩, k7, k8, k9⟩ hsp hbz hpl
    have hxs : StepOK p q x.node x.time x.hop := (wayChk_iff p q l _ _).1 HR.out.2.2.2.1 x (hsp.subset (by simp))
    obtain ⟨c, ⟨hc0, hc⟩, _, _, _, h4, h5, h6⟩ := hxs
    obtain ⟨i, hi⟩ : ∃ i : Nat, x.hop.ct = (i : Int) := ⟨x.hop.ct.toNat, by omega⟩
    rw [hi, Int.toNat_natCast] at hc
    have hct := (HR.out.1.1.2.2.1 c (List.mem_of_getElem? hc)).1
    have hd := dur_bd hct HR.out.1.2.2.2.2.1.1
    have hcf : 0 ≤ c.beg ∧ c.fin ≤ 1099511627776 ∧ 1 ≤ c.rng ∧ c.rng ≤ 1048576 := by
      have := hct
      unfold CtOK at this
      omega
    have hfin : x.hop.fin = x.hop.beg + dur c q.size := by rw [h6]
    have HLV := Lib.hid (fun W hp => leave_any Aq cq Ac cc p q x.hop i c W hp HR.out.1 hc hi ⟨by omega, by omega⟩)
    have HGD : Hid (p.c.getD x.hop.ct.toNat ⟨0, 0, 0, 0, 0, 0, 0⟩ = c) := by
      show _ = _
      rw [hi, Int.toNat_natCast, List.getD_eq_getElem?_getD, hc]
      rfl
    have HPW : Hid (∀ w', Below W.heap.size W w' → PlnAt w' Aq cq Ac cc p) := fun w' hb => HP.out.below (by rw [hg0]; exact k6.trans (hb.mono (by have := k5.lt; omega)))
    obtain ⟨A1, c1, rfl, hs1, hs2⟩ := sl_of_row (E := hdE) k4'
    have HF : Hid (∀ w', Bk w' g0 25 #[.slice Aq p.q.length cq, .slice Ac p.c.length cc] ∧ Bk w' (g0 + 1) 31 #[.int .i64 q.src, .int .i64 q.dst, .int .i64 q.size, .int .i64 q.ready, .int .i64 q.dead, .int .i64 q.prio, .bool q.cust] ∧ Bk w' (g0 + 2) 3 #[.int .i64 tk] ∧ Bk w' (g0 + 4) 3 #[.int .i64 (lastB q.ready pre)] ∧ Bk w' b 158 #[.int .i64 x.node, .int .i64 x.time] ∧ Bk w' (b + 1) 41 #[.int .i64 x.hop.ct, .int .i64 x.hop.beg, .int .i64 x.hop.fin, .int .i64 x.hop.arr] → ((w'.cell? ⟨b, 0, none⟩ = some (.int .i64 x.node) ∧ w'.cell? ⟨b, 1, none⟩ = some (.int .i64 x.time)) ∧ w'.cell? ⟨g0 + 4, 0, none⟩ = some (.int .i64 (lastB q.ready pre)) ∧ w'.cell? ⟨g0 + 2, 0, none⟩ = some (.int .i64 tk) ∧ (w'.cell? ⟨g0, 0, none⟩ = some (.slice Aq p.q.length cq) ∧ w'.cell? ⟨g0, 1, none⟩ = some (.slice Ac p.c.length cc)) ∧ (w'.cell? ⟨b + 1, 0, none⟩ = some (.int .i64 x.hop.ct) ∧ w'.cell? ⟨b + 1, 1, none⟩ = some (.int .i64 x.hop.beg) ∧ w'.cell? ⟨b + 1, 2, none⟩ = some (.int .i64 x.hop.fin) ∧ w'.cell? ⟨b + 1, 3, none⟩ = some (.int .i64 x.hop.arr)) ∧ w'.cell? ⟨g0 + 1, 0, none⟩ = some (.int .i64 q.src) ∧ w'.cell? ⟨g0 + 1, 1, none⟩ = some (.int .i64 q.dst) ∧ w'.cell? ⟨g0 + 1, 2, none⟩ = some (.int .i64 q.size) ∧ w'.cell? ⟨g0 + 1, 3, none⟩ = some (.int .i64 q.ready) ∧ w'.cell? ⟨g0 + 1, 4, none⟩ = some (.int .i64 q.dead) ∧ w'.cell? ⟨g0 + 1, 5, none⟩ = some (.int .i64 q.prio) ∧ w'.cell? ⟨g0 + 1, 6, none⟩ = some (.bool q.cust))) := fun w' ⟨m1, m2, m3, m5, m7, m8⟩ =>
      ⟨⟨m7.cell 0, m7.cell 1⟩, m5.cell 0, m3.cell 0, ⟨m1.cell 0, m1.cell 1⟩, ⟨m8.cell 0, m8.cell 1, m8.cell 2, m8.cell 3⟩, m2.cell 0, m2.cell 1, m2.cell 2, m2.cell 3, m2.cell 4, m2.cell 5, m2.cell 6⟩
    have HALL : Hid (∀ w', Below W.heap.size W w' → Bk w' g0 25 #[.slice Aq p.q.length cq, .slice Ac p.c.length cc] ∧ Bk w' (g0 + 1) 31 #[.int .i64 q.src, .int .i64 q.dst, .int .i64 q.size, .int .i64 q.ready, .int .i64 q.dead, .int .i64 q.prio, .bool q.cust] ∧ Bk w' (g0 + 2) 3 #[.int .i64 tk] ∧ Bk w' (g0 + 4) 3 #[.int .i64 (lastB q.ready pre)] ∧ Bk w' b 158 #[.int .i64 x.node, .int .i64 x.time] ∧ Bk w' (b + 1) 41 #[.int .i64 x.hop.ct, .int .i64 x.hop.beg, .int .i64 x.hop.fin, .int .i64 x.hop.arr]) := fun w' hb =>
      ⟨k1.below hb k1.lt, k2.below hb k2.lt, k3.below hb k3.lt, k5.below hb k5.lt, k7.below hb k7.lt, k8.below hb k8.lt⟩
    obtain ⟨i0, hi0, hz0, hz1, hz2⟩ := info_parts infohd
    have HI := Lib.hid (And.intro hi0 (And.intro hz0 (And.intro hz1 hz2)))
    have hpl2 : (holdsP p q tk q.ready pre).length ≤ 100000 := by
      have h1 := hsp.length_le
      rw [plcF_len HR.out.2.2.2.1, List.length_append] at h1
      rw [holdsP_len]
      have h2 := HR.out.2.2.1
      omega
    have HPL := Lib.hid hpl2
    have HK1 := Lib.hid k1
    have HK2 := Lib.hid k2
    have HK3 := Lib.hid k3
    have HK4 := Lib.hid k4
    have HK4' := Lib.hid k4'
    have HK5 := Lib.hid k5
    have HK6 := Lib.hid k6
    have HK7 := Lib.hid k7
    have HK8 := Lib.hid k8
    have HK9 := Lib.hid k9
    have HBZ := Lib.hid hbz
    clear hi0 hz0 hz1 hz2 hpl2 hc hi hct hd hcf hfin h4 h5 h6 hc0 k1 k2 k3 k4 k4' k5 k6 k7 k8 k9 hbz hsp hpl hs1 hs2 hbP hbQ hbL hbB hbS HW0 HW1 HW2 HW3 HW4
    gi_wp2_with fail
    refine region_np (S := fun w' => ((w'.cell? ⟨b, 0, none⟩ = some (.int .i64 x.node) ∧ w'.cell? ⟨b, 1, none⟩ = some (.int .i64 x.time)) ∧ w'.cell? ⟨g0 + 4, 0, none⟩ = some (.int .i64 (lastB q.ready pre)) ∧ w'.cell? ⟨g0 + 2, 0, none⟩ = some (.int .i64 tk) ∧ (w'.cell? ⟨g0, 0, none⟩ = some (.slice Aq p.q.length cq) ∧ w'.cell? ⟨g0, 1, none⟩ = some (.slice Ac p.c.length cc)) ∧ (w'.cell? ⟨b + 1, 0, none⟩ = some (.int .i64 x.hop.ct) ∧ w'.cell? ⟨b + 1, 1, none⟩ = some (.int .i64 x.hop.beg) ∧ w'.cell? ⟨b + 1, 2, none⟩ = some (.int .i64 x.hop.fin) ∧ w'.cell? ⟨b + 1, 3, none⟩ = some (.int .i64 x.hop.arr)) ∧ w'.cell? ⟨g0 + 1, 0, none⟩ = some (.int .i64 q.src) ∧ w'.cell? ⟨g0 + 1, 1, none⟩ = some (.int .i64 q.dst) ∧ w'.cell? ⟨g0 + 1, 2, none⟩ = some (.int .i64 q.size) ∧ w'.cell? ⟨g0 + 1, 3, none⟩ = some (.int .i64 q.ready) ∧ w'.cell? ⟨g0 + 1, 4, none⟩ = some (.int .i64 q.dead) ∧ w'.cell? ⟨g0 + 1, 5, none⟩ = some (.int .i64 q.prio) ∧ w'.cell? ⟨g0 + 1, 6, none⟩ = some (.bool q.cust))) (by kernel_rfl) (by kernel_rfl) (HF.out _ (HALL.out _ (Below.refl _ _).drew)) (fun hHeld => ?_)
    refine takeL (i := 1) (v := ?v1) rfl (by kernel_rfl) (by kernel_rfl) (by kernel_rfl) (fun _ _ _ h => nomatch h.1) (Or.inl ⟨by rfl, ?hy1⟩) (by assumption) ?_
    case hy1 => (intro w hSw; (try dsimp only at hSw); go_simp; try with_reducible rfl)
    try simp only [Act.put, List.setIfInBounds_toArray, List.set_cons_zero, List.set_cons_succ]
    refine takeL (i := 2) (v := ?v2) rfl (by kernel_rfl) (by kernel_rfl) (by kernel_rfl) (fun _ _ _ h => nomatch h.1) (Or.inl ⟨by rfl, ?hy2⟩) (by assumption) ?_
    case hy2 => (intro w hSw; (try dsimp only at hSw); go_simp; try with_reducible rfl)
    try simp only [Act.put, List.setIfInBounds_toArray, List.set_cons_zero, List.set_cons_succ]
    refine takeL (i := 3) (v := ?v3) rfl (by kernel_rfl) (by kernel_rfl) (by kernel_rfl) (fun _ _ _ h => nomatch h.1) (Or.inl ⟨by rfl, ?hy3⟩) (by assumption) ?_
    case hy3 => (intro w hSw; (try dsimp only at hSw); go_simp; try with_reducible rfl)
    try simp only [Act.put, List.setIfInBounds_toArray, List.set_cons_zero, List.set_cons_succ]
    refine takeL (i := 4) (v := ?v4) rfl (by kernel_rfl) (by kernel_rfl) (by kernel_rfl) (fun _ _ _ h => nomatch h.1) (Or.inl ⟨by rfl, ?hy4⟩) (by assumption) ?_
    case hy4 => (intro w hSw; (try dsimp only at hSw); go_simp; try with_reducible rfl)
    try simp only [Act.put, List.setIfInBounds_toArray, List.set_cons_zero, List.set_cons_succ]
    refine takeL (i := 5) (v := ?v5) rfl (by kernel_rfl) (by kernel_rfl) (by kernel_rfl) (fun _ _ _ h => nomatch h.1) (Or.inl ⟨by rfl, ?hy5⟩) (by assumption) ?_
    case hy5 => (intro w hSw; (try dsimp only at hSw); go_simp; try with_reducible rfl)
    try simp only [Act.put, List.setIfInBounds_toArray, List.set_cons_zero, List.set_cons_succ]
    refine takeL (i := 6) (v := ?v6) rfl (by kernel_rfl) (by kernel_rfl) (by kernel_rfl) (fun _ _ _ h => nomatch h.1) (Or.inl ⟨by rfl, ?hy6⟩) (by assumption) ?_
    case hy6 => (intro w hSw; (try dsimp only at hSw); go_simp; try with_reducible rfl)
    try simp only [Act.put, List.setIfInBounds_toArray, List.set_cons_zero, List.set_cons_succ]
    refine takeL (i := 8) (v := ?v8) rfl (by kernel_rfl) (by kernel_rfl) (by kernel_rfl) (fun _ _ _ h => nomatch h.1) (Or.inl ⟨by rfl, ?hy8⟩) (by assumption) ?_
    case hy8 => (intro w hSw; (try dsimp only at hSw); go_simp; try with_reducible rfl)
    try simp only [Act.put, List.setIfInBounds_toArray, List.set_cons_zero, List.set_cons_succ]
    refine takeL (i := 9) (v := ?v9) rfl (by kernel_rfl) (by kernel_rfl) (by kernel_rfl) (fun _ _ _ h => nomatch h.1) (Or.inl ⟨by rfl, ?hy9⟩) (by assumption) ?_
    case hy9 => (intro w hSw; (try dsimp only at hSw); go_simp; try with_reducible rfl)
    try simp only [Act.put, List.setIfInBounds_toArray, List.set_cons_zero, List.set_cons_succ]
    refine takeL (i := 10) (v := ?v10) rfl (by kernel_rfl) (by kernel_rfl) (by kernel_rfl) (fun _ _ _ h => nomatch h.1) (Or.inl ⟨by rfl, ?hy10⟩) (by assumption) ?_
    case hy10 => (intro w hSw; (try dsimp only at hSw); go_simp; try with_reducible rfl)
    try simp only [Act.put, List.setIfInBounds_toArray, List.set_cons_zero, List.set_cons_succ]
    refine readyL_two (i := 0) (j := 7) rfl rfl (by kernel_rfl) (by rfl) (by rfl) (fun K hK => ?_) (fun K hK => ?_)
    · have o1 : W.drew.cell? ⟨g0 + 3, 0, none⟩ = some (.slice A1 (holdsP p q tk q.ready pre).length c1) := (HK4.out.below ((Below.refl W.heap.size W).drew) HK4.out.lt).cell 0
      go_simp
      refine hK _ _ (HF.out _ (HALL.out _ ((Below.refl W.heap.size W).drew))) (fun hHeld => ?_)
      clear hK K o1
      try simp only [Act.put, List.setIfInBounds_toArray, List.set_cons_zero, List.set_cons_succ]
      refine readyL_one (i := 7) rfl (by kernel_rfl) (by rfl) (fun K hK => ?_)
      go_simp
      refine (HLV.out _ (HPW.out _ (Below.refl _ _).drew)).mono ?_
      rintro e w6 ⟨rfl, hb6⟩
      have HB6 : Hid (Below W.heap.size W w6) := (Below.refl W.heap.size W).drew.trans hb6
      refine hK _ _ (HF.out _ (HALL.out _ HB6.out)) (fun hHeld => ?_)
      clear hK K hb6
      try simp only [Act.put, List.setIfInBounds_toArray, List.set_cons_zero, List.set_cons_succ]
      refine takeL (i := 11) (v := ?v11) rfl (by kernel_rfl) (by kernel_rfl) (by kernel_rfl) (fun _ _ _ h => nomatch h.1) (Or.inl ⟨by rfl, ?hy11⟩) (by assumption) ?_
      case hy11 => (intro w hSw; (try dsimp only at hSw); go_simp; try with_reducible rfl)
      try simp only [Act.put, List.setIfInBounds_toArray, List.set_cons_zero, List.set_cons_succ]
      refine readyL_one (i := 12) rfl (by kernel_rfl) (by rfl) (fun K hK => ?_)
      go_simp
      have HB7 : Hid (Below W.heap.size W (w6.alloc (.cells #[.int .i64 x.node, .int .i64 (lastB q.ready pre), .int .i64 (leaveF q.cust c x.hop), .int .i64 q.size, .int .i64 tk] 99))) := HB6.out.alloc HB6.out.size _
      have HN7 : Hid (∀ j u, [.int .i64 x.node, .int .i64 (lastB q.ready pre), .int .i64 (leaveF q.cust c x.hop), .int .i64 q.size, .int .i64 tk][j]? = some u → (w6.alloc (.cells #[.int .i64 x.node, .int .i64 (lastB q.ready pre), .int .i64 (leaveF q.cust c x.hop), .int .i64 q.size, .int .i64 tk] 99)).cell? ((⟨w6.heap.size, 0, none⟩ : Addr).add j) = some u) := fun j u hu => by rw [Addr.add_mid, Nat.zero_add]; exact new_at _ [.int .i64 x.node, .int .i64 (lastB q.ready pre), .int .i64 (leaveF q.cust c x.hop), .int .i64 q.size, .int .i64 tk] _ rfl j u hu
      refine hK _ _ (HF.out _ (HALL.out _ HB7.out)) (fun hHeld => ?_)
      clear hK K
      try simp only [Act.put, List.setIfInBounds_toArray, List.set_cons_zero, List.set_cons_succ]
      refine readyL_one (i := 13) rfl (by kernel_rfl) (by rfl) (fun K hK => ?_)
      obtain ⟨hi0, hz0, hz1, hz2⟩ := HI.out
      generalize (w6.alloc (.cells #[.int .i64 x.node, .int .i64 (lastB q.ready pre), .int .i64 (leaveF q.cust c x.hop), .int .i64 q.size, .int .i64 tk] 99)) = w7 at HB7 HN7 hHeld ⊢
      refine wp_append_own _ (.tmp 21) (.tmp 33) 27 rfl (wP.heap.size + 3) 99 i0 (.agg #[.int .i64 0, .int .i64 0, .int .i64 0, .int .i64 0, .int .i64 0]) 5 40 Tryz.underlying27 hi0 hz0 hz1 hz2 rfl (by decide) (.slice A1 (holdsP p q tk q.ready pre).length c1) (holdsP p q tk q.ready pre).length ((holdsP p q tk q.ready pre).flatMap hdE.f) rfl (row_next HK4'.out HB7.out) ⟨w6.heap.size, 0, none⟩ 1 1 [.int .i64 x.node, .int .i64 (lastB q.ready pre), .int .i64 (leaveF q.cust c x.hop), .int .i64 q.size, .int .i64 tk] rfl rfl HN7.out (fun u hu => hdE.one ⟨x.node, lastB q.ready pre, leaveF q.cust c x.hop, q.size, tk⟩ u hu) (by have := HPL.out; unfold maxLen; omega) (by have := HPL.out; omega) (by have h1 := HB7.out.size; have h2 := HBZ.out; omega) (fun v' w8 h2 h3 _ => ?_)
      have HFN := Lib.hid (hold_fin HGD.out HK9.out (by have := HHW.out; omega) (by have := HBZ.out; omega) (HALL.out _ (Below.refl _ _)) HK4.out HK4'.out HK6.out HB7.out h3 h2)
      obtain ⟨A8, c8, hv8, _, _⟩ := sl_of_row (E := hdE) (L := holdsP p q tk q.ready (pre ++ [x])) (by rw [holdsP_snoc, HGD.out, List.length_append, List.flatMap_append]; exact h2)
      rw [show (holdsP p q tk q.ready (pre ++ [x])).length = (holdsP p q tk q.ready pre).length + 1 by rw [holdsP_snoc, List.length_append]; rfl] at hv8
      subst hv8
      refine hK _ _ (HF.out _ HFN.out.1.1) (fun hHeld => ?_)
      clear hK K h2 h3 hi0 hz0 hz1 hz2
      try simp only [Act.put, List.setIfInBounds_toArray, List.set_cons_zero, List.set_cons_succ]
      refine readyL_one (i := 14) rfl (by kernel_rfl) (by rfl) (fun K hK => ?_)
      have o8 := HFN.out.1.2.cell 0
      have f8 := HFN.out.1.2.free 0
      simp only [List.getElem?_toArray, List.getElem?_cons_zero] at o8
      go_simp
      refine hK _ _ (HF.out _ HFN.out.2.1) (fun hHeld => ?_)
      clear hK K o8 f8 hHeld
      try simp only [Act.put, List.setIfInBounds_toArray, List.set_cons_zero, List.set_cons_succ]
      refine doneL (by kernel_rfl) ?_
      have e1 := HFN.out.2.1.2.2.2.2.2.cell 1
      have e4 := HFN.out.2.1.2.2.2.1.cell 0
      have f4 := HFN.out.2.1.2.2.2.1.free 0
      simp only [List.getElem?_toArray, List.getElem?_cons_zero, List.getElem?_cons_succ] at e1 e4
      have HEN := Lib.hid HFN.out.2.2
      clear HFN
      gi_wp2
      exact HEN.out
    · go_simp
      refine (HLV.out _ (HPW.out _ (Below.refl _ _).drew)).mono ?_
      rintro e w6 ⟨rfl, hb6⟩
      have HB6 : Hid (Below W.heap.size W w6) := (Below.refl W.heap.size W).drew.trans hb6
      refine hK _ _ (HF.out _ (HALL.out _ HB6.out)) (fun hHeld => ?_)
      clear hK K hb6
      try simp only [Act.put, List.setIfInBounds_toArray, List.set_cons_zero, List.set_cons_succ]
      refine takeL (i := 11) (v := ?v11) rfl (by kernel_rfl) (by kernel_rfl) (by kernel_rfl) (fun _ _ _ h => nomatch h.1) (Or.inl ⟨by rfl, ?hy11⟩) (by assumption) ?_
      case hy11 => (intro w hSw; (try dsimp only at hSw); go_simp; try with_reducible rfl)
      try simp only [Act.put, List.setIfInBounds_toArray, List.set_cons_zero, List.set_cons_succ]
      refine readyL_two (i := 0) (j := 12) rfl rfl (by kernel_rfl) (by rfl) (by rfl) (fun K hK => ?_) (fun K hK => ?_)
      · have o1 : w6.cell? ⟨g0 + 3, 0, none⟩ = some (.slice A1 (holdsP p q tk q.ready pre).length c1) := (HK4.out.below HB6.out HK4.out.lt).cell 0
        go_simp
        refine hK _ _ (HF.out _ (HALL.out _ HB6.out)) (fun hHeld => ?_)
        clear hK K o1
        try simp only [Act.put, List.setIfInBounds_toArray, List.set_cons_zero, List.set_cons_succ]
        refine readyL_one (i := 12) rfl (by kernel_rfl) (by rfl) (fun K hK => ?_)
        go_simp
        have HB7 : Hid (Below W.heap.size W (w6.alloc (.cells #[.int .i64 x.node, .int .i64 (lastB q.ready pre), .int .i64 (leaveF q.cust c x.hop), .int .i64 q.size, .int .i64 tk] 99))) := HB6.out.alloc HB6.out.size _
        have HN7 : Hid (∀ j u, [.int .i64 x.node, .int .i64 (lastB q.ready pre), .int .i64 (leaveF q.cust c x.hop), .int .i64 q.size, .int .i64 tk][j]? = some u → (w6.alloc (.cells #[.int .i64 x.node, .int .i64 (lastB q.ready pre), .int .i64 (leaveF q.cust c x.hop), .int .i64 q.size, .int .i64 tk] 99)).cell? ((⟨w6.heap.size, 0, none⟩ : Addr).add j) = some u) := fun j u hu => by rw [Addr.add_mid, Nat.zero_add]; exact new_at _ [.int .i64 x.node, .int .i64 (lastB q.ready pre), .int .i64 (leaveF q.cust c x.hop), .int .i64 q.size, .int .i64 tk] _ rfl j u hu
        refine hK _ _ (HF.out _ (HALL.out _ HB7.out)) (fun hHeld => ?_)
        clear hK K
        try simp only [Act.put, List.setIfInBounds_toArray, List.set_cons_zero, List.set_cons_succ]
        refine readyL_one (i := 13) rfl (by kernel_rfl) (by rfl) (fun K hK => ?_)
        obtain ⟨hi0, hz0, hz1, hz2⟩ := HI.out
        generalize (w6.alloc (.cells #[.int .i64 x.node, .int .i64 (lastB q.ready pre), .int .i64 (leaveF q.cust c x.hop), .int .i64 q.size, .int .i64 tk] 99)) = w7 at HB7 HN7 hHeld ⊢
        refine wp_append_own _ (.tmp 21) (.tmp 33) 27 rfl (wP.heap.size + 3) 99 i0 (.agg #[.int .i64 0, .int .i64 0, .int .i64 0, .int .i64 0, .int .i64 0]) 5 40 Tryz.underlying27 hi0 hz0 hz1 hz2 rfl (by decide) (.slice A1 (holdsP p q tk q.ready pre).length c1) (holdsP p q tk q.ready pre).length ((holdsP p q tk q.ready pre).flatMap hdE.f) rfl (row_next HK4'.out HB7.out) ⟨w6.heap.size, 0, none⟩ 1 1 [.int .i64 x.node, .int .i64 (lastB q.ready pre), .int .i64 (leaveF q.cust c x.hop), .int .i64 q.size, .int .i64 tk] rfl rfl HN7.out (fun u hu => hdE.one ⟨x.node, lastB q.ready pre, leaveF q.cust c x.hop, q.size, tk⟩ u hu) (by have := HPL.out; unfold maxLen; omega) (by have := HPL.out; omega) (by have h1 := HB7.out.size; have h2 := HBZ.out; omega) (fun v' w8 h2 h3 _ => ?_)
        have HFN := Lib.hid (hold_fin HGD.out HK9.out (by have := HHW.out; omega) (by have := HBZ.out; omega) (HALL.out _ (Below.refl _ _)) HK4.out HK4'.out HK6.out HB7.out h3 h2)
        obtain ⟨A8, c8, hv8, _, _⟩ := sl_of_row (E := hdE) (L := holdsP p q tk q.ready (pre ++ [x])) (by rw [holdsP_snoc, HGD.out, List.length_append, List.flatMap_append]; exact h2)
        rw [show (holdsP p q tk q.ready (pre ++ [x])).length = (holdsP p q tk q.ready pre).length + 1 by rw [holdsP_snoc, List.length_append]; rfl] at hv8
        subst hv8
        refine hK _ _ (HF.out _ HFN.out.1.1) (fun hHeld => ?_)
        clear hK K h2 h3 hi0 hz0 hz1 hz2
        try simp only [Act.put, List.setIfInBounds_toArray, List.set_cons_zero, List.set_cons_succ]
        refine readyL_one (i := 14) rfl (by kernel_rfl) (by rfl) (fun K hK => ?_)
        have o8 := HFN.out.1.2.cell 0
        have f8 := HFN.out.1.2.free 0
        simp only [List.getElem?_toArray, List.getElem?_cons_zero] at o8
        go_simp
        refine hK _ _ (HF.out _ HFN.out.2.1) (fun hHeld => ?_)
        clear hK K o8 f8 hHeld
        try simp only [Act.put, List.setIfInBounds_toArray, List.set_cons_zero, List.set_cons_succ]
        refine doneL (by kernel_rfl) ?_
        have e1 := HFN.out.2.1.2.2.2.2.2.cell 1
        have e4 := HFN.out.2.1.2.2.2.1.cell 0
        have f4 := HFN.out.2.1.2.2.2.1.free 0
        simp only [List.getElem?_toArray, List.getElem?_cons_zero, List.getElem?_cons_succ] at e1 e4
        have HEN := Lib.hid HFN.out.2.2
        clear HFN
        gi_wp2
        exact HEN.out
      · go_simp
        have HB7 : Hid (Below W.heap.size W (w6.alloc (.cells #[.int .i64 x.node, .int .i64 (lastB q.ready pre), .int .i64 (leaveF q.cust c x.hop), .int .i64 q.size, .int .i64 tk] 99))) := HB6.out.alloc HB6.out.size _
        have HN7 : Hid (∀ j u, [.int .i64 x.node, .int .i64 (lastB q.ready pre), .int .i64 (leaveF q.cust c x.hop), .int .i64 q.size, .int .i64 tk][j]? = some u → (w6.alloc (.cells #[.int .i64 x.node, .int .i64 (lastB q.ready pre), .int .i64 (leaveF q.cust c x.hop), .int .i64 q.size, .int .i64 tk] 99)).cell? ((⟨w6.heap.size, 0, none⟩ : Addr).add j) = some u) := fun j u hu => by rw [Addr.add_mid, Nat.zero_add]; exact new_at _ [.int .i64 x.node, .int .i64 (lastB q.ready pre), .int .i64 (leaveF q.cust c x.hop), .int .i64 q.size, .int .i64 tk] _ rfl j u hu
        refine hK _ _ (HF.out _ (HALL.out _ HB7.out)) (fun hHeld => ?_)
        clear hK K
        try simp only [Act.put, List.setIfInBounds_toArray, List.set_cons_zero, List.set_cons_succ]
        refine readyL_one (i := 0) rfl (by kernel_rfl) (by rfl) (fun K hK => ?_)
        have o1 : (w6.alloc (.cells #[.int .i64 x.node, .int .i64 (lastB q.ready pre), .int .i64 (leaveF q.cust c x.hop), .int .i64 q.size, .int .i64 tk] 99)).cell? ⟨g0 + 3, 0, none⟩ = some (.slice A1 (holdsP p q tk q.ready pre).length c1) := (HK4.out.below HB7.out HK4.out.lt).cell 0
        go_simp
        refine hK _ _ (HF.out _ (HALL.out _ HB7.out)) (fun hHeld => ?_)
        clear hK K o1
        try simp only [Act.put, List.setIfInBounds_toArray, List.set_cons_zero, List.set_cons_succ]
        refine readyL_one (i := 13) rfl (by kernel_rfl) (by rfl) (fun K hK => ?_)
        obtain ⟨hi0, hz0, hz1, hz2⟩ := HI.out
        generalize (w6.alloc (.cells #[.int .i64 x.node, .int .i64 (lastB q.ready pre), .int .i64 (leaveF q.cust c x.hop), .int .i64 q.size, .int .i64 tk] 99)) = w7 at HB7 HN7 hHeld ⊢
        refine wp_append_own _ (.tmp 21) (.tmp 33) 27 rfl (wP.heap.size + 3) 99 i0 (.agg #[.int .i64 0, .int .i64 0, .int .i64 0, .int .i64 0, .int .i64 0]) 5 40 Tryz.underlying27 hi0 hz0 hz1 hz2 rfl (by decide) (.slice A1 (holdsP p q tk q.ready pre).length c1) (holdsP p q tk q.ready pre).length ((holdsP p q tk q.ready pre).flatMap hdE.f) rfl (row_next HK4'.out HB7.out) ⟨w6.heap.size, 0, none⟩ 1 1 [.int .i64 x.node, .int .i64 (lastB q.ready pre), .int .i64 (leaveF q.cust c x.hop), .int .i64 q.size, .int .i64 tk] rfl rfl HN7.out (fun u hu => hdE.one ⟨x.node, lastB q.ready pre, leaveF q.cust c x.hop, q.size, tk⟩ u hu) (by have := HPL.out; unfold maxLen; omega) (by have := HPL.out; omega) (by have h1 := HB7.out.size; have h2 := HBZ.out; omega) (fun v' w8 h2 h3 _ => ?_)
        have HFN := Lib.hid (hold_fin HGD.out HK9.out (by have := HHW.out; omega) (by have := HBZ.out; omega) (HALL.out _ (Below.refl _ _)) HK4.out HK4'.out HK6.out HB7.out h3 h2)
        obtain ⟨A8, c8, hv8, _, _⟩ := sl_of_row (E := hdE) (L := holdsP p q tk q.ready (pre ++ [x])) (by rw [holdsP_snoc, HGD.out, List.length_append, List.flatMap_append]; exact h2)
        rw [show (holdsP p q tk q.ready (pre ++ [x])).length = (holdsP p q tk q.ready pre).length + 1 by rw [holdsP_snoc, List.length_append]; rfl] at hv8
        subst hv8
        refine hK _ _ (HF.out _ HFN.out.1.1) (fun hHeld => ?_)
        clear hK K h2 h3 hi0 hz0 hz1 hz2
        try simp only [Act.put, List.setIfInBounds_toArray, List.set_cons_zero, List.set_cons_succ]
        refine readyL_one (i := 14) rfl (by kernel_rfl) (by rfl) (fun K hK => ?_)
        have o8 := HFN.out.1.2.cell 0
        have f8 := HFN.out.1.2.free 0
        simp only [List.getElem?_toArray, List.getElem?_cons_zero] at o8
        go_simp
        refine hK _ _ (HF.out _ HFN.out.2.1) (fun hHeld => ?_)
        clear hK K o8 f8 hHeld
        try simp only [Act.put, List.setIfInBounds_toArray, List.set_cons_zero, List.set_cons_succ]
        refine doneL (by kernel_rfl) ?_
        have e1 := HFN.out.2.1.2.2.2.2.2.cell 1
        have e4 := HFN.out.2.1.2.2.2.1.cell 0
        have f4 := HFN.out.2.1.2.2.2.1.free 0
        simp only [List.getElem?_toArray, List.getElem?_cons_zero, List.getElem?_cons_succ] at e1 e4
        have HEN := Lib.hid HFN.out.2.2
        clear HFN
        gi_wp2
        exact HEN.out
  case done =>
    rintro D xs W hD rfl ⟨⟨k1, k2, k3⟩, ⟨v, k4, k4'⟩, k5, k6⟩ hK
    have hway := HR.out.2.2.2.1
    have hHL : holdsP p q tk q.ready (plcF p q.src q.ready l) = holdsL p q l tk := holdsP_way hway
    have hlen : (holdsL p q l tk).length = l.length := by rw [← hHL, holdsP_len, plcF_len hway]
    rw [hHL] at k4'
    have hl0 : 0 < l.length := List.length_pos_iff.2 HR.out.2.1
    have HSO := Lib.hid (sortHlds_any (wP.heap.size + 3) v (holdsL p q l tk) W k4' (fun e => by rw [e] at hlen; simp at hlen; omega) (by omega))
    have o1 : W.cell? ⟨g0 + 3, 0, none⟩ = some v := k4.cell 0
    have hz := HHW.out
    have HZ : Hid (g0 + 3 ≠ D ∧ g0 ≤ D ∧ g0 ≤ W.heap.size ∧ g0 ≤ wP.heap.size + 3) := ⟨by omega, by omega, by have := k5.lt; omega, by omega⟩
    have HK4 := Lib.hid k4
    have HK4' := Lib.hid k4'
    have HK6 := Lib.hid k6
    have HKD := Lib.hid hK
    obtain ⟨A1, c1, rfl, _, _⟩ := sl_of_row (E := hdE) k4'
    clear k1 k2 k3 k4 k4' k5 k6 hK hD hlen hHL hz hl0 hway hbP hbQ hbL hbB hbS HW0 HW1 HW2 HW3 HW4 HBP
    gi_wp2_with fail
    refine ⟨trivial, ?_⟩
    refine (callsIn_wide.2 HSO.out).mono ?_
    rintro e w2 ⟨rfl, L', hp, hr2, hg2⟩
    have o2 : w2.cell? ⟨g0 + 3, 0, none⟩ = some (.slice A1 (holdsL p q l tk).length c1) := (HK4.out.grown hg2 (bk_not_row HK4.out (by decide) HK4'.out)).cell 0
    have hD2 : w2.heap[D]? = some (.deferred (some [])) := by
      refine (hg2.block D (Array.getElem?_eq_some_iff.1 HKD.out).1 fun e => ?_).trans HKD.out
      rcases HK4'.out.2 with ⟨e2, _⟩ | ⟨g, cap, cur, e2, _, hgb, _⟩
      · rw [e2] at e; simp [Value.ownBlock] at e
      · rw [e2] at e
        obtain rfl : D = g := by simpa [Value.ownBlock] using e
        have := HKD.out.symm.trans hgb
        simp at this
    have hr3 : (w2.putObj D (.deferred none)).ownsRow (wP.heap.size + 3) 99 hdE.k (.slice A1 (holdsL p q l tk).length c1) L'.length (L'.flatMap hdE.f) := by
      refine hr2.kept (grownBy_putObj' w2 D _) ?_
      rcases hr2.2 with ⟨e2, _⟩ | ⟨g, cap, cur, e2, _, hgb, _⟩
      · rw [e2]; exact .inl rfl
      · rw [e2]
        refine .inr fun e => ?_
        obtain rfl : g = D := by simpa [Value.ownBlock] using e
        have := hD2.symm.trans hgb
        simp at this
    have hb2 : Below w.heap.size w (w2.putObj D (.deferred none)) := by
      rw [hg0]
      refine below_putObj (HK6.out.grown hg2 HZ.out.2.2.1 fun k e => ?_) HZ.out.2.1
      have := (HK4'.out.lt k e).1
      have := HZ.out.2.2.2
      omega
    have HFI : Hid (RetSl hdE L' w (.returned (.slice A1 (holdsL p q l tk).length c1)) (w2.putObj D (.deferred none))) := by
      obtain ⟨A2, c2, e2, h1, h2, h3⟩ := sl_of_row2 (E := hdE) hr3
      refine ⟨A2, c2, by rw [e2], h1, h2, fun a ha => ?_, hb2⟩
      have := h3 a ha
      have := HHW.out
      omega
    have HPM := Lib.hid hp
    have HD2 := Lib.hid hD2
    clear hD2 hr2 hg2 hr3 hb2 hp
    gi_wp2
    exact marks_ret1 rfl (run_takeDeferred HD2.out) (by simp [results, Tryz.results35, go_sem]) ⟨L', HPM.out, HFI.out⟩
end Go.Proofs.YtebkgbmijocdjaaGreat.Tp
