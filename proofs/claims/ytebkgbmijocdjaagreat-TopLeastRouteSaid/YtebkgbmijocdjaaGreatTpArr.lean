/- search.arrival, walked. Conditions: the graph and the labels lie in memory. -/
import Derived.Test.YtebkgbmijocdjaaGreatTpDel
namespace Go.Proofs.YtebkgbmijocdjaaGreat.Tp
open Go Go.RowKit
attribute [local go_sem] Oper.semAt_some

/-- the times of the moves to the destination -/
def dstT (dst : Int) (l : List (Lab × Hop)) : List Int := l.filterMap fun y => if y.1.node = dst then some y.1.time else none
theorem arrT_cons (g : Grf) (x : Lab) (L : List Lab) : arrT g (L ++ [x]) = arrT g L ++ dstT g.dst (movesF g x) := by
  unfold arrT dstT
  rw [List.flatMap_append]
  simp
theorem dstT_snoc (dst : Int) (l : List (Lab × Hop)) (y : Lab × Hop) : dstT dst (l ++ [y]) = if y.1.node = dst then dstT dst l ++ [y.1.time] else dstT dst l := by
  unfold dstT
  rw [List.filterMap_append]
  split
  · rename_i h; simp [h]
  · rename_i h; simp [h]
/-- what arrival keeps in memory -/
structure ArV (n0 G : Nat) (w : World) (o : Option Int) (W : World) : Prop where
  g : Bk W n0 74 #[.pointer (some ⟨G, 0, none⟩)]
  b : Bk W (n0 + 1) 3 #[.int .i64 (o.getD 0)]
  s : Bk W (n0 + 2) 4 #[.bool o.isSome]
  be : Below n0 w W
section
variable {n0 G : Nat} {w W : World} {o : Option Int}
theorem ArV.size (h : ArV n0 G w o W) : n0 + 3 ≤ W.heap.size := by have := h.s.lt; omega
theorem ArV.below {W' : World} (h : ArV n0 G w o W) (hb : Below W.heap.size W W') : ArV n0 G w o W' :=
  ⟨h.g.below hb h.g.lt, h.b.below hb h.b.lt, h.s.below hb h.s.lt, h.be.trans (hb.mono (by have := h.size; omega))⟩
theorem ArV.owned {B : Nat} {W' : World} {row : Option Nat} (hB : n0 + 3 ≤ B) (hn : n0 ≤ w.heap.size) (h : ArV n0 G w o W) (hg : W.grownBy W' row) (hr : ∀ r, row = some r → B ≤ r ∧ ∃ o : Obj, W.heap[r]? = some o ∧ o.isCells = false) : ArV n0 G w o W' :=
  ⟨ownFrom_bk (β := Unit) B _ _ _ () _ _ row h.g hg hr, ownFrom_bk (β := Unit) B _ _ _ () _ _ row h.b hg hr, ownFrom_bk (β := Unit) B _ _ _ () _ _ row h.s hg hr, ownFrom_below (β := Unit) hn (by omega) () _ _ row h.be hg hr⟩
theorem ArV.blind {B i : Nat} {u : Value} (hB : n0 + 3 ≤ B) (h : ArV n0 G w o W) : ArV n0 G w o (W.setCell ⟨B, i, none⟩ u) :=
  ⟨h.g.other (p := ⟨B, i, none⟩) (by show n0 ≠ B; omega) _, h.b.other (p := ⟨B, i, none⟩) (by show n0 + 1 ≠ B; omega) _, h.s.other (p := ⟨B, i, none⟩) (by show n0 + 2 ≠ B; omega) _, h.be.setCell (p := ⟨B, i, none⟩) (by show n0 ≤ B; omega) _⟩
theorem ArV.put (h : ArV n0 G w o W) (t : Int) : ArV n0 G w (some t) ((W.setCell ⟨n0 + 1, 0, none⟩ (.int .i64 t)).setCell ⟨n0 + 2, 0, none⟩ (.bool true)) :=
  ⟨(h.g.other (p := ⟨n0 + 1, 0, none⟩) (by show n0 ≠ n0 + 1; omega) _).other (p := ⟨n0 + 2, 0, none⟩) (by show n0 ≠ n0 + 2; omega) _, (h.b.put 0 _).other (p := ⟨n0 + 2, 0, none⟩) (by show n0 + 1 ≠ n0 + 2; omega) _, (h.s.other (p := ⟨n0 + 1, 0, none⟩) (by show n0 + 2 ≠ n0 + 1; omega) _).put 0 _,
    (h.be.setCell (p := ⟨n0 + 1, 0, none⟩) (by show n0 ≤ n0 + 1; omega) _).setCell (p := ⟨n0 + 2, 0, none⟩) (by show n0 ≤ n0 + 2; omega) _⟩
theorem MarksAt.put2 {ds : List Nat} (hm : MarksAt W ds) (h : ArV n0 G w o W) (u v : Value) : MarksAt ((W.setCell ⟨n0 + 1, 0, none⟩ u).setCell ⟨n0 + 2, 0, none⟩ v) ds :=
  (hm.set h.b u).set (h.s.other (p := ⟨n0 + 1, 0, none⟩) (by show n0 + 2 ≠ n0 + 1; omega) u) v
theorem ArV.kp {n₀ BG BL : Nat} (h : ArV n0 G w o W) (u v : Value) (hn : n₀ ≤ n0) (h1 : n0 + 3 ≤ BG) (h2 : n0 + 3 ≤ BL) : KpM n₀ BG BL W ((W.setCell ⟨n0 + 1, 0, none⟩ u).setCell ⟨n0 + 2, 0, none⟩ v) := by
  have ot : ∀ {k : Nat} {t : TypeId} {cs : Array Value}, k ≠ n0 + 1 → k ≠ n0 + 2 → Bk W k t cs → Bk ((W.setCell ⟨n0 + 1, 0, none⟩ u).setCell ⟨n0 + 2, 0, none⟩ v) k t cs := fun {k t cs} a b hb => (hb.other (p := ⟨n0 + 1, 0, none⟩) a _).other (p := ⟨n0 + 2, 0, none⟩) b _
  refine ⟨((Below.refl n₀ W).setCell (p := ⟨n0 + 1, 0, none⟩) (by show n₀ ≤ n0 + 1; omega) _).setCell (p := ⟨n0 + 2, 0, none⟩) (by show n₀ ≤ n0 + 2; omega) _, fun k cs t ht hk => ?_, fun k cs t hkk hk => ?_⟩
  · have hne : t ≠ 3 ∧ t ≠ 4 := by rcases ht with rfl | rfl | rfl <;> decide
    refine ot (fun e => ?_) (fun e => ?_) hk
    · subst e
      have := (show W.heap[n0 + 1]? = _ from hk).symm.trans h.b
      simp at this
      exact hne.1 this.2
    · subst e
      have := (show W.heap[n0 + 2]? = _ from hk).symm.trans h.s
      simp at this
      exact hne.2 this.2
  · exact ot (by rcases hkk with rfl | rfl <;> omega) (by rcases hkk with rfl | rfl <;> omega) hk
end
set_option maxHeartbeats 16000000 in
set_option maxRecDepth 100000 in
theorem arrival_any (G : Nat) (t : Tbl) (q : Rq) (A : Option Addr) (cA : Nat) (L : List Lab) (w : World) (hg : GAt w G t q) (hA : SlAt lbE w A L) (hF : ∀ x ∈ L, Fine (grf t q) x) (hlen : L.length ≤ 1000000) :
    Calls Tryz.prog 27 #[.pointer (some ⟨G, 0, none⟩), .slice A L.length cA] w fun e w' => e = .returned (.tuple #[.int .i64 ((minO none (arrT (grf t q) L)).getD 0), .bool (minO none (arrT (grf t q) L)).isSome]) ∧ Below w.heap.size w w' := by
  have HG := Lib.hid hg
  have HA := Lib.hid hA
  have HF := Lib.hid hF
  obtain ⟨Aq, cq, Ac, cc, B, cb, H, ch, Ag, cg, Ar, cr, Ad, cd, hbk, hin⟩ := hg
  have HTOK := Lib.hid hin.tok
  have HQOK := Lib.hid hin.qok
  have HBE : Hid (Below w.heap.size w (((w.alloc (.cells #[.pointer (some ⟨G, 0, none⟩)] 74)).alloc (.cells #[.int .i64 0] 3)).alloc (.cells #[.bool false] 4))) := (((Below.refl _ _).alloc (Nat.le_refl _) _).alloc (by simp) _).alloc (by simp; omega) _
  have HV0 : Hid (ArV w.heap.size G w none (((w.alloc (.cells #[.pointer (some ⟨G, 0, none⟩)] 74)).alloc (.cells #[.int .i64 0] 3)).alloc (.cells #[.bool false] 4))) := by
    refine ⟨((Bk.new w _ _).alloc _).alloc _, ?_, ?_, HBE.out⟩
    · have h := Bk.new (w.alloc (.cells #[.pointer (some ⟨G, 0, none⟩)] 74)) 3 #[.int .i64 0]
      rw [World.size_alloc] at h
      exact h.alloc _
    · have h := Bk.new ((w.alloc (.cells #[.pointer (some ⟨G, 0, none⟩)] 74)).alloc (.cells #[.int .i64 0] 3)) 4 #[.bool false]
      rwa [World.size_alloc, World.size_alloc] at h
  have HGI : Hid (∀ w', Below w.heap.size w w' → w'.cell? ⟨G, 5, none⟩ = some (.int .i64 q.dst)) := fun w' hb => (hbk.below hb hbk.lt).cell 5
  clear hbk hin hA hF
  refine (callsIn_wide (n := 8)).1 ?_
  refine callsIn_of_wp_marks Tryz.func27 rfl trivial ?_ rfl
  simp only [Tryz.ntmps27, List.size_toArray, List.length_cons, List.length_nil, Nat.reduceAdd, Nat.reduceSub, Array.replicate_succ, Array.replicate_zero, List.push_toArray, List.append_toArray, List.nil_append, List.cons_append]
  gi_wp2_with fail
  generalize (((w.alloc (.cells #[.pointer (some ⟨G, 0, none⟩)] 74)).alloc (.cells #[.int .i64 0] 3)).alloc (.cells #[.bool false] 4)) = w1 at HBE HV0 ⊢
  generalize hn0 : w.heap.size = n0 at HBE HV0 HGI ⊢
  rw [show n0 + 1 + 1 = n0 + 2 from rfl]
  refine wpIn_loop_ghost_k (fun m a' w' => ∃ (u9 u14 u15 u16 u17 u18 u19 u44 : Value) (ds : List Nat) (k : Nat), a' = { tmps := #[.pointer (some ⟨G, 0, none⟩), .slice A L.length cA, .pointer (some ⟨n0, 0, none⟩), undef, .int .i64 0, .bool false, .pointer (some ⟨n0 + 1, 0, none⟩), .pointer (some ⟨n0 + 2, 0, none⟩), undef, u9, undef, .slice A L.length cA, .int .i64 (L.length : Int), .int .i64 (k : Int), u14, u15, u16, u17, u18, u19, undef, undef, undef, undef, undef, undef, undef, undef, undef, undef, undef, undef, undef, undef, undef, undef, undef, undef, undef, undef, undef, undef, undef, undef, u44, undef, undef], defers := mkD ds } ∧ MarksAt w' ds ∧ (∀ D ∈ ds, n0 ≤ D) ∧ k ≤ L.length ∧ ArV n0 G w (minO none (arrT (grf t q) (L.take k))) w' ∧ m + k = L.length) L.length ?start ?round
  case start => exact ⟨_, _, _, _, _, _, _, _, [], 0, rfl, ⟨List.nodup_nil, fun D hD => by simp at hD⟩, fun D hD => by simp at hD, Nat.zero_le _, HV0.out, rfl⟩
  case round =>
    rintro m a' w2 ⟨u9, u14, u15, u16, u17, u18, u19, u44, ds, k, rfl, hmk, hds, hkl, hv, hm⟩ Jg K hJ hK
    have HMK := Lib.hid hmk
    have HDS := Lib.hid hds
    have HV := Lib.hid hv
    have HM := Lib.hid hm
    have HK := Lib.hid hK
    have HJ := Lib.hid hJ
    clear hmk hds hv hm hJ hK HV0
    by_cases hlt : k < L.length
    · obtain ⟨x, hx⟩ : ∃ x, L[k]? = some x := ⟨_, List.getElem?_eq_getElem hlt⟩
      have HTK : Hid (L.take (k + 1) = L.take k ++ [x]) := take_snoc hx
      have HFX : Hid (Fine (grf t q) x) := HF.out x (List.mem_of_getElem? hx)
      obtain ⟨b2, o2, rfl, hs⟩ := (HA.out.below (by rw [hn0]; exact HV.out.be)).one (by omega)
      have hrg : w2.rangeAt b2 (o2 + k * 4) (lbE.f x) := hs k x hx
      have c0 : w2.cell? ⟨b2, o2 + k * 4, none⟩ = some (.int .i64 x.node) := hrg 0 _ rfl
      have c1 : w2.cell? ⟨b2, o2 + k * 4 + 1, none⟩ = some (.int .i64 x.frm) := hrg 1 _ rfl
      have c2 : w2.cell? ⟨b2, o2 + k * 4 + 2, none⟩ = some (.int .i64 x.til) := hrg 2 _ rfl
      have c3 : w2.cell? ⟨b2, o2 + k * 4 + 3, none⟩ = some (.int .i64 x.time) := hrg 3 _ rfl
      have hk0 : (0 : Int) ≤ (k : Int) := by omega
      have hk1 : (k : Int) < (L.length : Int) := by omega
      have HBX : Hid (Below w2.heap.size w2 (w2.alloc (.cells #[.int .i64 x.node, .int .i64 x.frm, .int .i64 x.til, .int .i64 x.time] 81))) := (Below.refl _ _).alloc (Nat.le_refl _) _
      have HX2 : Hid (Bk (w2.alloc (.cells #[.int .i64 x.node, .int .i64 x.frm, .int .i64 x.til, .int .i64 x.time] 81)) w2.heap.size 81 (lbA x)) := Bk.new _ _ _
      have HV2 := Lib.hid (HV.out.below HBX.out)
      have HMK2 := Lib.hid (HMK.out.below HBX.out)
      have y0 : (w2.alloc (.cells #[.int .i64 x.node, .int .i64 x.frm, .int .i64 x.til, .int .i64 x.time] 81)).cell? ⟨n0, 0, none⟩ = some (.pointer (some ⟨G, 0, none⟩)) := HV2.out.g.cell 0
      have x0 : (w2.alloc (.cells #[.int .i64 x.node, .int .i64 x.frm, .int .i64 x.til, .int .i64 x.time] 81)).cell? ⟨w2.heap.size, 0, none⟩ = some (.int .i64 x.node) := HX2.out.cell 0
      have x1 : (w2.alloc (.cells #[.int .i64 x.node, .int .i64 x.frm, .int .i64 x.til, .int .i64 x.time] 81)).cell? ⟨w2.heap.size, 1, none⟩ = some (.int .i64 x.frm) := HX2.out.cell 1
      have x2 : (w2.alloc (.cells #[.int .i64 x.node, .int .i64 x.frm, .int .i64 x.til, .int .i64 x.time] 81)).cell? ⟨w2.heap.size, 2, none⟩ = some (.int .i64 x.til) := HX2.out.cell 2
      have x3 : (w2.alloc (.cells #[.int .i64 x.node, .int .i64 x.frm, .int .i64 x.til, .int .i64 x.time] 81)).cell? ⟨w2.heap.size, 3, none⟩ = some (.int .i64 x.time) := HX2.out.cell 3
      clear hx hs hrg HV HMK HBX
      gi_wp2_with fail
      generalize (w2.alloc (.cells #[.int .i64 x.node, .int .i64 x.frm, .int .i64 x.til, .int .i64 x.time] 81)) = w9 at HX2 HV2 HMK2 y0 x0 x1 x2 x3 ⊢
      generalize w2.heap.size = XB at HX2 x0 x1 x2 x3 ⊢
      refine ⟨trivial, ?_⟩
      refine (moves_in _ G x w9).mono ?_
      rintro e w10 ⟨rfl, rfl⟩
      obtain ⟨hbG, hbL, hbB, hbS⟩ := mvW_bks w9 G x
      have HVP := Lib.hid (HV2.out.below hbB)
      have HMKP := Lib.hid (HMK2.out.below hbB)
      have HPS : Hid ((mvW w9 G x).heap.size = w9.heap.size + 2 ∧ n0 + 3 ≤ w9.heap.size) := ⟨hbS, HV2.out.size⟩
      have HBG := Lib.hid hbG
      have HBL := Lib.hid hbL
      clear hbG hbL hbB hbS HV2 HMK2 HX2 y0 x0 x1 x2 x3 c0 c1 c2 c3
      generalize hwP : mvW w9 G x = wP at HVP HMKP HPS HBG HBL ⊢
      clear hwP
      have HDL2 : Hid (∀ D ∈ ds, D < wP.heap.size) := HMKP.out.lt
      gi_wp2_with fail
      refine range_state rfl (by omega) (gf := 72) (lb := #[.pointer (some ⟨w9.heap.size, 0, none⟩), .pointer (some ⟨w9.heap.size + 1, 0, none⟩)]) rfl trivial (enters_of Tryz.func72 (by kernel_rfl) rfl)
        (moves_state _ (by omega) w9.heap.size (w9.heap.size + 1) G t q x w wP (by rw [hn0]; exact HVP.out.be) HBG.out HBL.out HG.out (fine_bd HTOK.out HQOK.out HFX.out) (moves_few HTOK.out x) (fun n r hr => roomsF_bd HTOK.out HQOK.out n r hr)) KpM.trans (kpM_turn (by have := HPS.out; omega)) (Below.refl _ _) (fun _ => rfl)
        (fun pre W => ArV n0 G w (minO (minO none (arrT (grf t q) (L.take k))) (dstT q.dst pre)) W ∧ MarksAt W ds)
        (fun _ _ => False)
        (fun pre y b W => (ArV n0 G w (minO (minO none (arrT (grf t q) (L.take k))) (dstT q.dst pre)) W ∧ MarksAt W ds) ∧ Bk W b 86 #[.int .i64 y.1.node, .int .i64 y.1.frm, .int .i64 y.1.til, .int .i64 y.1.time, .int .i64 y.2.ct, .int .i64 y.2.beg, .int .i64 y.2.fin, .int .i64 y.2.arr])
        ?oi (fun _ _ _ _ h _ _ => h) ?o1 ?bl ?h0 ?a1 ?assign ?body ?done ?stop
      case stop => exact fun _ _ _ _ _ h _ => h.elim
      case oi =>
        rintro pre W W' row ⟨k1, k2⟩ hg hr
        exact ⟨k1.owned (B := wP.heap.size) (by have := HPS.out; omega) (by omega) hg hr, k2.owned HDL2.out hg hr⟩
      case o1 =>
        rintro s W W' row ⟨⟨k1, k2⟩, k3⟩ hg hr
        exact ⟨⟨k1.owned (B := wP.heap.size) (by have := HPS.out; omega) (by omega) hg hr, k2.owned HDL2.out hg hr⟩, ownFrom_bk (β := Unit) _ _ _ _ () _ _ row k3 hg hr⟩
      case bl =>
        rintro pre W o u ⟨k1, k2⟩
        exact ⟨k1.blind (by have := HPS.out; omega), k2.other fun D hD => by have := HDL2.out D hD; omega⟩
      case h0 => exact ⟨HVP.out, HMKP.out⟩
      case assign =>
        rintro l' pre y W ⟨k1, k2⟩ _ hbz hpl
        have HB1 : Hid (Bk (W.alloc (.cells #[.int .i64 y.1.node, .int .i64 y.1.frm, .int .i64 y.1.til, .int .i64 y.1.time, .int .i64 y.2.ct, .int .i64 y.2.beg, .int .i64 y.2.fin, .int .i64 y.2.arr] 86)) W.heap.size 86 #[.int .i64 y.1.node, .int .i64 y.1.frm, .int .i64 y.1.til, .int .i64 y.1.time, .int .i64 y.2.ct, .int .i64 y.2.beg, .int .i64 y.2.fin, .int .i64 y.2.arr]) := Bk.new _ _ _
        have HBB : Hid (Below W.heap.size W (W.alloc (.cells #[.int .i64 y.1.node, .int .i64 y.1.frm, .int .i64 y.1.til, .int .i64 y.1.time, .int .i64 y.2.ct, .int .i64 y.2.beg, .int .i64 y.2.fin, .int .i64 y.2.arr] 86))) := (Below.refl _ _).alloc (Nat.le_refl _) _
        gi_wp2
        generalize W.alloc (.cells #[.int .i64 y.1.node, .int .i64 y.1.frm, .int .i64 y.1.til, .int .i64 y.1.time, .int .i64 y.2.ct, .int .i64 y.2.beg, .int .i64 y.2.fin, .int .i64 y.2.arr] 86) = W2 at HB1 HBB ⊢
        refine ⟨keepsOthers_of HBB.out, KpM.of_below HBB.out (by have := HPS.out; omega), ?_⟩
        have HI := Lib.hid (And.intro (k1.below HBB.out) (k2.below HBB.out))
        clear HBB k1 k2 hbz hpl
        generalize W.heap.size = b at HB1 ⊢
        refine ⟨b, ?_, HI.out, HB1.out⟩
        rfl
      case body =>
        rintro l' pre y b W ⟨⟨k1, k2⟩, k3⟩ hsp hbz hpl
        have HV := Lib.hid k1
        have HMK := Lib.hid k2
        have HMB := Lib.hid k3
        have HSN := Lib.hid (dstT_snoc q.dst pre y)
        generalize hoo : minO (minO none (arrT (grf t q) (L.take k))) (dstT q.dst pre) = o at HV
        have HOO := Lib.hid hoo
        clear k1 k2 k3 hsp hbz hpl hoo
        have HSB : Hid (∀ w', Below W.heap.size W w' → (w'.cell? ⟨b, 0, none⟩ = some (.int .i64 y.1.node) ∧ w'.cell? ⟨b, 3, none⟩ = some (.int .i64 y.1.time) ∧ w'.cell? ⟨n0, 0, none⟩ = some (.pointer (some ⟨G, 0, none⟩)) ∧ w'.cell? ⟨G, 5, none⟩ = some (.int .i64 q.dst) ∧ w'.cell? ⟨n0 + 1, 0, none⟩ = some (.int .i64 (o.getD 0)) ∧ w'.cell? ⟨n0 + 2, 0, none⟩ = some (.bool o.isSome))) := fun w' hb => by
          have h0 := HMB.out.below hb HMB.out.lt
          have h1 := HV.out.below hb
          exact ⟨h0.cell 0, h0.cell 3, h1.g.cell 0, (HGI.out w' h1.be), h1.b.cell 0, h1.s.cell 0⟩
        have HSTAY : Hid (minO (minO none (arrT (grf t q) (L.take k))) (dstT q.dst (pre ++ [y])) = o → KeepsOthers W W.drew ∧ KpM w.heap.size w9.heap.size (w9.heap.size + 1) W W.drew ∧ ArV n0 G w (minO (minO none (arrT (grf t q) (L.take k))) (dstT q.dst (pre ++ [y]))) W.drew ∧ MarksAt W.drew ds) := fun he => by
          rw [he]
          exact ⟨keepsOthers_of (Below.refl _ _).drew, KpM.of_below (Below.refl _ _).drew (by have := HV.out.size; omega), HV.out.below (Below.refl _ _).drew, HMK.out.below (Below.refl _ _).drew⟩
        have HPUT : Hid (minO (minO none (arrT (grf t q) (L.take k))) (dstT q.dst (pre ++ [y])) = some y.1.time → KeepsOthers W ((W.drew.setCell ⟨n0 + 1, 0, none⟩ (.int .i64 y.1.time)).setCell ⟨n0 + 2, 0, none⟩ (.bool true)) ∧ KpM w.heap.size w9.heap.size (w9.heap.size + 1) W ((W.drew.setCell ⟨n0 + 1, 0, none⟩ (.int .i64 y.1.time)).setCell ⟨n0 + 2, 0, none⟩ (.bool true)) ∧ ArV n0 G w (minO (minO none (arrT (grf t q) (L.take k))) (dstT q.dst (pre ++ [y]))) ((W.drew.setCell ⟨n0 + 1, 0, none⟩ (.int .i64 y.1.time)).setCell ⟨n0 + 2, 0, none⟩ (.bool true)) ∧ MarksAt ((W.drew.setCell ⟨n0 + 1, 0, none⟩ (.int .i64 y.1.time)).setCell ⟨n0 + 2, 0, none⟩ (.bool true)) ds) := fun he => by
          rw [he]
          have hd := HV.out.below (Below.refl W.heap.size W).drew
          refine ⟨((keepsOthers_of (Below.refl W.heap.size W).drew).trans (KeepsOthers.setCell _ _ _)).trans (KeepsOthers.setCell _ _ _), ?_, hd.put _, (HMK.out.below (Below.refl W.heap.size W).drew).put2 hd _ _⟩
          exact (KpM.of_below (Below.refl W.heap.size W).drew (by have := HV.out.size; omega)).trans (hd.kp _ _ (by omega) (by have := HPS.out; omega) (by have := HPS.out; omega))
        gi_wp2_with fail
        by_cases hd : y.1.node = q.dst
        · have hsn := HSN.out
          rw [if_pos hd] at hsn
          have d1 : (y.1.node == q.dst) = true := by simpa using hd
          have HM1 : Hid (minO (minO none (arrT (grf t q) (L.take k))) (dstT q.dst (pre ++ [y])) = minO o [y.1.time]) := by show _ = _; rw [hsn, minO_app, HOO.out]
          clear hd hsn HSN HOO
          cases o with
          | none =>
            have HE : Hid (minO (minO none (arrT (grf t q) (L.take k))) (dstT q.dst (pre ++ [y])) = some y.1.time) := HM1.out
            clear HM1
            refine region_np (S := fun w' => (w'.cell? ⟨b, 0, none⟩ = some (.int .i64 y.1.node) ∧ w'.cell? ⟨b, 3, none⟩ = some (.int .i64 y.1.time) ∧ w'.cell? ⟨n0, 0, none⟩ = some (.pointer (some ⟨G, 0, none⟩)) ∧ w'.cell? ⟨G, 5, none⟩ = some (.int .i64 q.dst) ∧ w'.cell? ⟨n0 + 1, 0, none⟩ = some (.int .i64 0) ∧ w'.cell? ⟨n0 + 2, 0, none⟩ = some (.bool false))) (by kernel_rfl) (by kernel_rfl) (HSB.out _ (Below.refl _ _).drew) (fun hHeld => ?_)
            refine takeL (i := 0) (v := ?v0_1) rfl (by kernel_rfl) (by kernel_rfl) (by kernel_rfl) (fun _ _ _ h => nomatch h.1) (Or.inl ⟨by rfl, ?hy0_1⟩) (by assumption) ?_
            case hy0_1 => (intro w hSw; (try dsimp only at hSw); go_simp; try with_reducible rfl)
            try simp only [Act.put, List.setIfInBounds_toArray, List.set_cons_zero, List.set_cons_succ]
            refine takeL (i := 1) (v := ?v1_2) rfl (by kernel_rfl) (by kernel_rfl) (by kernel_rfl) (fun _ _ _ h => nomatch h.1) (Or.inl ⟨by rfl, ?hy1_2⟩) (by assumption) ?_
            case hy1_2 => (intro w hSw; (try dsimp only at hSw); go_simp; try with_reducible rfl)
            try simp only [Act.put, List.setIfInBounds_toArray, List.set_cons_zero, List.set_cons_succ]
            refine takeL (i := 2) (v := (.int .i64 y.1.node)) rfl (by kernel_rfl) (by kernel_rfl) (by kernel_rfl) (fun _ _ _ h => nomatch h.1) (Or.inl ⟨by rfl, ?hy2_3⟩) (by assumption) ?_
            case hy2_3 => (intro w hSw; (try dsimp only at hSw); go_simp; try with_reducible rfl)
            try simp only [Act.put, List.setIfInBounds_toArray, List.set_cons_zero, List.set_cons_succ]
            refine takeL (i := 3) (v := ?v3_4) rfl (by kernel_rfl) (by kernel_rfl) (by kernel_rfl) (fun _ _ _ h => nomatch h.1) (Or.inl ⟨by rfl, ?hy3_4⟩) (by assumption) ?_
            case hy3_4 => (intro w hSw; (try dsimp only at hSw); go_simp; try with_reducible rfl)
            try simp only [Act.put, List.setIfInBounds_toArray, List.set_cons_zero, List.set_cons_succ]
            refine takeL (i := 4) (v := ?v4_5) rfl (by kernel_rfl) (by kernel_rfl) (by kernel_rfl) (fun _ _ _ h => nomatch h.1) (Or.inl ⟨by rfl, ?hy4_5⟩) (by assumption) ?_
            case hy4_5 => (intro w hSw; (try dsimp only at hSw); go_simp; try with_reducible rfl)
            try simp only [Act.put, List.setIfInBounds_toArray, List.set_cons_zero, List.set_cons_succ]
            refine takeL (i := 5) (v := ?v5_6) rfl (by kernel_rfl) (by kernel_rfl) (by kernel_rfl) (fun _ _ _ h => nomatch h.1) (Or.inl ⟨by rfl, ?hy5_6⟩) (by assumption) ?_
            case hy5_6 => (intro w hSw; (try dsimp only at hSw); go_simp; try with_reducible rfl)
            try simp only [Act.put, List.setIfInBounds_toArray, List.set_cons_zero, List.set_cons_succ]
            refine takeL (i := 6) (v := ?v6_7) rfl (by kernel_rfl) (by kernel_rfl) (by kernel_rfl) (fun _ _ _ h => nomatch h.1) (Or.inl ⟨by rfl, ?hy6_7⟩) (by assumption) ?_
            case hy6_7 => (intro w hSw; (try dsimp only at hSw); go_simp; try with_reducible rfl)
            try simp only [Act.put, List.setIfInBounds_toArray, List.set_cons_zero, List.set_cons_succ]
            refine takeL (i := 7) (v := (.int .i64 q.dst)) rfl (by kernel_rfl) (by kernel_rfl) (by kernel_rfl) (fun _ _ _ h => nomatch h.1) (Or.inl ⟨by rfl, ?hy7_8⟩) (by assumption) ?_
            case hy7_8 => (intro w hSw; (try dsimp only at hSw); go_simp; try with_reducible rfl)
            try simp only [Act.put, List.setIfInBounds_toArray, List.set_cons_zero, List.set_cons_succ]
            refine takeL (i := 8) (v := (.bool true)) rfl (by kernel_rfl) (by kernel_rfl) (by kernel_rfl) (fun _ _ _ h => nomatch h.1) (Or.inl ⟨by rfl, ?hy8_9⟩) (by assumption) ?_
            case hy8_9 => (intro w hSw; (try dsimp only at hSw); go_simp; try with_reducible rfl)
            try simp only [Act.put, List.setIfInBounds_toArray, List.set_cons_zero, List.set_cons_succ]
            refine takeL (i := 9) (v := (.bool true)) rfl (by kernel_rfl) (by kernel_rfl) (by kernel_rfl) (fun _ _ _ h => nomatch h.1) (Or.inl ⟨by rfl, ?hy9_10⟩) (by assumption) ?_
            case hy9_10 => (intro w hSw; (try dsimp only at hSw); go_simp; try with_reducible rfl)
            try simp only [Act.put, List.setIfInBounds_toArray, List.set_cons_zero, List.set_cons_succ]
            refine takeL (i := 10) (v := (.bool false)) rfl (by kernel_rfl) (by kernel_rfl) (by kernel_rfl) (fun _ _ _ h => nomatch h.1) (Or.inl ⟨by rfl, ?hy10_11⟩) (by assumption) ?_
            case hy10_11 => (intro w hSw; (try dsimp only at hSw); go_simp; try with_reducible rfl)
            try simp only [Act.put, List.setIfInBounds_toArray, List.set_cons_zero, List.set_cons_succ]
            refine takeL (i := 11) (v := (.bool true)) rfl (by kernel_rfl) (by kernel_rfl) (by kernel_rfl) (fun _ _ _ h => nomatch h.1) (Or.inl ⟨by rfl, ?hy11_12⟩) (by assumption) ?_
            case hy11_12 => (intro w hSw; (try dsimp only at hSw); go_simp; try with_reducible rfl)
            try simp only [Act.put, List.setIfInBounds_toArray, List.set_cons_zero, List.set_cons_succ]
            refine takeL (i := 12) (v := (.bool true)) rfl (by kernel_rfl) (by kernel_rfl) (by kernel_rfl) (fun _ _ _ h => nomatch h.1) (Or.inl ⟨by rfl, ?hy12_13⟩) (by assumption) ?_
            case hy12_13 => (intro w hSw; (try dsimp only at hSw); go_simp; try with_reducible rfl)
            try simp only [Act.put, List.setIfInBounds_toArray, List.set_cons_zero, List.set_cons_succ]
            refine takeL (i := 13) (v := undef) rfl (by kernel_rfl) (by kernel_rfl) (by kernel_rfl) (fun _ _ _ h => nomatch h.1) (Or.inr ⟨by rfl, rfl⟩) (by assumption) ?_
            try simp only [Act.put, List.setIfInBounds_toArray, List.set_cons_zero, List.set_cons_succ]
            refine takeL (i := 14) (v := undef) rfl (by kernel_rfl) (by kernel_rfl) (by kernel_rfl) (fun _ _ _ h => nomatch h.1) (Or.inr ⟨by rfl, rfl⟩) (by assumption) ?_
            try simp only [Act.put, List.setIfInBounds_toArray, List.set_cons_zero, List.set_cons_succ]
            refine takeL (i := 15) (v := undef) rfl (by kernel_rfl) (by kernel_rfl) (by kernel_rfl) (fun _ _ _ h => nomatch h.1) (Or.inr ⟨by rfl, rfl⟩) (by assumption) ?_
            try simp only [Act.put, List.setIfInBounds_toArray, List.set_cons_zero, List.set_cons_succ]
            refine takeL (i := 16) (v := undef) rfl (by kernel_rfl) (by kernel_rfl) (by kernel_rfl) (fun _ _ _ h => nomatch h.1) (Or.inr ⟨by rfl, rfl⟩) (by assumption) ?_
            try simp only [Act.put, List.setIfInBounds_toArray, List.set_cons_zero, List.set_cons_succ]
            refine takeL (i := 17) (v := undef) rfl (by kernel_rfl) (by kernel_rfl) (by kernel_rfl) (fun _ _ _ h => nomatch h.1) (Or.inr ⟨by rfl, rfl⟩) (by assumption) ?_
            try simp only [Act.put, List.setIfInBounds_toArray, List.set_cons_zero, List.set_cons_succ]
            refine takeL (i := 18) (v := (.bool true)) rfl (by kernel_rfl) (by kernel_rfl) (by kernel_rfl) (fun _ _ _ h => nomatch h.1) (Or.inl ⟨by rfl, ?hy18_14⟩) (by assumption) ?_
            case hy18_14 => (intro w hSw; (try dsimp only at hSw); go_simp; try with_reducible rfl)
            try simp only [Act.put, List.setIfInBounds_toArray, List.set_cons_zero, List.set_cons_succ]
            refine takeL (i := 19) (v := (.bool true)) rfl (by kernel_rfl) (by kernel_rfl) (by kernel_rfl) (fun _ _ _ h => nomatch h.1) (Or.inl ⟨by rfl, ?hy19_15⟩) (by assumption) ?_
            case hy19_15 => (intro w hSw; (try dsimp only at hSw); go_simp; try with_reducible rfl)
            try simp only [Act.put, List.setIfInBounds_toArray, List.set_cons_zero, List.set_cons_succ]
            refine doneL (by kernel_rfl) ?_
            clear hHeld
            have m3 : W.drew.cell? ⟨b, 3, none⟩ = some (.int .i64 y.1.time) := (HMB.out.below (Below.refl W.heap.size W).drew HMB.out.lt).cell 3
            have b0 : W.drew.cell? ⟨n0 + 1, 0, none⟩ = some (.int .i64 0) := (HV.out.below (Below.refl W.heap.size W).drew).b.cell 0
            have s0 : W.drew.cell? ⟨n0 + 2, 0, none⟩ = some (.bool false) := (HV.out.below (Below.refl W.heap.size W).drew).s.cell 0
            have b1 : W.drew.frozen? ⟨n0 + 1, 0, none⟩ = false := (HV.out.below (Below.refl W.heap.size W).drew).b.free 0
            have s1 : W.drew.frozen? ⟨n0 + 2, 0, none⟩ = false := (HV.out.below (Below.refl W.heap.size W).drew).s.free 0
            have hput := HPUT.out HE.out
            have HPT := Lib.hid hput
            clear hput
            generalize W.drew = W1 at m3 b0 s0 b1 s1 HPT ⊢
            gi_wp2
            exact HPT.out
          | some bb =>
            by_cases hlt : y.1.time < bb
            · have d2 : decide (y.1.time < bb) = true := by simpa using hlt
              have HE : Hid (minO (minO none (arrT (grf t q) (L.take k))) (dstT q.dst (pre ++ [y])) = some y.1.time) := by
                have h := HM1.out
                rw [minO, minO, if_pos hlt] at h
                exact h
              clear hlt HM1
              refine region_np (S := fun w' => (w'.cell? ⟨b, 0, none⟩ = some (.int .i64 y.1.node) ∧ w'.cell? ⟨b, 3, none⟩ = some (.int .i64 y.1.time) ∧ w'.cell? ⟨n0, 0, none⟩ = some (.pointer (some ⟨G, 0, none⟩)) ∧ w'.cell? ⟨G, 5, none⟩ = some (.int .i64 q.dst) ∧ w'.cell? ⟨n0 + 1, 0, none⟩ = some (.int .i64 bb) ∧ w'.cell? ⟨n0 + 2, 0, none⟩ = some (.bool true))) (by kernel_rfl) (by kernel_rfl) (HSB.out _ (Below.refl _ _).drew) (fun hHeld => ?_)
              refine takeL (i := 0) (v := ?v0_16) rfl (by kernel_rfl) (by kernel_rfl) (by kernel_rfl) (fun _ _ _ h => nomatch h.1) (Or.inl ⟨by rfl, ?hy0_16⟩) (by assumption) ?_
              case hy0_16 => (intro w hSw; (try dsimp only at hSw); go_simp; try with_reducible rfl)
              try simp only [Act.put, List.setIfInBounds_toArray, List.set_cons_zero, List.set_cons_succ]
              refine takeL (i := 1) (v := ?v1_17) rfl (by kernel_rfl) (by kernel_rfl) (by kernel_rfl) (fun _ _ _ h => nomatch h.1) (Or.inl ⟨by rfl, ?hy1_17⟩) (by assumption) ?_
              case hy1_17 => (intro w hSw; (try dsimp only at hSw); go_simp; try with_reducible rfl)
              try simp only [Act.put, List.setIfInBounds_toArray, List.set_cons_zero, List.set_cons_succ]
              refine takeL (i := 2) (v := (.int .i64 y.1.node)) rfl (by kernel_rfl) (by kernel_rfl) (by kernel_rfl) (fun _ _ _ h => nomatch h.1) (Or.inl ⟨by rfl, ?hy2_18⟩) (by assumption) ?_
              case hy2_18 => (intro w hSw; (try dsimp only at hSw); go_simp; try with_reducible rfl)
              try simp only [Act.put, List.setIfInBounds_toArray, List.set_cons_zero, List.set_cons_succ]
              refine takeL (i := 3) (v := ?v3_19) rfl (by kernel_rfl) (by kernel_rfl) (by kernel_rfl) (fun _ _ _ h => nomatch h.1) (Or.inl ⟨by rfl, ?hy3_19⟩) (by assumption) ?_
              case hy3_19 => (intro w hSw; (try dsimp only at hSw); go_simp; try with_reducible rfl)
              try simp only [Act.put, List.setIfInBounds_toArray, List.set_cons_zero, List.set_cons_succ]
              refine takeL (i := 4) (v := ?v4_20) rfl (by kernel_rfl) (by kernel_rfl) (by kernel_rfl) (fun _ _ _ h => nomatch h.1) (Or.inl ⟨by rfl, ?hy4_20⟩) (by assumption) ?_
              case hy4_20 => (intro w hSw; (try dsimp only at hSw); go_simp; try with_reducible rfl)
              try simp only [Act.put, List.setIfInBounds_toArray, List.set_cons_zero, List.set_cons_succ]
              refine takeL (i := 5) (v := ?v5_21) rfl (by kernel_rfl) (by kernel_rfl) (by kernel_rfl) (fun _ _ _ h => nomatch h.1) (Or.inl ⟨by rfl, ?hy5_21⟩) (by assumption) ?_
              case hy5_21 => (intro w hSw; (try dsimp only at hSw); go_simp; try with_reducible rfl)
              try simp only [Act.put, List.setIfInBounds_toArray, List.set_cons_zero, List.set_cons_succ]
              refine takeL (i := 6) (v := ?v6_22) rfl (by kernel_rfl) (by kernel_rfl) (by kernel_rfl) (fun _ _ _ h => nomatch h.1) (Or.inl ⟨by rfl, ?hy6_22⟩) (by assumption) ?_
              case hy6_22 => (intro w hSw; (try dsimp only at hSw); go_simp; try with_reducible rfl)
              try simp only [Act.put, List.setIfInBounds_toArray, List.set_cons_zero, List.set_cons_succ]
              refine takeL (i := 7) (v := (.int .i64 q.dst)) rfl (by kernel_rfl) (by kernel_rfl) (by kernel_rfl) (fun _ _ _ h => nomatch h.1) (Or.inl ⟨by rfl, ?hy7_23⟩) (by assumption) ?_
              case hy7_23 => (intro w hSw; (try dsimp only at hSw); go_simp; try with_reducible rfl)
              try simp only [Act.put, List.setIfInBounds_toArray, List.set_cons_zero, List.set_cons_succ]
              refine takeL (i := 8) (v := (.bool true)) rfl (by kernel_rfl) (by kernel_rfl) (by kernel_rfl) (fun _ _ _ h => nomatch h.1) (Or.inl ⟨by rfl, ?hy8_24⟩) (by assumption) ?_
              case hy8_24 => (intro w hSw; (try dsimp only at hSw); go_simp; try with_reducible rfl)
              try simp only [Act.put, List.setIfInBounds_toArray, List.set_cons_zero, List.set_cons_succ]
              refine takeL (i := 9) (v := (.bool true)) rfl (by kernel_rfl) (by kernel_rfl) (by kernel_rfl) (fun _ _ _ h => nomatch h.1) (Or.inl ⟨by rfl, ?hy9_25⟩) (by assumption) ?_
              case hy9_25 => (intro w hSw; (try dsimp only at hSw); go_simp; try with_reducible rfl)
              try simp only [Act.put, List.setIfInBounds_toArray, List.set_cons_zero, List.set_cons_succ]
              refine takeL (i := 10) (v := (.bool true)) rfl (by kernel_rfl) (by kernel_rfl) (by kernel_rfl) (fun _ _ _ h => nomatch h.1) (Or.inl ⟨by rfl, ?hy10_26⟩) (by assumption) ?_
              case hy10_26 => (intro w hSw; (try dsimp only at hSw); go_simp; try with_reducible rfl)
              try simp only [Act.put, List.setIfInBounds_toArray, List.set_cons_zero, List.set_cons_succ]
              refine takeL (i := 11) (v := (.bool false)) rfl (by kernel_rfl) (by kernel_rfl) (by kernel_rfl) (fun _ _ _ h => nomatch h.1) (Or.inl ⟨by rfl, ?hy11_27⟩) (by assumption) ?_
              case hy11_27 => (intro w hSw; (try dsimp only at hSw); go_simp; try with_reducible rfl)
              try simp only [Act.put, List.setIfInBounds_toArray, List.set_cons_zero, List.set_cons_succ]
              refine takeL (i := 12) (v := (.bool false)) rfl (by kernel_rfl) (by kernel_rfl) (by kernel_rfl) (fun _ _ _ h => nomatch h.1) (Or.inl ⟨by rfl, ?hy12_28⟩) (by assumption) ?_
              case hy12_28 => (intro w hSw; (try dsimp only at hSw); go_simp; try with_reducible rfl)
              try simp only [Act.put, List.setIfInBounds_toArray, List.set_cons_zero, List.set_cons_succ]
              refine takeL (i := 13) (v := ?v13_29) rfl (by kernel_rfl) (by kernel_rfl) (by kernel_rfl) (fun _ _ _ h => nomatch h.1) (Or.inl ⟨by rfl, ?hy13_29⟩) (by assumption) ?_
              case hy13_29 => (intro w hSw; (try dsimp only at hSw); go_simp; try with_reducible rfl)
              try simp only [Act.put, List.setIfInBounds_toArray, List.set_cons_zero, List.set_cons_succ]
              refine takeL (i := 14) (v := ?v14_30) rfl (by kernel_rfl) (by kernel_rfl) (by kernel_rfl) (fun _ _ _ h => nomatch h.1) (Or.inl ⟨by rfl, ?hy14_30⟩) (by assumption) ?_
              case hy14_30 => (intro w hSw; (try dsimp only at hSw); go_simp; try with_reducible rfl)
              try simp only [Act.put, List.setIfInBounds_toArray, List.set_cons_zero, List.set_cons_succ]
              refine takeL (i := 15) (v := (.int .i64 y.1.time)) rfl (by kernel_rfl) (by kernel_rfl) (by kernel_rfl) (fun _ _ _ h => nomatch h.1) (Or.inl ⟨by rfl, ?hy15_31⟩) (by assumption) ?_
              case hy15_31 => (intro w hSw; (try dsimp only at hSw); go_simp; try with_reducible rfl)
              try simp only [Act.put, List.setIfInBounds_toArray, List.set_cons_zero, List.set_cons_succ]
              refine takeL (i := 16) (v := (.int .i64 bb)) rfl (by kernel_rfl) (by kernel_rfl) (by kernel_rfl) (fun _ _ _ h => nomatch h.1) (Or.inl ⟨by rfl, ?hy16_32⟩) (by assumption) ?_
              case hy16_32 => (intro w hSw; (try dsimp only at hSw); go_simp; try with_reducible rfl)
              try simp only [Act.put, List.setIfInBounds_toArray, List.set_cons_zero, List.set_cons_succ]
              refine takeL (i := 17) (v := (.bool true)) rfl (by kernel_rfl) (by kernel_rfl) (by kernel_rfl) (fun _ _ _ h => nomatch h.1) (Or.inl ⟨by rfl, ?hy17_33⟩) (by assumption) ?_
              case hy17_33 => (intro w hSw; (try dsimp only at hSw); go_simp; try with_reducible rfl)
              try simp only [Act.put, List.setIfInBounds_toArray, List.set_cons_zero, List.set_cons_succ]
              refine takeL (i := 18) (v := (.bool true)) rfl (by kernel_rfl) (by kernel_rfl) (by kernel_rfl) (fun _ _ _ h => nomatch h.1) (Or.inl ⟨by rfl, ?hy18_34⟩) (by assumption) ?_
              case hy18_34 => (intro w hSw; (try dsimp only at hSw); go_simp; try with_reducible rfl)
              try simp only [Act.put, List.setIfInBounds_toArray, List.set_cons_zero, List.set_cons_succ]
              refine takeL (i := 19) (v := (.bool true)) rfl (by kernel_rfl) (by kernel_rfl) (by kernel_rfl) (fun _ _ _ h => nomatch h.1) (Or.inl ⟨by rfl, ?hy19_35⟩) (by assumption) ?_
              case hy19_35 => (intro w hSw; (try dsimp only at hSw); go_simp; try with_reducible rfl)
              try simp only [Act.put, List.setIfInBounds_toArray, List.set_cons_zero, List.set_cons_succ]
              refine doneL (by kernel_rfl) ?_
              clear hHeld
              have m3 : W.drew.cell? ⟨b, 3, none⟩ = some (.int .i64 y.1.time) := (HMB.out.below (Below.refl W.heap.size W).drew HMB.out.lt).cell 3
              have b0 : W.drew.cell? ⟨n0 + 1, 0, none⟩ = some (.int .i64 bb) := (HV.out.below (Below.refl W.heap.size W).drew).b.cell 0
              have s0 : W.drew.cell? ⟨n0 + 2, 0, none⟩ = some (.bool true) := (HV.out.below (Below.refl W.heap.size W).drew).s.cell 0
              have b1 : W.drew.frozen? ⟨n0 + 1, 0, none⟩ = false := (HV.out.below (Below.refl W.heap.size W).drew).b.free 0
              have s1 : W.drew.frozen? ⟨n0 + 2, 0, none⟩ = false := (HV.out.below (Below.refl W.heap.size W).drew).s.free 0
              have hput := HPUT.out HE.out
              have HPT := Lib.hid hput
              clear hput
              generalize W.drew = W1 at m3 b0 s0 b1 s1 HPT ⊢
              gi_wp2
              exact HPT.out
            · have d2 : decide (y.1.time < bb) = false := by simpa using hlt
              have HE : Hid (minO (minO none (arrT (grf t q) (L.take k))) (dstT q.dst (pre ++ [y])) = some bb) := by
                have h := HM1.out
                rw [minO, minO, if_neg hlt] at h
                exact h
              clear hlt HM1
              refine region_np (S := fun w' => (w'.cell? ⟨b, 0, none⟩ = some (.int .i64 y.1.node) ∧ w'.cell? ⟨b, 3, none⟩ = some (.int .i64 y.1.time) ∧ w'.cell? ⟨n0, 0, none⟩ = some (.pointer (some ⟨G, 0, none⟩)) ∧ w'.cell? ⟨G, 5, none⟩ = some (.int .i64 q.dst) ∧ w'.cell? ⟨n0 + 1, 0, none⟩ = some (.int .i64 bb) ∧ w'.cell? ⟨n0 + 2, 0, none⟩ = some (.bool true))) (by kernel_rfl) (by kernel_rfl) (HSB.out _ (Below.refl _ _).drew) (fun hHeld => ?_)
              refine takeL (i := 0) (v := ?v0_36) rfl (by kernel_rfl) (by kernel_rfl) (by kernel_rfl) (fun _ _ _ h => nomatch h.1) (Or.inl ⟨by rfl, ?hy0_36⟩) (by assumption) ?_
              case hy0_36 => (intro w hSw; (try dsimp only at hSw); go_simp; try with_reducible rfl)
              try simp only [Act.put, List.setIfInBounds_toArray, List.set_cons_zero, List.set_cons_succ]
              refine takeL (i := 1) (v := ?v1_37) rfl (by kernel_rfl) (by kernel_rfl) (by kernel_rfl) (fun _ _ _ h => nomatch h.1) (Or.inl ⟨by rfl, ?hy1_37⟩) (by assumption) ?_
              case hy1_37 => (intro w hSw; (try dsimp only at hSw); go_simp; try with_reducible rfl)
              try simp only [Act.put, List.setIfInBounds_toArray, List.set_cons_zero, List.set_cons_succ]
              refine takeL (i := 2) (v := (.int .i64 y.1.node)) rfl (by kernel_rfl) (by kernel_rfl) (by kernel_rfl) (fun _ _ _ h => nomatch h.1) (Or.inl ⟨by rfl, ?hy2_38⟩) (by assumption) ?_
              case hy2_38 => (intro w hSw; (try dsimp only at hSw); go_simp; try with_reducible rfl)
              try simp only [Act.put, List.setIfInBounds_toArray, List.set_cons_zero, List.set_cons_succ]
              refine takeL (i := 3) (v := ?v3_39) rfl (by kernel_rfl) (by kernel_rfl) (by kernel_rfl) (fun _ _ _ h => nomatch h.1) (Or.inl ⟨by rfl, ?hy3_39⟩) (by assumption) ?_
              case hy3_39 => (intro w hSw; (try dsimp only at hSw); go_simp; try with_reducible rfl)
              try simp only [Act.put, List.setIfInBounds_toArray, List.set_cons_zero, List.set_cons_succ]
              refine takeL (i := 4) (v := ?v4_40) rfl (by kernel_rfl) (by kernel_rfl) (by kernel_rfl) (fun _ _ _ h => nomatch h.1) (Or.inl ⟨by rfl, ?hy4_40⟩) (by assumption) ?_
              case hy4_40 => (intro w hSw; (try dsimp only at hSw); go_simp; try with_reducible rfl)
              try simp only [Act.put, List.setIfInBounds_toArray, List.set_cons_zero, List.set_cons_succ]
              refine takeL (i := 5) (v := ?v5_41) rfl (by kernel_rfl) (by kernel_rfl) (by kernel_rfl) (fun _ _ _ h => nomatch h.1) (Or.inl ⟨by rfl, ?hy5_41⟩) (by assumption) ?_
              case hy5_41 => (intro w hSw; (try dsimp only at hSw); go_simp; try with_reducible rfl)
              try simp only [Act.put, List.setIfInBounds_toArray, List.set_cons_zero, List.set_cons_succ]
              refine takeL (i := 6) (v := ?v6_42) rfl (by kernel_rfl) (by kernel_rfl) (by kernel_rfl) (fun _ _ _ h => nomatch h.1) (Or.inl ⟨by rfl, ?hy6_42⟩) (by assumption) ?_
              case hy6_42 => (intro w hSw; (try dsimp only at hSw); go_simp; try with_reducible rfl)
              try simp only [Act.put, List.setIfInBounds_toArray, List.set_cons_zero, List.set_cons_succ]
              refine takeL (i := 7) (v := (.int .i64 q.dst)) rfl (by kernel_rfl) (by kernel_rfl) (by kernel_rfl) (fun _ _ _ h => nomatch h.1) (Or.inl ⟨by rfl, ?hy7_43⟩) (by assumption) ?_
              case hy7_43 => (intro w hSw; (try dsimp only at hSw); go_simp; try with_reducible rfl)
              try simp only [Act.put, List.setIfInBounds_toArray, List.set_cons_zero, List.set_cons_succ]
              refine takeL (i := 8) (v := (.bool true)) rfl (by kernel_rfl) (by kernel_rfl) (by kernel_rfl) (fun _ _ _ h => nomatch h.1) (Or.inl ⟨by rfl, ?hy8_44⟩) (by assumption) ?_
              case hy8_44 => (intro w hSw; (try dsimp only at hSw); go_simp; try with_reducible rfl)
              try simp only [Act.put, List.setIfInBounds_toArray, List.set_cons_zero, List.set_cons_succ]
              refine takeL (i := 9) (v := (.bool true)) rfl (by kernel_rfl) (by kernel_rfl) (by kernel_rfl) (fun _ _ _ h => nomatch h.1) (Or.inl ⟨by rfl, ?hy9_45⟩) (by assumption) ?_
              case hy9_45 => (intro w hSw; (try dsimp only at hSw); go_simp; try with_reducible rfl)
              try simp only [Act.put, List.setIfInBounds_toArray, List.set_cons_zero, List.set_cons_succ]
              refine takeL (i := 10) (v := (.bool true)) rfl (by kernel_rfl) (by kernel_rfl) (by kernel_rfl) (fun _ _ _ h => nomatch h.1) (Or.inl ⟨by rfl, ?hy10_46⟩) (by assumption) ?_
              case hy10_46 => (intro w hSw; (try dsimp only at hSw); go_simp; try with_reducible rfl)
              try simp only [Act.put, List.setIfInBounds_toArray, List.set_cons_zero, List.set_cons_succ]
              refine takeL (i := 11) (v := (.bool false)) rfl (by kernel_rfl) (by kernel_rfl) (by kernel_rfl) (fun _ _ _ h => nomatch h.1) (Or.inl ⟨by rfl, ?hy11_47⟩) (by assumption) ?_
              case hy11_47 => (intro w hSw; (try dsimp only at hSw); go_simp; try with_reducible rfl)
              try simp only [Act.put, List.setIfInBounds_toArray, List.set_cons_zero, List.set_cons_succ]
              refine takeL (i := 12) (v := (.bool false)) rfl (by kernel_rfl) (by kernel_rfl) (by kernel_rfl) (fun _ _ _ h => nomatch h.1) (Or.inl ⟨by rfl, ?hy12_48⟩) (by assumption) ?_
              case hy12_48 => (intro w hSw; (try dsimp only at hSw); go_simp; try with_reducible rfl)
              try simp only [Act.put, List.setIfInBounds_toArray, List.set_cons_zero, List.set_cons_succ]
              refine takeL (i := 13) (v := ?v13_49) rfl (by kernel_rfl) (by kernel_rfl) (by kernel_rfl) (fun _ _ _ h => nomatch h.1) (Or.inl ⟨by rfl, ?hy13_49⟩) (by assumption) ?_
              case hy13_49 => (intro w hSw; (try dsimp only at hSw); go_simp; try with_reducible rfl)
              try simp only [Act.put, List.setIfInBounds_toArray, List.set_cons_zero, List.set_cons_succ]
              refine takeL (i := 14) (v := ?v14_50) rfl (by kernel_rfl) (by kernel_rfl) (by kernel_rfl) (fun _ _ _ h => nomatch h.1) (Or.inl ⟨by rfl, ?hy14_50⟩) (by assumption) ?_
              case hy14_50 => (intro w hSw; (try dsimp only at hSw); go_simp; try with_reducible rfl)
              try simp only [Act.put, List.setIfInBounds_toArray, List.set_cons_zero, List.set_cons_succ]
              refine takeL (i := 15) (v := (.int .i64 y.1.time)) rfl (by kernel_rfl) (by kernel_rfl) (by kernel_rfl) (fun _ _ _ h => nomatch h.1) (Or.inl ⟨by rfl, ?hy15_51⟩) (by assumption) ?_
              case hy15_51 => (intro w hSw; (try dsimp only at hSw); go_simp; try with_reducible rfl)
              try simp only [Act.put, List.setIfInBounds_toArray, List.set_cons_zero, List.set_cons_succ]
              refine takeL (i := 16) (v := (.int .i64 bb)) rfl (by kernel_rfl) (by kernel_rfl) (by kernel_rfl) (fun _ _ _ h => nomatch h.1) (Or.inl ⟨by rfl, ?hy16_52⟩) (by assumption) ?_
              case hy16_52 => (intro w hSw; (try dsimp only at hSw); go_simp; try with_reducible rfl)
              try simp only [Act.put, List.setIfInBounds_toArray, List.set_cons_zero, List.set_cons_succ]
              refine takeL (i := 17) (v := (.bool false)) rfl (by kernel_rfl) (by kernel_rfl) (by kernel_rfl) (fun _ _ _ h => nomatch h.1) (Or.inl ⟨by rfl, ?hy17_53⟩) (by assumption) ?_
              case hy17_53 => (intro w hSw; (try dsimp only at hSw); go_simp; try with_reducible rfl)
              try simp only [Act.put, List.setIfInBounds_toArray, List.set_cons_zero, List.set_cons_succ]
              refine takeL (i := 18) (v := (.bool false)) rfl (by kernel_rfl) (by kernel_rfl) (by kernel_rfl) (fun _ _ _ h => nomatch h.1) (Or.inl ⟨by rfl, ?hy18_54⟩) (by assumption) ?_
              case hy18_54 => (intro w hSw; (try dsimp only at hSw); go_simp; try with_reducible rfl)
              try simp only [Act.put, List.setIfInBounds_toArray, List.set_cons_zero, List.set_cons_succ]
              refine takeL (i := 19) (v := (.bool false)) rfl (by kernel_rfl) (by kernel_rfl) (by kernel_rfl) (fun _ _ _ h => nomatch h.1) (Or.inl ⟨by rfl, ?hy19_55⟩) (by assumption) ?_
              case hy19_55 => (intro w hSw; (try dsimp only at hSw); go_simp; try with_reducible rfl)
              try simp only [Act.put, List.setIfInBounds_toArray, List.set_cons_zero, List.set_cons_succ]
              refine doneL (by kernel_rfl) ?_
              clear hHeld
              gi_wp2
              have hst := HSTAY.out (HE.out)
              first | exact hst | (obtain ⟨h1, h2, h3, h4⟩ := hst; exact ⟨h1, h2, h3, h4⟩)
        · have HE : Hid (minO (minO none (arrT (grf t q) (L.take k))) (dstT q.dst (pre ++ [y])) = o) := by
            have hsn := HSN.out
            rw [if_neg hd] at hsn
            show _ = _
            rw [hsn]
            exact HOO.out
          have d1 : (y.1.node == q.dst) = false := by simpa using hd
          clear hd HSN HOO
          refine region_np (S := fun w' => (w'.cell? ⟨b, 0, none⟩ = some (.int .i64 y.1.node) ∧ w'.cell? ⟨b, 3, none⟩ = some (.int .i64 y.1.time) ∧ w'.cell? ⟨n0, 0, none⟩ = some (.pointer (some ⟨G, 0, none⟩)) ∧ w'.cell? ⟨G, 5, none⟩ = some (.int .i64 q.dst) ∧ w'.cell? ⟨n0 + 1, 0, none⟩ = some (.int .i64 (o.getD 0)) ∧ w'.cell? ⟨n0 + 2, 0, none⟩ = some (.bool o.isSome))) (by kernel_rfl) (by kernel_rfl) (HSB.out _ (Below.refl _ _).drew) (fun hHeld => ?_)
          refine takeL (i := 0) (v := ?v0_56) rfl (by kernel_rfl) (by kernel_rfl) (by kernel_rfl) (fun _ _ _ h => nomatch h.1) (Or.inl ⟨by rfl, ?hy0_56⟩) (by assumption) ?_
          case hy0_56 => (intro w hSw; (try dsimp only at hSw); go_simp; try with_reducible rfl)
          try simp only [Act.put, List.setIfInBounds_toArray, List.set_cons_zero, List.set_cons_succ]
          refine takeL (i := 1) (v := ?v1_57) rfl (by kernel_rfl) (by kernel_rfl) (by kernel_rfl) (fun _ _ _ h => nomatch h.1) (Or.inl ⟨by rfl, ?hy1_57⟩) (by assumption) ?_
          case hy1_57 => (intro w hSw; (try dsimp only at hSw); go_simp; try with_reducible rfl)
          try simp only [Act.put, List.setIfInBounds_toArray, List.set_cons_zero, List.set_cons_succ]
          refine takeL (i := 2) (v := (.int .i64 y.1.node)) rfl (by kernel_rfl) (by kernel_rfl) (by kernel_rfl) (fun _ _ _ h => nomatch h.1) (Or.inl ⟨by rfl, ?hy2_58⟩) (by assumption) ?_
          case hy2_58 => (intro w hSw; (try dsimp only at hSw); go_simp; try with_reducible rfl)
          try simp only [Act.put, List.setIfInBounds_toArray, List.set_cons_zero, List.set_cons_succ]
          refine takeL (i := 3) (v := ?v3_59) rfl (by kernel_rfl) (by kernel_rfl) (by kernel_rfl) (fun _ _ _ h => nomatch h.1) (Or.inl ⟨by rfl, ?hy3_59⟩) (by assumption) ?_
          case hy3_59 => (intro w hSw; (try dsimp only at hSw); go_simp; try with_reducible rfl)
          try simp only [Act.put, List.setIfInBounds_toArray, List.set_cons_zero, List.set_cons_succ]
          refine takeL (i := 4) (v := ?v4_60) rfl (by kernel_rfl) (by kernel_rfl) (by kernel_rfl) (fun _ _ _ h => nomatch h.1) (Or.inl ⟨by rfl, ?hy4_60⟩) (by assumption) ?_
          case hy4_60 => (intro w hSw; (try dsimp only at hSw); go_simp; try with_reducible rfl)
          try simp only [Act.put, List.setIfInBounds_toArray, List.set_cons_zero, List.set_cons_succ]
          refine takeL (i := 5) (v := ?v5_61) rfl (by kernel_rfl) (by kernel_rfl) (by kernel_rfl) (fun _ _ _ h => nomatch h.1) (Or.inl ⟨by rfl, ?hy5_61⟩) (by assumption) ?_
          case hy5_61 => (intro w hSw; (try dsimp only at hSw); go_simp; try with_reducible rfl)
          try simp only [Act.put, List.setIfInBounds_toArray, List.set_cons_zero, List.set_cons_succ]
          refine takeL (i := 6) (v := ?v6_62) rfl (by kernel_rfl) (by kernel_rfl) (by kernel_rfl) (fun _ _ _ h => nomatch h.1) (Or.inl ⟨by rfl, ?hy6_62⟩) (by assumption) ?_
          case hy6_62 => (intro w hSw; (try dsimp only at hSw); go_simp; try with_reducible rfl)
          try simp only [Act.put, List.setIfInBounds_toArray, List.set_cons_zero, List.set_cons_succ]
          refine takeL (i := 7) (v := (.int .i64 q.dst)) rfl (by kernel_rfl) (by kernel_rfl) (by kernel_rfl) (fun _ _ _ h => nomatch h.1) (Or.inl ⟨by rfl, ?hy7_63⟩) (by assumption) ?_
          case hy7_63 => (intro w hSw; (try dsimp only at hSw); go_simp; try with_reducible rfl)
          try simp only [Act.put, List.setIfInBounds_toArray, List.set_cons_zero, List.set_cons_succ]
          refine takeL (i := 8) (v := (.bool false)) rfl (by kernel_rfl) (by kernel_rfl) (by kernel_rfl) (fun _ _ _ h => nomatch h.1) (Or.inl ⟨by rfl, ?hy8_64⟩) (by assumption) ?_
          case hy8_64 => (intro w hSw; (try dsimp only at hSw); go_simp; try with_reducible rfl)
          try simp only [Act.put, List.setIfInBounds_toArray, List.set_cons_zero, List.set_cons_succ]
          refine takeL (i := 9) (v := (.bool false)) rfl (by kernel_rfl) (by kernel_rfl) (by kernel_rfl) (fun _ _ _ h => nomatch h.1) (Or.inl ⟨by rfl, ?hy9_65⟩) (by assumption) ?_
          case hy9_65 => (intro w hSw; (try dsimp only at hSw); go_simp; try with_reducible rfl)
          try simp only [Act.put, List.setIfInBounds_toArray, List.set_cons_zero, List.set_cons_succ]
          refine takeL (i := 10) (v := undef) rfl (by kernel_rfl) (by kernel_rfl) (by kernel_rfl) (fun _ _ _ h => nomatch h.1) (Or.inr ⟨by rfl, rfl⟩) (by assumption) ?_
          try simp only [Act.put, List.setIfInBounds_toArray, List.set_cons_zero, List.set_cons_succ]
          refine takeL (i := 11) (v := undef) rfl (by kernel_rfl) (by kernel_rfl) (by kernel_rfl) (fun _ _ _ h => nomatch h.1) (Or.inr ⟨by rfl, rfl⟩) (by assumption) ?_
          try simp only [Act.put, List.setIfInBounds_toArray, List.set_cons_zero, List.set_cons_succ]
          refine takeL (i := 12) (v := undef) rfl (by kernel_rfl) (by kernel_rfl) (by kernel_rfl) (fun _ _ _ h => nomatch h.1) (Or.inr ⟨by rfl, rfl⟩) (by assumption) ?_
          try simp only [Act.put, List.setIfInBounds_toArray, List.set_cons_zero, List.set_cons_succ]
          refine takeL (i := 13) (v := undef) rfl (by kernel_rfl) (by kernel_rfl) (by kernel_rfl) (fun _ _ _ h => nomatch h.1) (Or.inr ⟨by rfl, rfl⟩) (by assumption) ?_
          try simp only [Act.put, List.setIfInBounds_toArray, List.set_cons_zero, List.set_cons_succ]
          refine takeL (i := 14) (v := undef) rfl (by kernel_rfl) (by kernel_rfl) (by kernel_rfl) (fun _ _ _ h => nomatch h.1) (Or.inr ⟨by rfl, rfl⟩) (by assumption) ?_
          try simp only [Act.put, List.setIfInBounds_toArray, List.set_cons_zero, List.set_cons_succ]
          refine takeL (i := 15) (v := undef) rfl (by kernel_rfl) (by kernel_rfl) (by kernel_rfl) (fun _ _ _ h => nomatch h.1) (Or.inr ⟨by rfl, rfl⟩) (by assumption) ?_
          try simp only [Act.put, List.setIfInBounds_toArray, List.set_cons_zero, List.set_cons_succ]
          refine takeL (i := 16) (v := undef) rfl (by kernel_rfl) (by kernel_rfl) (by kernel_rfl) (fun _ _ _ h => nomatch h.1) (Or.inr ⟨by rfl, rfl⟩) (by assumption) ?_
          try simp only [Act.put, List.setIfInBounds_toArray, List.set_cons_zero, List.set_cons_succ]
          refine takeL (i := 17) (v := undef) rfl (by kernel_rfl) (by kernel_rfl) (by kernel_rfl) (fun _ _ _ h => nomatch h.1) (Or.inr ⟨by rfl, rfl⟩) (by assumption) ?_
          try simp only [Act.put, List.setIfInBounds_toArray, List.set_cons_zero, List.set_cons_succ]
          refine takeL (i := 18) (v := undef) rfl (by kernel_rfl) (by kernel_rfl) (by kernel_rfl) (fun _ _ _ h => nomatch h.1) (Or.inr ⟨by rfl, rfl⟩) (by assumption) ?_
          try simp only [Act.put, List.setIfInBounds_toArray, List.set_cons_zero, List.set_cons_succ]
          refine takeL (i := 19) (v := (.bool false)) rfl (by kernel_rfl) (by kernel_rfl) (by kernel_rfl) (fun _ _ _ h => nomatch h.1) (Or.inl ⟨by rfl, ?hy19_66⟩) (by assumption) ?_
          case hy19_66 => (intro w hSw; (try dsimp only at hSw); go_simp; try with_reducible rfl)
          try simp only [Act.put, List.setIfInBounds_toArray, List.set_cons_zero, List.set_cons_succ]
          refine doneL (by kernel_rfl) ?_
          clear hHeld
          gi_wp2
          have hst := HSTAY.out (HE.out)
          first | exact hst | (obtain ⟨h1, h2, h3, h4⟩ := hst; exact ⟨h1, h2, h3, h4⟩)
      case done =>
        rintro D xs W hD rfl ⟨k1, k2⟩ hDD
        (try simp only [Exit.inBlock, Exit.then])
        have hmm := HM.out
        have hv10 : ArV n0 G w (minO none (arrT (grf t q) (L.take (k + 1)))) W := by
          rw [HTK.out, arrT_cons, minO_app]
          exact k1
        have HV10 := Lib.hid hv10
        have HDS10 : Hid (∀ E ∈ D :: ds, n0 ≤ E) := by
          intro E hE
          rcases List.mem_cons.1 hE with e | e
          · rw [e]; have := HPS.out; omega
          · exact HDS.out E e
        have HMK10 : Hid (MarksAt W (D :: ds)) := k2.cons hDD (fun h => by have := HDL2.out D h; omega)
        clear k1 k2 hDD hv10
        gi_wp2
        rw [show ((k : Int) + 1) = ((k + 1 : Nat) : Int) by omega]
        exact HK.out _ _ ⟨m - 1, by omega, HJ.out _ _ _ ⟨_, _, _, _, _, _, _, _, D :: ds, k + 1, rfl, HMK10.out, HDS10.out, by omega, HV10.out, by omega⟩⟩
    · have hkk : k = L.length := by omega
      subst hkk
      have hF : L.take L.length = L := List.take_length
      rw [hF] at HV
      generalize ho : minO none (arrT (grf t q) L) = o at HV
      have b0 : w2.cell? ⟨n0 + 1, 0, none⟩ = some (.int .i64 (o.getD 0)) := HV.out.b.cell 0
      have s0 : w2.cell? ⟨n0 + 2, 0, none⟩ = some (.bool o.isSome) := HV.out.s.cell 0
      generalize hv0 : o.getD 0 = v0 at b0
      generalize hv1 : o.isSome = v1 at s0
      have HEQ : Hid (v0 = (minO none (arrT (grf t q) L)).getD 0 ∧ v1 = (minO none (arrT (grf t q) L)).isSome) := by rw [ho, hv0, hv1]; exact ⟨rfl, rfl⟩
      clear ho hv0 hv1
      gi_wp2_with fail
      refine wpIn_wide.2 ?_
      go_quiet (fail)
      clear b0 s0
      gi_wp2
      have hm5 : MarksAt (w2.drewN nq) ds := HMK.out.below (below_drawN (Below.refl _ _) nq)
      have hb5 : Below n0 w (takeAll (w2.drewN nq) ds) := takeAll_below (below_drawN HV.out.be nq) HDS.out
      exact marks_retN (ds := ds) (v := .tuple #[.int .i64 v0, .bool v1]) hm5 (by simp [results, Tryz.results27, go_sem]) ⟨by rw [← HEQ.out.1, ← HEQ.out.2], by rw [hn0]; exact hb5⟩
end Go.Proofs.YtebkgbmijocdjaaGreat.Tp
