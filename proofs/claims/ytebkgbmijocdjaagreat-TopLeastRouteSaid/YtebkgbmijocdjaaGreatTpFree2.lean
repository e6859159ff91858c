/- booking.free, check and Free of the program, walked. Condition: the plan and the bookings lie in memory. -/
import Derived.Test.YtebkgbmijocdjaaGreatTpBusy
import Derived.Test.YtebkgbmijocdjaaGreatTpVal
namespace Go.Proofs.YtebkgbmijocdjaaGreat.Tp
open Go Go.RowKit

/-- a fresh slice of these elements, and an error number -/
def RetSlE {α : Type} (E : Enc α) (L : List α) (q : Int) (w : World) (e : Ending) (w' : World) : Prop := ∃ A c, e = .returned (.tuple #[.slice A L.length c, .int .i64 q]) ∧ SlAt E w' A L ∧ L.length ≤ c ∧ (∀ a, A = some a → w.heap.size ≤ a.block) ∧ Below w.heap.size w w'
set_option maxHeartbeats 4000000 in
set_option maxRecDepth 100000 in
theorem bkck_yes (Aq : Option Addr) (cq : Nat) (C : Option Addr) (cc : Nat) (p : Pln) (B : Option Addr) (cb : Nat) (l : List Bkg) (k : Nat) (w : World) (hp : PlnAt w Aq cq C cc p) (hl : SlAt bkE w B l) (hlm : l.length ≤ maxLen) (hok : PlnOK p ∧ BksOK p l) (hk : k < p.c.length) :
    Calls Tryz.prog 134 #[.agg #[.slice Aq p.q.length cq, .slice C p.c.length cc], .slice B l.length cb, .int .i64 k] w fun e w' => e = .returned (.int .i64 0) ∧ Below w.heap.size w w' := by
  have HB0 : Hid (Below w.heap.size w (w.alloc (.cells #[.slice Aq p.q.length cq, .slice C p.c.length cc] 25))) := (Below.refl _ _).alloc (Nat.le_refl _) _
  have HK := Lib.hid (Bk.new w 25 #[.slice Aq p.q.length cq, .slice C p.c.length cc])
  have HC := Lib.hid (bkCheck_any Aq cq C cc p B cb l _ (hp.below HB0.out) (hl.below HB0.out) hlm)
  have hm := hp.cm
  have HOK := Lib.hid hok
  clear hp hl hok
  unfold maxLen at hm
  have hge : (0 : Int) ≤ (k : Int) := by omega
  have hd1 : decide ((k : Int) < 0) = false := by simp
  go_enter Tryz.func134, Tryz.ntmps134
  go_wp2_with fail
  generalize w.alloc (.cells #[.slice Aq p.q.length cq, .slice C p.c.length cc] 25) = W at HB0 HK HC ⊢
  generalize w.heap.size = g0 at HK ⊢
  refine HC.out.mono ?_
  rintro e w1 ⟨q, rfl, hq, hb1⟩
  obtain rfl : q = 0 := hq.2 HOK.out
  have HB1 := Lib.hid (below_next HB0.out hb1)
  have HK1 := Lib.hid (HK.out.below hb1 HK.out.lt)
  have d0 := HK1.out.cell 0
  have d1 : w1.cell? ⟨g0, 1, none⟩ = some (.slice C p.c.length cc) := HK1.out.cell 1
  clear hq hb1 HB0 HK HC d0
  go_wp2
  go_ret
  exact ⟨rfl, HB1.out⟩
/-- what holds in the loop of free -/
def FreeRel (g2 g3 base : Nat) (a : Int) (L : List Spn) (w w1 : World) (i : Value) (wr : World) : Prop := ∃ j : Nat, j ≤ L.length ∧ i = .int .i64 j ∧ Below w.heap.size w wr ∧ w1.heap.size ≤ wr.heap.size ∧ (∀ q, q < w1.heap.size → q ≠ g2 → q ≠ g3 → wr.heap[q]? = w1.heap[q]?) ∧ Boxed wr g3 3 (.int .i64 (freeG a (L.take j)).2) ∧ ∃ v, Boxed wr g2 136 v ∧ wr.ownsRow base 142 2 v (freeG a (L.take j)).1.length ((freeG a (L.take j)).1.flatMap spE.f)
theorem bk_same {w w' : World} {g : Nat} {t : TypeId} {cs : Array Value} (h : Bk w g t cs) (he : w'.heap[g]? = w.heap[g]?) : Bk w' g t cs := he.trans h
theorem range_same {w w' : World} {b o : Nat} {cs : List Value} (he : w'.heap[b]? = w.heap[b]?) (h : w.rangeAt b o cs) : w'.rangeAt b o cs := fun j v hv => by
  have := h j v hv
  unfold World.cell? at this ⊢
  rw [he]; exact this
set_option maxHeartbeats 4000000 in
set_option maxRecDepth 100000 in
theorem free_any (Aq : Option Addr) (cq : Nat) (C : Option Addr) (cc : Nat) (p : Pln) (B : Option Addr) (cb : Nat) (l : List Bkg) (k : Nat) (r : Ct) (w : World) (hp : PlnAt w Aq cq C cc p) (hl : SlAt bkE w B l) (hln : l.length ≤ 100000) (hr : p.c[k]? = some r) :
    Calls Tryz.prog 135 #[.agg #[.slice Aq p.q.length cq, .slice C p.c.length cc], .slice B l.length cb, .int .i64 k, .int .i64 r.beg] w (RetSl spE (freeL r (busyL l k) r.beg) w) := by
  have hk : k < p.c.length := (List.getElem?_eq_some_iff.1 hr).1
  obtain ⟨b, off, rfl, -⟩ := hp.c.one (by omega)
  have HB0 : Hid (Below w.heap.size w (w.alloc (.cells #[.slice Aq p.q.length cq, .slice (some ⟨b, off, none⟩) p.c.length cc] 25))) := (Below.refl _ _).alloc (Nat.le_refl _) _
  have hm := hp.cm
  unfold maxLen at hm
  have hrg : (w.alloc (.cells #[.slice Aq p.q.length cq, .slice (some ⟨b, off, none⟩) p.c.length cc] 25)).rangeAt b (off + k * 7) (ctE.f r) := by
    obtain ⟨b', o', e, h⟩ := hp.c k r hr
    cases e
    exact range_below h HB0.out
  have c0 : (w.alloc (.cells #[.slice Aq p.q.length cq, .slice (some ⟨b, off, none⟩) p.c.length cc] 25)).cell? ⟨b, off + k * 7, none⟩ = some (.int .i64 r.src) := hrg 0 _ rfl
  have c1 : (w.alloc (.cells #[.slice Aq p.q.length cq, .slice (some ⟨b, off, none⟩) p.c.length cc] 25)).cell? ⟨b, off + k * 7 + 1, none⟩ = some (.int .i64 r.dst) := hrg 1 _ rfl
  have c2 : (w.alloc (.cells #[.slice Aq p.q.length cq, .slice (some ⟨b, off, none⟩) p.c.length cc] 25)).cell? ⟨b, off + k * 7 + 2, none⟩ = some (.int .i64 r.beg) := hrg 2 _ rfl
  have c3 : (w.alloc (.cells #[.slice Aq p.q.length cq, .slice (some ⟨b, off, none⟩) p.c.length cc] 25)).cell? ⟨b, off + k * 7 + 3, none⟩ = some (.int .i64 r.fin) := hrg 3 _ rfl
  have c4 : (w.alloc (.cells #[.slice Aq p.q.length cq, .slice (some ⟨b, off, none⟩) p.c.length cc] 25)).cell? ⟨b, off + k * 7 + 4, none⟩ = some (.int .i64 r.rate) := hrg 4 _ rfl
  have c5 : (w.alloc (.cells #[.slice Aq p.q.length cq, .slice (some ⟨b, off, none⟩) p.c.length cc] 25)).cell? ⟨b, off + k * 7 + 5, none⟩ = some (.int .i64 r.rng) := hrg 5 _ rfl
  have c6 : (w.alloc (.cells #[.slice Aq p.q.length cq, .slice (some ⟨b, off, none⟩) p.c.length cc] 25)).cell? ⟨b, off + k * 7 + 6, none⟩ = some (.int .i64 r.loss) := hrg 6 _ rfl
  have HL := Lib.hid hl
  have HLN := Lib.hid hln
  clear hr hp hl hrg hln HB0
  go_enter Tryz.func135, Tryz.ntmps135
  go_wp2_with fail
  clear c0 c1 c2 c3 c4 c5 c6
  have HBW : Hid (Below w.heap.size w ((((w.alloc (.cells #[.slice Aq p.q.length cq, .slice (some ⟨b, off, none⟩) p.c.length cc] 25)).alloc (.cells (ctA r) 104)).alloc (.cells #[.slice none 0 0] 136)).alloc (.cells #[.int .i64 r.beg] 3))) := ((((Below.refl _ _).alloc (Nat.le_refl _) _).alloc (by simp) _).alloc (by simp; omega) _).alloc (by simp; omega) _
  have HC : Hid (Bk ((((w.alloc (.cells #[.slice Aq p.q.length cq, .slice (some ⟨b, off, none⟩) p.c.length cc] 25)).alloc (.cells (ctA r) 104)).alloc (.cells #[.slice none 0 0] 136)).alloc (.cells #[.int .i64 r.beg] 3)) (w.heap.size + 1) 104 (ctA r)) := by
    have h := Bk.new (w.alloc (.cells #[.slice Aq p.q.length cq, .slice (some ⟨b, off, none⟩) p.c.length cc] 25)) 104 (ctA r)
    rw [World.size_alloc] at h
    exact (h.alloc _).alloc _
  have HO : Hid (Boxed ((((w.alloc (.cells #[.slice Aq p.q.length cq, .slice (some ⟨b, off, none⟩) p.c.length cc] 25)).alloc (.cells (ctA r) 104)).alloc (.cells #[.slice none 0 0] 136)).alloc (.cells #[.int .i64 r.beg] 3)) (w.heap.size + 1 + 1) 136 (.slice none 0 0)) := by
    have h := Boxed.new ((w.alloc (.cells #[.slice Aq p.q.length cq, .slice (some ⟨b, off, none⟩) p.c.length cc] 25)).alloc (.cells (ctA r) 104)) 136 (.slice none 0 0)
    rw [World.size_alloc, World.size_alloc] at h
    exact h.alloc _
  have HA : Hid (Boxed ((((w.alloc (.cells #[.slice Aq p.q.length cq, .slice (some ⟨b, off, none⟩) p.c.length cc] 25)).alloc (.cells (ctA r) 104)).alloc (.cells #[.slice none 0 0] 136)).alloc (.cells #[.int .i64 r.beg] 3)) (w.heap.size + 1 + 1 + 1) 3 (.int .i64 r.beg)) := by
    have h := Boxed.new (((w.alloc (.cells #[.slice Aq p.q.length cq, .slice (some ⟨b, off, none⟩) p.c.length cc] 25)).alloc (.cells (ctA r) 104)).alloc (.cells #[.slice none 0 0] 136)) 3 (.int .i64 r.beg)
    rw [World.size_alloc, World.size_alloc, World.size_alloc] at h
    exact h
  have HSZ : Hid (((((w.alloc (.cells #[.slice Aq p.q.length cq, .slice (some ⟨b, off, none⟩) p.c.length cc] 25)).alloc (.cells (ctA r) 104)).alloc (.cells #[.slice none 0 0] 136)).alloc (.cells #[.int .i64 r.beg] 3)).heap.size = w.heap.size + 4) := by show _ = _; simp
  generalize (((w.alloc (.cells #[.slice Aq p.q.length cq, .slice (some ⟨b, off, none⟩) p.c.length cc] 25)).alloc (.cells (ctA r) 104)).alloc (.cells #[.slice none 0 0] 136)).alloc (.cells #[.int .i64 r.beg] 3) = W at HBW HC HO HA HSZ ⊢
  refine (busy_any B cb l k W (HL.out.below HBW.out) HLN.out).mono ?_
  rintro e w1 ⟨A1, k1, rfl, hs1, hc1, hbk, hb1⟩
  have hbl : (busyL l k).length ≤ 100000 := Nat.le_trans (busyL_len _ _) HLN.out
  have HF : Hid (freeL r (busyL l k) r.beg = (freeG r.beg (busyL l k)).1 ++ gapL (freeG r.beg (busyL l k)).2 r.fin) := by
    show _ = _
    unfold freeL
    rw [show max r.beg r.beg = r.beg by omega]
  generalize hL : busyL l k = L at hs1 hc1 hbl HF ⊢
  have HLE := Lib.hid hL
  clear hL
  have HC1 : Hid (Bk w1 (w.heap.size + 1) 104 (ctA r)) := HC.out.below hb1 HC.out.lt
  have HO1 : Hid (Boxed w1 (w.heap.size + 1 + 1) 136 (.slice none 0 0)) := (hb1.block _ HO.out.lt).trans HO.out
  have HA1 : Hid (Boxed w1 (w.heap.size + 1 + 1 + 1) 3 (.int .i64 r.beg)) := (hb1.block _ HA.out.lt).trans HA.out
  have HB1 : Hid (Below w.heap.size w w1) := below_next HBW.out hb1
  have HZ1 : Hid (w.heap.size + 4 ≤ w1.heap.size ∧ ∀ a, A1 = some a → w.heap.size + 4 ≤ a.block ∧ a.block < w1.heap.size ∨ L.length = 0) := by
    have h1 := hb1.size
    have h2 := HSZ.out
    refine ⟨by omega, fun a ha => ?_⟩
    by_cases h0 : L.length = 0
    · exact .inr h0
    · obtain ⟨b', off', hA, hr⟩ := hs1.one (by omega)
      rw [ha] at hA
      cases hA
      have := hbk _ ha
      refine .inl ⟨by omega, ?_⟩
      exact World.block_lt_of_cell? _ _ (hr 0 L[0] (List.getElem?_eq_getElem (by omega)) 0 _ rfl)
  have HS1 := Lib.hid hs1
  clear hs1 hbk hb1 HBW HC HO HA HSZ HL HLN hc1
  go_wp2
  go_loopw [29] (fun i wr => FreeRel (w.heap.size + 1 + 1) (w.heap.size + 1 + 1 + 1) w1.heap.size r.beg L w w1 i wr) (fun i _ => L.length - (intOf i).toNat)
  case atStart => exact ⟨0, Nat.zero_le _, rfl, HB1.out, Nat.le_refl _, fun _ _ _ _ => rfl, HA1.out, _, HO1.out, rfl, .inl ⟨rfl, rfl⟩⟩
  case round =>
    obtain ⟨j, hj, rfl, hb, hsz, hkeep, hba, v, hbo, hrow⟩ := hrel
    have HB := Lib.hid hb
    have HK := Lib.hid hkeep
    have HBA := Lib.hid hba
    have HBO := Lib.hid hbo
    have HRW := Lib.hid hrow
    have HCW : Hid (Bk wr (w.heap.size + 1) 104 (ctA r)) := bk_same HC1.out (hkeep _ HC1.out.lt (by omega) (by omega))
    have HLM : Hid ((freeG r.beg (L.take j)).1.length ≤ 100000) := by
      show _ ≤ _
      have h1 := freeG_len r.beg (L.take j)
      have h2 : (L.take j).length ≤ L.length := by rw [List.length_take]; omega
      omega
    clear hb hkeep hba hbo hrow
    by_cases hlt : j < L.length
    · obtain ⟨b1, off1, rfl, hr⟩ := HS1.out.one (by omega)
      obtain ⟨x, hrk⟩ : ∃ x, L[j]? = some x := ⟨_, List.getElem?_eq_getElem hlt⟩
      have hbl1 : w.heap.size + 4 ≤ b1 ∧ b1 < w1.heap.size := by
        rcases HZ1.out.2 _ rfl with h | h
        · exact h
        · omega
      have hrg : wr.rangeAt b1 (off1 + j * 2) (spE.f x) := range_same (HK.out b1 hbl1.2 (by omega) (by omega)) (hr j x hrk)
      have c0 : wr.cell? ⟨b1, off1 + j * 2, none⟩ = some (.int .i64 x.frm) := hrg 0 _ rfl
      have c1 : wr.cell? ⟨b1, off1 + j * 2 + 1, none⟩ = some (.int .i64 x.til) := hrg 1 _ rfl
      have HSN : Hid (freeG r.beg (L.take (j + 1)) = ((freeG r.beg (L.take j)).1 ++ gapL (freeG r.beg (L.take j)).2 x.frm, max (freeG r.beg (L.take j)).2 x.til)) := by
        show _ = _
        rw [take_snoc hrk]; exact freeG_snoc _ _ _
      generalize (freeG r.beg (L.take j)).1 = M at HRW HSN HLM
      generalize (freeG r.beg (L.take j)).2 = a at HBA HSN
      clear hr hrk hrg hbl1
      have HN1 : Hid (Bk (wr.alloc (.cells #[.int .i64 x.frm, .int .i64 x.til] 142)) wr.heap.size 142 #[.int .i64 x.frm, .int .i64 x.til]) := Bk.new _ _ _
      have HVB : Hid (v.ownBlock ≠ some wr.heap.size ∧ v.ownBlock ≠ some (w.heap.size + 1) ∧ ∀ q, q < w1.heap.size → v.ownBlock ≠ some q) := by
        refine ⟨fun e => ?_, fun e => ?_, fun q hq e => ?_⟩
        · have := (HRW.out.lt _ e).2; omega
        · have := (HRW.out.lt _ e).1
          have := HZ1.out.1
          omega
        · have := (HRW.out.lt _ e).1; omega
      go_wp2_with fail
      refine (add_any (w.heap.size + 1 + 1 + 1) (w.heap.size + 1 + 1) w1.heap.size M a x.frm v (wr.alloc (.cells #[.int .i64 x.frm, .int .i64 x.til] 142)) (HBA.out.alloc _) (HBO.out.alloc _) (HRW.out.alloc _) (by simp; omega) HLM.out).mono ?_
      rintro e w4 ⟨rfl, v', y1, y2, y3, y4, y5, y6⟩
      have z1 : Hid (w.heap.size + 4 ≤ w1.heap.size) := HZ1.out.1
      have HBN : Hid (Below w.heap.size w w4) := (HB.out.alloc HB.out.size _).trans (y6 w.heap.size (by have := z1.out; omega) (by omega))
      have HXN : Hid (Bk w4 wr.heap.size 142 #[.int .i64 x.frm, .int .i64 x.til]) := bk_same HN1.out (y5 _ (by simp) (by have := HBO.out.lt; omega) HVB.out.1)
      have HCN : Hid (Bk w4 (w.heap.size + 1) 104 (ctA r)) := bk_same (HCW.out.alloc _) (y5 _ (by have := HCW.out.lt; simp; omega) (by omega) HVB.out.2.1)
      have HSZ4 : Hid (wr.heap.size + 1 ≤ w4.heap.size) := by show _ ≤ _; simpa using y4
      have HK4 : Hid (∀ q, q < w1.heap.size → q ≠ w.heap.size + 1 + 1 → q ≠ w.heap.size + 1 + 1 + 1 → w4.heap[q]? = w1.heap[q]?) := fun q hq h2 h3 =>
        (y5 q (by simp; omega) h2 (HVB.out.2.2 q hq)).trans ((Below.heap_alloc wr _ q (by omega)).trans (HK.out q hq h2 h3))
      have HY1 := Lib.hid y1
      have HY2 := Lib.hid y2
      have HY3 := Lib.hid y3
      have d0 : w4.cell? ⟨w.heap.size + 1 + 1 + 1, 0, none⟩ = some (.int .i64 a) := HY1.out.cell
      have d1 : w4.cell? ⟨wr.heap.size, 1, none⟩ = some (.int .i64 x.til) := HXN.out.cell 1
      have d2 : w4.frozen? ⟨w.heap.size + 1 + 1 + 1, 0, none⟩ = false := HY1.out.frozen
      clear c0 c1 y1 y2 y3 y4 y5 y6 HB HBA HBO HRW HCW HK HN1
      have fin : ∀ m : Int, m = max a x.til → FreeRel (w.heap.size + 1 + 1) (w.heap.size + 1 + 1 + 1) w1.heap.size r.beg L w w1 (.int .i64 (↑j + 1)) (w4.setCell ⟨w.heap.size + 1 + 1 + 1, 0, none⟩ (.int .i64 m)) := by
        rintro m rfl
        have hne : w.heap.size + 1 + 1 ≠ w.heap.size + 1 + 1 + 1 := by omega
        refine ⟨j + 1, by omega, by go_num, HBN.out.setCell (p := ⟨w.heap.size + 1 + 1 + 1, 0, none⟩) (by show w.heap.size ≤ w.heap.size + 1 + 1 + 1; omega) _, ?_, fun q hq h2 h3 => ?_, ?_, v', ?_, ?_⟩
        · have := HSZ4.out; simp [World.setCell]; omega
        · exact (Below.heap_setCell w4 ⟨w.heap.size + 1 + 1 + 1, 0, none⟩ _ q h3).trans (HK4.out q hq h2 h3)
        · rw [HSN.out]; exact HY1.out.set _
        · exact HY2.out.kept (grownBy_setCell' w4 (w.heap.size + 1 + 1 + 1) _) (fun e => hne (Option.some.inj e))
        · rw [HSN.out]
          refine HY3.out.kept (grownBy_setCell' w4 (w.heap.size + 1 + 1 + 1) _) (.inr (fun e => ?_))
          have h1 := (HY3.out.lt _ e).1
          have h2 := z1.out
          omega
      have FIN := Lib.hid fin
      clear fin HSN HVB HLM hm
      by_cases hmx : a < x.til
      · go_wp2
        go_roundw
        case rel => exact FIN.out _ (by omega)
        case measure => simp [intOf]; omega
      · go_wp2
        go_roundw
        case rel => exact FIN.out _ (by omega)
        case measure => simp [intOf]; omega
    · have HT : Hid ((freeG r.beg (L.take j)) = freeG r.beg L) := by show _ = _; rw [List.take_of_length_le (by omega)]
      rw [HT.out] at HBA HRW HLM
      have d3 : wr.cell? ⟨w.heap.size + 1, 3, none⟩ = some (.int .i64 r.fin) := HCW.out.cell 3
      generalize (freeG r.beg L).1 = M at HRW HLM HF HT
      generalize (freeG r.beg L).2 = a at HBA HF HT
      clear HT HS1 HK HC1 HO1 HA1
      go_wp2_with fail
      refine (add_any (w.heap.size + 1 + 1 + 1) (w.heap.size + 1 + 1) w1.heap.size M a r.fin v wr HBA.out HBO.out HRW.out hsz HLM.out).mono ?_
      rintro e w4 ⟨rfl, v', y1, y2, y3, y4, y5, y6⟩
      have z1 : Hid (w.heap.size + 4 ≤ w1.heap.size) := HZ1.out.1
      have HBN : Hid (Below w.heap.size w w4) := HB.out.trans (y6 w.heap.size (by have := z1.out; omega) (by omega))
      rw [show M ++ gapL a r.fin = freeL r L r.beg from HF.out.symm] at y3
      obtain ⟨A5, k5, rfl, x1, x2, x3⟩ := sl_of_row2 (E := spE) y3
      have d0 : w4.cell? ⟨w.heap.size + 1 + 1, 0, none⟩ = some (.slice A5 (freeL r L r.beg).length k5) := y2.cell
      have HX1 := Lib.hid x1
      have HX3 : Hid (∀ a, A5 = some a → w.heap.size ≤ a.block) := fun a ha => by have := x3 a ha; have := z1.out; omega
      clear x1 x3 y1 y2 y3 y4 y5 y6 HB HBA HBO HRW HCW HLM HF d3
      go_wp2
      go_ret
      show RetSl spE (freeL r (busyL l k) r.beg) w _ _
      rw [HLE.out]
      exact ⟨A5, k5, rfl, HX1.out, x2, HX3.out, HBN.out⟩
set_option maxHeartbeats 4000000 in
set_option maxRecDepth 100000 in
theorem free_yes (Aq : Option Addr) (cq : Nat) (C : Option Addr) (cc : Nat) (p : Pln) (B : Option Addr) (cb : Nat) (l : List Bkg) (k : Nat) (r : Ct) (w : World) (hp : PlnAt w Aq cq C cc p) (hl : SlAt bkE w B l) (hlm : l.length ≤ 100000) (hok : PlnOK p ∧ BksOK p l) (hr : p.c[k]? = some r) :
    Calls Tryz.prog 62 #[.agg #[.slice Aq p.q.length cq, .slice C p.c.length cc], .slice B l.length cb, .int .i64 k] w (RetSlE spE (freeL r (busyL l k) r.beg) 0 w) := by
  have hk : k < p.c.length := (List.getElem?_eq_some_iff.1 hr).1
  have HB0 : Hid (Below w.heap.size w (w.alloc (.cells #[.slice Aq p.q.length cq, .slice C p.c.length cc] 25))) := (Below.refl _ _).alloc (Nat.le_refl _) _
  have HK := Lib.hid (Bk.new w 25 #[.slice Aq p.q.length cq, .slice C p.c.length cc])
  have HCK := Lib.hid (fun w hp hl => bkck_yes Aq cq C cc p B cb l k w hp hl (by unfold maxLen; omega) hok hk)
  have HFR := Lib.hid (fun w hp hl => free_any Aq cq C cc p B cb l k r w hp hl hlm hr)
  have HP := Lib.hid hp
  have HL := Lib.hid hl
  have HR := Lib.hid hr
  have hm := hp.cm
  clear hp hl hok hr
  unfold maxLen at hm
  have hge : (0 : Int) ≤ (k : Int) := by omega
  have hlt : (k : Int) < (p.c.length : Int) := by omega
  go_enter Tryz.func62, Tryz.ntmps62
  go_wp2_with fail
  generalize w.alloc (.cells #[.slice Aq p.q.length cq, .slice C p.c.length cc] 25) = W at HB0 HK ⊢
  generalize w.heap.size = g0 at HK ⊢
  refine (HCK.out _ (HP.out.below HB0.out) (HL.out.below HB0.out)).mono ?_
  rintro e w1 ⟨rfl, hb1⟩
  have HB1 := Lib.hid (below_next HB0.out hb1)
  have HK1 := Lib.hid (HK.out.below hb1 HK.out.lt)
  have HP1 := Lib.hid (HP.out.below HB1.out)
  have HL1 := Lib.hid (HL.out.below HB1.out)
  obtain ⟨b, off, rfl, hrr⟩ := HP1.out.c.one (by omega)
  have HXG : Hid (w1.rangeAt b (off + k * 7) (ctE.f r)) := hrr k r HR.out
  have HD : Hid (∀ w', Below w1.heap.size w1 w' → (w'.cell? ⟨g0, 0, none⟩ = some (.slice Aq p.q.length cq) ∧ w'.cell? ⟨g0, 1, none⟩ = some (.slice (some ⟨b, off, none⟩) p.c.length cc)) ∧ w'.cell? ⟨b, off + k * 7 + 2, none⟩ = some (.int .i64 r.beg)) := fun w' hb' => by
    have h2 := HK1.out.below hb' HK1.out.lt
    have h5 := range_below HXG.out hb'
    exact ⟨⟨h2.cell 0, h2.cell 1⟩, h5 2 _ rfl⟩
  have HPW : Hid (∀ w', Below w1.heap.size w1 w' → PlnAt w' Aq cq (some ⟨b, off, none⟩) cc p) := fun w' hb' => HP1.out.below hb'
  have HLW : Hid (∀ w', Below w1.heap.size w1 w' → SlAt bkE w' B l) := fun w' hb' => HL1.out.below hb'
  clear hb1 HB0 HK HCK hrr HP HL
  go_wp2_with fail
  go_region_held3 (fun w' => ((w'.cell? ⟨g0, 0, none⟩ = some (.slice Aq p.q.length cq) ∧ w'.cell? ⟨g0, 1, none⟩ = some (.slice (some ⟨b, off, none⟩) p.c.length cc)) ∧ w'.cell? ⟨b, off + k * 7 + 2, none⟩ = some (.int .i64 r.beg)) ∧ Hid (Below w1.heap.size w1 w')) (((try go_split_ands); first | exact held_start HD (Below.refl _ _).drew | exact held_step HD (by assumption) hb4))
    ((go_at_call 135
      refine (HFR.out _ (HPW.out _ (Hid.out (by (try go_split_ands); assumption))) (HLW.out _ (Hid.out (by (try go_split_ands); assumption)))).mono ?_
      rintro e w4 ⟨A4, k4, rfl, hs4, hc4, hbk4, hb4⟩))
  have HBF : Hid (Below w1.heap.size w1 w4) := by (try go_split_ands); assumption
  have HS4 := Lib.hid hs4
  have HK4 : Hid (∀ a, A4 = some a → w.heap.size ≤ a.block) := fun a ha => Nat.le_trans HB1.out.size (hbk4 a ha)
  clear hs4 hbk4 hb4 HD HPW HLW HFR
  go_wp2
  go_ret2
  exact ⟨A4, k4, rfl, HS4.out, hc4, HK4.out, below_next HB1.out HBF.out⟩
end Go.Proofs.YtebkgbmijocdjaaGreat.Tp
