/- Compact of the program, walked. Conditions: at most 16 records that lie in memory; lengths below the model's greatest. -/
import Derived.Test.YtlknjdfiedkhbaaJoMaps
import Derived.Test.YtlknjdfiedkhbaaJoChk
import Derived.Test.YtlknjdfiedkhbaaJoEnc
namespace Go.Proofs.Ytlknjdfiedkhbaa
open Go Go.RowKit
open Jo (RId Itm Rec wi vId ckI ck zId zIt idA itA rcA rcL idL)
attribute [-simp] Try.isAgg34 Try.sizeOf34 Try.typeInfo34

def CmpInv (l : List Rec) (w wr : World) (k : Nat) : Prop := MapIs wr w.heap.size (runC l k).1 ∧ MapIs wr (w.heap.size + 1) (runC l k).2 ∧ Below w.heap.size w wr ∧ w.heap.size + 1 < wr.heap.size ∧ errK (l.take k) = 0
theorem CmpInv.skip {l : List Rec} {w w1 : World} {k : Nat} (h : CmpInv l w w1 k) (o : Obj) (hs : runC l (k + 1) = runC l k) (he : errK (l.take (k + 1)) = 0) : CmpInv l w (w1.alloc o) (k + 1) := by
  refine ⟨?_, ?_, h.2.2.1.alloc h.2.2.1.size o, by have := h.2.2.2.1; simp; omega, he⟩
  · rw [hs]; exact h.1.kept (World.grownBy_alloc _ _ none) (by simp)
  · rw [hs]; exact h.2.1.kept (World.grownBy_alloc _ _ none) (by simp)
theorem CmpInv.put1' {l : List Rec} {w w1 w2 : World} {k : Nat} {F : MapF} (h : CmpInv l w w1 k) (hm : MapIs w2 w.heap.size F) (hg : w1.grownBy w2 (some w.heap.size)) (hs : runC l (k + 1) = (F, (runC l k).2)) (he : errK (l.take (k + 1)) = 0) : CmpInv l w w2 (k + 1) := by
  refine ⟨?_, ?_, h.2.2.1.grown hg h.2.2.1.size (fun j hj => by cases hj; exact Nat.le_refl _), Nat.lt_of_lt_of_le h.2.2.2.1 hg.size, he⟩
  · rw [hs]; exact hm
  · rw [hs]; exact h.2.1.kept hg (by simp)
theorem CmpInv.put1 {l : List Rec} {w w1 w2 : World} {k : Nat} {F : MapF} (h : CmpInv l w w1 k) (o : Obj) (hm : MapIs w2 w.heap.size F) (hg : (w1.alloc o).grownBy w2 (some w.heap.size)) (hs : runC l (k + 1) = (F, (runC l k).2)) (he : errK (l.take (k + 1)) = 0) : CmpInv l w w2 (k + 1) :=
  h.put1' hm ((World.grownBy_alloc w1 o _).trans hg) hs he
theorem CmpInv.put2 {l : List Rec} {w w1 w2 : World} {k : Nat} {F : MapF} (h : CmpInv l w w1 k) (o : Obj) (hm : MapIs w2 (w.heap.size + 1) F) (hg : (w1.alloc o).grownBy w2 (some (w.heap.size + 1))) (hs : runC l (k + 1) = ((runC l k).1, F)) (he : errK (l.take (k + 1)) = 0) : CmpInv l w w2 (k + 1) := by
  have hg' := (World.grownBy_alloc w1 o (some (w.heap.size + 1))).trans hg
  refine ⟨?_, ?_, h.2.2.1.grown hg' h.2.2.1.size (fun j hj => by cases hj; omega), Nat.lt_of_lt_of_le h.2.2.2.1 hg'.size, he⟩
  · rw [hs]; exact h.1.kept hg' (by simp)
  · rw [hs]; exact hm

theorem infoRecB : (Try.prog.info? 34).map (fun i => (i.zero, i.size, i.bytes)) = some (some (.agg (rcA zRec)), 19, 160) := by kernel_rfl
/-- what the second loop keeps -/
def Inv2 (l : List Rec) (S : MapF × MapF) (w wr : World) (v : Value) (k : Nat) : Prop :=
  MapIs wr w.heap.size S.1 ∧ MapIs wr (w.heap.size + 1) S.2 ∧ Below w.heap.size w wr ∧ w.heap.size + 1 < wr.heap.size ∧ wr.ownsRow (w.heap.size + 2) 34 19 v (outC l S k).length ((outC l S k).flatMap rcL)

theorem Inv2.step {l : List Rec} {S : MapF × MapF} {w W W' : World} {v : Value} {k : Nat} {row : Option Nat} (h : Inv2 l S w W v k) (hg : W.grownBy W' row) (hr : ∀ j, row = some j → w.heap.size + 2 ≤ j ∧ v.ownBlock ≠ some j) : Inv2 l S w W' v k := by
  refine ⟨h.1.kept hg (fun e => ?_), h.2.1.kept hg (fun e => ?_), h.2.2.1.grown hg h.2.2.1.size (fun j hj => by have := (hr j hj).1; omega), Nat.lt_of_lt_of_le h.2.2.2.1 hg.size, h.2.2.2.2.kept hg ?_⟩
  · have := (hr _ e.symm).1; omega
  · have := (hr _ e.symm).1; omega
  · cases hv : v.ownBlock with
    | none => exact Or.inl rfl
    | some g => exact Or.inr (fun e => (hr g e.symm).2 hv)
theorem grown_set (W : World) (a : Addr) (u : Value) : W.grownBy (W.setCell a u) (some a.block) := ⟨rfl, rfl, rfl, by simp, fun k _ hne => Below.heap_setCell W a u k (fun e => hne (by rw [e]))⟩
theorem tick_range {W : World} {p : Nat} {r : Rec} {v2 : Int} (h : ∀ j v, (rcL r)[j]? = some v → W.cell? ⟨p, j, none⟩ = some v) : (W.setCell ⟨p, 1, none⟩ (.int .i64 v2)).rangeAt p 0 (rcL (tickC r v2)) := fun j v hv => by
  have e : rcL (tickC r v2) = (rcL r).set 1 (.int .i64 v2) := rfl
  rw [Nat.zero_add]
  by_cases c : j = 1
  · subst c
    rw [e, List.getElem?_set_self (by simp [rcL])] at hv
    obtain rfl := Option.some.inj hv
    exact World.cell?_setCell_same _ _ _ (h 1 _ rfl)
  · rw [e, List.getElem?_set_ne (fun q => c q.symm)] at hv
    exact (World.cell?_setCell_other _ _ _ _ (fun q => c (by cases q; rfl))).trans (h j v hv)

theorem upon_as {P : Program} {o : Oper} {a : Act} {X : Result Next} {K : Act → World → Prop} {Q : Exit → Act → World → Prop} (Y : Result Next) (e : X = Y) (h : Oper.upon P o a K Q Y) : Oper.upon P o a K Q X := by rw [e]; exact h

theorem Inv2.push {l : List Rec} {S : MapF × MapF} {w W w4 : World} {v v' : Value} {k : Nat} {r2 : Rec} (h : Inv2 l S w W v k) (o : Obj) (hown : w4.ownsRow (w.heap.size + 2) 34 19 v' ((outC l S k).length + 1) ((outC l S k).flatMap rcL ++ rcL r2))
    (hg : (W.alloc o).grownBy w4 v.ownBlock) (hs : outC l S (k + 1) = outC l S k ++ [r2]) : Inv2 l S w w4 v' (k + 1) := by
  have hg' := (World.grownBy_alloc W o v.ownBlock).trans hg
  have hr : ∀ j, v.ownBlock = some j → w.heap.size + 2 ≤ j := fun j hj => (h.2.2.2.2.lt j hj).1
  refine ⟨h.1.kept hg' (fun e => ?_), h.2.1.kept hg' (fun e => ?_), h.2.2.1.grown hg' h.2.2.1.size (fun j hj => by have := hr j hj; omega), Nat.lt_of_lt_of_le h.2.2.2.1 hg'.size, ?_⟩
  · have := hr _ e.symm; omega
  · have := hr _ e.symm; omega
  · rw [hs]
    simpa using hown
theorem Inv2.skip {l : List Rec} {S : MapF × MapF} {w W : World} {v : Value} {k : Nat} (h : Inv2 l S w W v k) (hs : outC l S (k + 1) = outC l S k) : Inv2 l S w W v (k + 1) := by
  unfold Inv2 at h ⊢
  rw [hs]
  exact h
theorem flat_get : ∀ (L : List Rec) (k : Nat) (r : Rec), L[k]? = some r → ∀ j v, (rcL r)[j]? = some v → (L.flatMap rcL)[k * 19 + j]? = some v
  | [], k, r, h, _, _, _ => by simp at h
  | x :: L, 0, r, h, j, v, hv => by
    simp only [List.getElem?_cons_zero, Option.some.injEq] at h
    subst h
    have hj : j < (rcL x).length := (List.getElem?_eq_some_iff.1 hv).1
    rw [List.flatMap_cons, Nat.zero_mul, Nat.zero_add, List.getElem?_append_left hj]
    exact hv
  | x :: L, k + 1, r, h, j, v, hv => by
    have hl : (rcL x).length = 19 := rfl
    rw [List.flatMap_cons, List.getElem?_append_right (by omega), hl]
    have e : (k + 1) * 19 + j - 19 = k * 19 + j := by omega
    rw [e]
    exact flat_get L k r (by simpa using h) j v hv
theorem recs_of_row {w : World} {base : Nat} {v : Value} {L : List Rec} (h : w.ownsRow base 34 19 v L.length (L.flatMap rcL)) : ∃ A c, v = .slice A L.length c ∧ RecsAt w A L := by
  have hc := fun g hg => h.cells (g := g) hg
  rcases h.2 with ⟨rfl, h0⟩ | ⟨g, cap, cur, rfl, _⟩
  · have : L = [] := List.eq_nil_of_length_eq_zero h0
    subst this
    exact ⟨none, 0, rfl, RecsAt.nil _ _⟩
  · refine ⟨_, cap, rfl, fun k r hk => ⟨g, 0, rfl, fun j u hu => ?_⟩⟩
    have := hc g rfl _ u (flat_get L k r hk j u hu)
    rw [Addr.add_mid] at this
    rw [Nat.add_assoc]
    exact this

set_option maxHeartbeats 2000000 in
set_option maxRecDepth 100000 in
theorem compact_any (A : Option Addr) (cA : Nat) (l : List Rec) (w : World) (hl : l.length ≤ 16) (hd : ∀ r ∈ l, r.item.data.size ≤ maxLen) (hA : RecsAt w A l) :
    Calls Try.prog 11 #[.slice A l.length cA] w fun e w' => ∃ A' c', e = .returned (.tuple #[.slice A' (cmpL l).length c', .int .i64 (errK l)]) ∧ RecsAt w' A' (cmpL l) ∧ Below w.heap.size w w' := by
  have HA := Lib.hid hA
  have HD := Lib.hid hd
  have hz := (zero_of_info infoRec).1
  have HZ := Lib.hid hz
  clear hA hd hz
  obtain ⟨i0, hi0, hz0, hz1, hz2⟩ := info_parts infoRecB
  have HI := Lib.hid (And.intro hi0 (And.intro hz0 (And.intro hz1 hz2)))
  clear hi0 hz0 hz1 hz2
  have hmm := @run_makeMap Try.prog
  have HI0 : Hid (CmpInv l w ((w.alloc (.map #[] 0)).alloc (.map #[] 0)) 0) := by
    refine ⟨(MapIs.made w).kept (World.grownBy_alloc _ _ none) (by simp), ?_, ((Below.refl _ _).alloc (Nat.le_refl _) _).alloc (by simp) _, ?_, rfl⟩
    · have := MapIs.made (w.alloc (.map #[] 0))
      simpa [runC] using this
    · simp
  go_enter Try.func11, Try.ntmps11
  go_wp2
  clear hmm
  generalize (w.alloc (.map #[] 0)).alloc (.map #[] 0) = W0 at HI0 ⊢
  go_loopw [6, 7, 8, 9, 10, 11, 12, 13, 14, 24] (fun _ _ _ _ _ _ _ _ _ i wr => ∃ k : Nat, k ≤ l.length ∧ i = .int .i64 k ∧ CmpInv l w wr k) (fun _ _ _ _ _ _ _ _ _ i _ => l.length - (intOf i).toNat)
  case atStart => exact ⟨0, Nat.zero_le _, rfl, HI0.out⟩
  case round =>
    clear HI0
    obtain ⟨k, hk, rfl, hinv⟩ := hrel
    have HX := Lib.hid hinv
    clear hinv
    by_cases hlt : k < l.length
    · obtain ⟨b, off, rfl, hr⟩ := HA.out.one (by omega)
      obtain ⟨r, hrk⟩ : ∃ r, l[k]? = some r := ⟨_, List.getElem?_eq_getElem hlt⟩
      have HRK := Lib.hid hrk
      have hrg := range_below (hr k r hrk) (HX.out.2.2.1)
      have hlc := loadCells_range (P := Try.prog) hrg (n := 19) rfl
      clear hr hrk hrg
      have hsc : Sem.run Try.prog (storeCells ⟨wr.heap.size, 0, none⟩ (rcL r)) (wr.alloc (.cells (rcA zRec) 34)) = .ok () (wr.alloc (.cells (rcA r) 34)) := run_storeCells_new (P := Try.prog) wr 34 (rcA zRec) (rcA r) sizeRec rfl (Jo.rcA_one r)
      have hlc2 := loadCells_bk (P := Try.prog) (Bk.new wr 34 (rcA r)) (Jo.rcA_size r)
      have hz := HZ.out
      have hlen : (rcL r).length = 19 := rfl
      have HN := Lib.hid (fun w => check_any r (HD.out r (List.mem_of_getElem? HRK.out)) w)
      have HSP := Lib.hid (errK_split l k r HRK.out HX.out.2.2.2.2)
      have HST := Lib.hid (runC_step l k r HRK.out)
      have HID := Lib.hid (@ck_ids r)
      generalize ck r = q at HN HSP HID
      go_wp2_with fail
      simp only [Try.sizeOf34, Result.andThen]
      rw [Oper.upon_value]
      go_wp2_with fail
      simp only [Try.isAgg34, Try.sizeOf34, Result.andThen, ↓reduceIte, hlc]
      rw [Oper.upon_value]
      clear hlc
      go_wp2_with fail
      simp only [Try.sizeOf34, Result.andThen, ↓reduceIte, hsc]
      rw [Oper.upon_skip]
      clear hsc hz hlen
      go_wp2_with fail
      simp only [Try.isAgg34, Try.sizeOf34, Result.andThen, ↓reduceIte, hlc2]
      rw [Oper.upon_value]
      clear hlc2
      go_wp2_with fail
      refine (HN.out _).mono ?_
      rintro e w1 ⟨rfl, hb1⟩
      have hblk : w1.heap[wr.heap.size]? = some (.cells (rcA r) 34 (0, 0)) := (hb1.block wr.heap.size (by simp)).trans (MapKept.heap_alloc wr _).1
      replace hb1 := below_box1 hb1
      have HX1 : Hid (CmpInv l w w1 k) := ⟨HX.out.1.below hb1 HX.out.1.lt, HX.out.2.1.below hb1 HX.out.2.1.lt, HX.out.2.2.1.trans (hb1.mono HX.out.2.2.1.size), Nat.lt_of_lt_of_le HX.out.2.2.2.1 hb1.size, HX.out.2.2.2.2⟩
      have hlp : wr.heap.size < w1.heap.size := (Array.getElem?_eq_some_iff.1 hblk).1
      clear hb1 HX
      generalize wr.heap.size = p at hblk hlp ⊢
      have HC : Hid (∀ j v, (rcL r)[j]? = some v → w1.cell? ⟨p, j, none⟩ = some v) := fun j v hv => by
        show w1.cell? ⟨p, j, none⟩ = some v
        simpa [World.cell?, hblk, rcA] using hv
      have HC2 : Hid (∀ o j v, (rcL r)[j]? = some v → (w1.alloc o).cell? ⟨p, j, none⟩ = some v) := fun o j v hv =>
        ((((Below.refl w1.heap.size w1).alloc (Nat.le_refl _) o).cell (p := ⟨p, j, none⟩) hlp).trans (HC.out j v hv))
      clear hblk hlp
      by_cases hq : q = 0
      · subst hq
        have HE := Lib.hid (HSP.out.1 rfl)
        obtain ⟨hid1, hid2, hkd⟩ := HID.out rfl
        have HI1 := Lib.hid hid1
        have HI2 := Lib.hid hid2
        clear HSP HID hid1 hid2 HN
        have c0 := HC.out 0 _ rfl
        generalize hkk : r.kind = kk at c0 hkd
        have HKK := Lib.hid hkk
        clear hkk
        rcases hkd with rfl | rfl | rfl | rfl
        · obtain ⟨v1, v2, hv⟩ : ∃ v1 v2, ((runC l k).1 r.item.id).getD (0, 0) = (v1, v2) := ⟨_, _, rfl⟩
          have c1 := HC.out 1 _ rfl
          have c2 := HC.out 2 _ rfl
          have c3 := HC.out 3 _ rfl
          have c4 := HC.out 4 _ rfl
          have c5 := HC.out 5 _ rfl
          have c6 := HC.out 6 _ rfl
          by_cases hs : ((runC l k).1 r.item.id).isSome = true
          · have HS := Lib.hid hs
            have HV := Lib.hid hv
            have HR : Hid (runC l (k + 1) = runC l k) := by show _ = _; rw [HST.out]; unfold stC; simp [HKK.out, HS.out]
            clear hs hv
            go_wp2_with (at_lookup; refine wpList_look _ rfl _ _ rfl w.heap.size (runC l k).1 rfl HX1.out.1 r.item.id rfl HI1.out v1 v2 true HV.out HS.out ?_)
            go_roundw
            case rel => exact ⟨k + 1, by omega, by go_num, HX1.out.skip _ HR.out HE.out⟩
            case measure => simp [intOf]; omega
          · have hs' : ((runC l k).1 r.item.id).isSome = false := by simpa using hs
            have HS := Lib.hid hs'
            have HV := Lib.hid hv
            have HR : Hid (runC l (k + 1) = (putF (runC l k).1 r.item.id ((k : Int), r.item.tick), (runC l k).2)) := by show _ = _; rw [HST.out]; unfold stC; simp [HKK.out, HS.out]
            clear hs hv hs'
            have d1 := HC2.out (.cells #[.int .i64 v1, .int .i64 v2] 59) 1 _ rfl
            have d2 := HC2.out (.cells #[.int .i64 v1, .int .i64 v2] 59) 2 _ rfl
            have d3 := HC2.out (.cells #[.int .i64 v1, .int .i64 v2] 59) 3 _ rfl
            have d4 := HC2.out (.cells #[.int .i64 v1, .int .i64 v2] 59) 4 _ rfl
            have d5 := HC2.out (.cells #[.int .i64 v1, .int .i64 v2] 59) 5 _ rfl
            have d6 := HC2.out (.cells #[.int .i64 v1, .int .i64 v2] 59) 6 _ rfl
            go_wp2_with (first | (at_lookup; refine wpList_look _ rfl _ _ rfl w.heap.size (runC l k).1 rfl HX1.out.1 r.item.id rfl HI1.out v1 v2 false HV.out HS.out ?_) | (at_mapUpdate; refine wpList_put _ rfl _ _ _ rfl w.heap.size (runC l k).1 rfl (HX1.out.1.kept (World.grownBy_alloc _ _ none) (by simp)) r.item.id rfl HI1.out k r.item.tick rfl ?_; intro w2 hm2 hg2))
            have HX2 := Lib.hid (HX1.out.put1 _ hm2 hg2 HR.out HE.out)
            clear hm2 hg2
            go_wp2
            go_roundw
            case rel => exact ⟨k + 1, by omega, by go_num, HX2.out⟩
            case measure => simp [intOf]; omega
        · have c12 := HC.out 12 _ rfl
          have c13 := HC.out 13 _ rfl
          have c14 := HC.out 14 _ rfl
          have c15 := HC.out 15 _ rfl
          have c16 := HC.out 16 _ rfl
          have HR : Hid (runC l (k + 1) = (delF (runC l k).1 r.id, (runC l k).2)) := by show _ = _; rw [HST.out]; unfold stC; simp [HKK.out]
          go_wp2_with (at_delete; refine wpList_del _ rfl _ _ rfl w.heap.size (runC l k).1 rfl HX1.out.1 r.id rfl HI2.out ?_; intro w2 hm2 hg2)
          have HX2 := Lib.hid (HX1.out.put1' hm2 hg2 HR.out HE.out)
          clear hm2 hg2
          go_wp2
          go_roundw
          case rel => exact ⟨k + 1, by omega, by go_num, HX2.out⟩
          case measure => simp [intOf]; omega
        · obtain ⟨v1, v2, hv⟩ : ∃ v1 v2, ((runC l k).2 r.item.id).getD (0, 0) = (v1, v2) := ⟨_, _, rfl⟩
          have c1 := HC.out 1 _ rfl
          have c2 := HC.out 2 _ rfl
          have c3 := HC.out 3 _ rfl
          have c4 := HC.out 4 _ rfl
          have c5 := HC.out 5 _ rfl
          have c6 := HC.out 6 _ rfl
          by_cases hs : ((runC l k).2 r.item.id).isSome = true
          · have HS := Lib.hid hs
            have HV := Lib.hid hv
            have HR : Hid (runC l (k + 1) = runC l k) := by show _ = _; rw [HST.out]; unfold stC; simp [HKK.out, HS.out]
            clear hs hv
            go_wp2_with (at_lookup; refine wpList_look _ rfl _ _ rfl (w.heap.size + 1) (runC l k).2 rfl HX1.out.2.1 r.item.id rfl HI1.out v1 v2 true HV.out HS.out ?_)
            go_roundw
            case rel => exact ⟨k + 1, by omega, by go_num, HX1.out.skip _ HR.out HE.out⟩
            case measure => simp [intOf]; omega
          · have hs' : ((runC l k).2 r.item.id).isSome = false := by simpa using hs
            have HS := Lib.hid hs'
            have HV := Lib.hid hv
            have HR : Hid (runC l (k + 1) = ((runC l k).1, putF (runC l k).2 r.item.id ((k : Int), r.item.tick))) := by show _ = _; rw [HST.out]; unfold stC; simp [HKK.out, HS.out]
            clear hs hv hs'
            have d1 := HC2.out (.cells #[.int .i64 v1, .int .i64 v2] 59) 1 _ rfl
            have d2 := HC2.out (.cells #[.int .i64 v1, .int .i64 v2] 59) 2 _ rfl
            have d3 := HC2.out (.cells #[.int .i64 v1, .int .i64 v2] 59) 3 _ rfl
            have d4 := HC2.out (.cells #[.int .i64 v1, .int .i64 v2] 59) 4 _ rfl
            have d5 := HC2.out (.cells #[.int .i64 v1, .int .i64 v2] 59) 5 _ rfl
            have d6 := HC2.out (.cells #[.int .i64 v1, .int .i64 v2] 59) 6 _ rfl
            go_wp2_with (first | (at_lookup; refine wpList_look _ rfl _ _ rfl (w.heap.size + 1) (runC l k).2 rfl HX1.out.2.1 r.item.id rfl HI1.out v1 v2 false HV.out HS.out ?_) | (at_mapUpdate; refine wpList_put _ rfl _ _ _ rfl (w.heap.size + 1) (runC l k).2 rfl (HX1.out.2.1.kept (World.grownBy_alloc _ _ none) (by simp)) r.item.id rfl HI1.out k r.item.tick rfl ?_; intro w2 hm2 hg2))
            have HX2 := Lib.hid (HX1.out.put2 _ hm2 hg2 HR.out HE.out)
            clear hm2 hg2
            go_wp2
            go_roundw
            case rel => exact ⟨k + 1, by omega, by go_num, HX2.out⟩
            case measure => simp [intOf]; omega
        · obtain ⟨v1, v2, hv⟩ : ∃ v1 v2, ((runC l k).1 r.id).getD (0, 0) = (v1, v2) := ⟨_, _, rfl⟩
          have c12 := HC.out 12 _ rfl
          have c13 := HC.out 13 _ rfl
          have c14 := HC.out 14 _ rfl
          have c15 := HC.out 15 _ rfl
          have c16 := HC.out 16 _ rfl
          have c17 := HC.out 17 _ rfl
          by_cases hs : ((runC l k).1 r.id).isSome = true
          · have HS := Lib.hid hs
            have HV := Lib.hid hv
            have HR : Hid (runC l (k + 1) = (putF (runC l k).1 r.id (v1, r.tick), (runC l k).2)) := by show _ = _; rw [HST.out]; unfold stC; simp [HKK.out, HS.out, HV.out]
            clear hs hv
            have d12 := HC2.out (.cells #[.int .i64 v1, .int .i64 v2] 59) 12 _ rfl
            have d13 := HC2.out (.cells #[.int .i64 v1, .int .i64 v2] 59) 13 _ rfl
            have d14 := HC2.out (.cells #[.int .i64 v1, .int .i64 v2] 59) 14 _ rfl
            have d15 := HC2.out (.cells #[.int .i64 v1, .int .i64 v2] 59) 15 _ rfl
            have d16 := HC2.out (.cells #[.int .i64 v1, .int .i64 v2] 59) 16 _ rfl
            have d17 := HC2.out (.cells #[.int .i64 v1, .int .i64 v2] 59) 17 _ rfl
            go_wp2_with (first | (at_lookup; refine wpList_look _ rfl _ _ rfl w.heap.size (runC l k).1 rfl HX1.out.1 r.id rfl HI2.out v1 v2 true HV.out HS.out ?_) | (at_mapUpdate; refine wpList_put _ rfl _ _ _ rfl w.heap.size (runC l k).1 rfl (HX1.out.1.kept (World.grownBy_alloc _ _ none) (by simp)) r.id rfl HI2.out v1 r.tick rfl ?_; intro w2 hm2 hg2))
            have HX2 := Lib.hid (HX1.out.put1 _ hm2 hg2 HR.out HE.out)
            clear hm2 hg2
            go_wp2
            go_roundw
            case rel => exact ⟨k + 1, by omega, by go_num, HX2.out⟩
            case measure => simp [intOf]; omega
          · have hs' : ((runC l k).1 r.id).isSome = false := by simpa using hs
            have HS := Lib.hid hs'
            have HV := Lib.hid hv
            have HR : Hid (runC l (k + 1) = runC l k) := by show _ = _; rw [HST.out]; unfold stC; simp [HKK.out, HS.out]
            clear hs hv hs'
            go_wp2_with (at_lookup; refine wpList_look _ rfl _ _ rfl w.heap.size (runC l k).1 rfl HX1.out.1 r.id rfl HI2.out v1 v2 false HV.out HS.out ?_)
            go_roundw
            case rel => exact ⟨k + 1, by omega, by go_num, HX1.out.skip _ HR.out HE.out⟩
            case measure => simp [intOf]; omega
      · have HE := Lib.hid (HSP.out.2 hq)
        have hqb : (q != 0) = true := by rw [bne_iff_ne]; exact hq
        have HQ := Lib.hid hq
        clear hq HSP
        go_wp2
        go_ret2
        refine ⟨none, 0, ?_, ?_, HX1.out.2.2.1⟩
        · have : cmpL l = [] := by unfold cmpL; rw [if_neg (fun h => HQ.out (by rw [← HE.out]; exact h))]
          rw [this, HE.out]; rfl
        · have : cmpL l = [] := by unfold cmpL; rw [if_neg (fun h => HQ.out (by rw [← HE.out]; exact h))]
          rw [this]; exact RecsAt.nil _ _
    · have HK : Hid (k = l.length) := by show k = l.length; omega
      have HM1 : Hid (MapIs wr w.heap.size (runC l l.length).1) := by have := HX.out.1; rw [HK.out] at this; exact this
      have HM2 : Hid (MapIs wr (w.heap.size + 1) (runC l l.length).2) := by have := HX.out.2.1; rw [HK.out] at this; exact this
      have HE : Hid (errK l = 0) := by have := HX.out.2.2.2.2; rw [HK.out, List.take_length] at this; exact this
      have HB : Hid (Below w.heap.size w wr ∧ w.heap.size + 1 < wr.heap.size) := ⟨HX.out.2.2.1, HX.out.2.2.2.1⟩
      clear HX
      generalize hSS : runC l l.length = S at HM1 HM2
      have HSS := Lib.hid hSS
      clear hSS
      have HI0 : Hid (Inv2 l S w wr (.slice none 0 0) 0) := ⟨HM1.out, HM2.out, HB.out.1, HB.out.2, rfl, Or.inl ⟨rfl, rfl⟩⟩
      clear HM1 HM2 HB
      go_wp2
      go_loopw [15, 16, 17, 18, 19, 104] (fun v _ _ _ _ i wr => ∃ k : Nat, k ≤ l.length ∧ i = .int .i64 k ∧ Inv2 l S w wr v k) (fun _ _ _ _ _ i _ => l.length - (intOf i).toNat)
      case atStart => exact ⟨0, Nat.zero_le _, rfl, HI0.out⟩
      case round =>
        clear HI0
        obtain ⟨k, hk, rfl, hinv⟩ := hrel
        have HX := Lib.hid hinv
        clear hinv
        by_cases hlt : k < l.length
        · obtain ⟨b, off, rfl, hr⟩ := HA.out.one (by omega)
          obtain ⟨r, hrk⟩ : ∃ r, l[k]? = some r := ⟨_, List.getElem?_eq_getElem hlt⟩
          have HRK := Lib.hid hrk
          have hrg := range_below (hr k r hrk) (HX.out.2.2.1)
          have hlc := loadCells_range (P := Try.prog) hrg (n := 19) rfl
          clear hr hrk hrg
          have hsc : Sem.run Try.prog (storeCells ⟨wr.heap.size, 0, none⟩ (rcL r)) (wr.alloc (.cells (rcA zRec) 34)) = .ok () (wr.alloc (.cells (rcA r) 34)) := run_storeCells_new (P := Try.prog) wr 34 (rcA zRec) (rcA r) sizeRec rfl (Jo.rcA_one r)
          have hz := HZ.out
          have hlen : (rcL r).length = 19 := rfl
          have HST := Lib.hid (outC_step l S k r HRK.out)
          have HI1 := Lib.hid (ck_ids (errK_mem HE.out r (List.mem_of_getElem? HRK.out))).1
          go_wp2_with fail
          simp only [Try.sizeOf34, Result.andThen]
          rw [Oper.upon_value]
          go_wp2_with fail
          simp only [Try.isAgg34, Try.sizeOf34, Result.andThen, ↓reduceIte, hlc]
          rw [Oper.upon_value]
          clear hlc
          go_wp2_with fail
          simp only [Try.sizeOf34, Result.andThen, ↓reduceIte, hsc]
          rw [Oper.upon_skip]
          clear hsc hz hlen
          have HX1 : Hid (Inv2 l S w (wr.alloc (.cells (rcA r) 34)) u15 k) := HX.out.step (World.grownBy_alloc _ _ none) (by simp)
          have hblk : (wr.alloc (.cells (rcA r) 34)).heap[wr.heap.size]? = some (.cells (rcA r) 34 (0, 0)) := (MapKept.heap_alloc wr _).1
          have hlp : wr.heap.size < (wr.alloc (.cells (rcA r) 34)).heap.size := by simp
          have HP : Hid (w.heap.size + 2 ≤ wr.heap.size ∧ u15.ownBlock ≠ some wr.heap.size) := ⟨HX.out.2.2.2.1, fun h => Nat.lt_irrefl _ (HX.out.2.2.2.2.lt _ h).2⟩
          clear HX
          generalize wr.alloc (.cells (rcA r) 34) = W1 at HX1 hblk hlp ⊢
          generalize wr.heap.size = p at hblk hlp HP ⊢
          have HC : Hid (∀ j v, (rcL r)[j]? = some v → W1.cell? ⟨p, j, none⟩ = some v) := fun j v hv => by
            show W1.cell? ⟨p, j, none⟩ = some v
            simpa [World.cell?, hblk, rcA] using hv
          have HC2 : Hid (∀ o j v, (rcL r)[j]? = some v → (W1.alloc o).cell? ⟨p, j, none⟩ = some v) := fun o j v hv =>
            ((((Below.refl W1.heap.size W1).alloc (Nat.le_refl _) o).cell (p := ⟨p, j, none⟩) hlp).trans (HC.out j v hv))
          have HF2 : Hid (∀ o j, (W1.alloc o).frozen? ⟨p, j, none⟩ = false) := fun o j =>
            ((((Below.refl W1.heap.size W1).alloc (Nat.le_refl _) o).frozen (p := ⟨p, j, none⟩) hlp).trans (by simp [World.frozen?, hblk]))
          have HLP := Lib.hid hlp
          clear hblk hlp
          have c2 := HC.out 2 _ rfl
          have c3 := HC.out 3 _ rfl
          have c4 := HC.out 4 _ rfl
          have c5 := HC.out 5 _ rfl
          have c6 := HC.out 6 _ rfl
          obtain ⟨v1, v2, hv⟩ : ∃ v1 v2, (S.1 r.item.id).getD (0, 0) = (v1, v2) := ⟨_, _, rfl⟩
          have HV := Lib.hid hv
          clear hv
          have d0 := HC2.out (.cells #[.int .i64 v1, .int .i64 v2] 59) 0 _ rfl
          have d1 := HC2.out (.cells #[.int .i64 v1, .int .i64 v2] 59) 1 _ rfl
          have f1 := HF2.out (.cells #[.int .i64 v1, .int .i64 v2] 59) 1
          by_cases hk3 : r.kind = 3
          · have HK3 := Lib.hid hk3
            have HAT : Hid (atC r S = S.2 r.item.id) := by show _ = _; unfold atC; rw [if_pos HK3.out]
            rw [hk3] at d0
            clear hk3
            have d2 := HC2.out (.cells #[.int .i64 v1, .int .i64 v2] 59) 2 _ rfl
            have d3 := HC2.out (.cells #[.int .i64 v1, .int .i64 v2] 59) 3 _ rfl
            have d4 := HC2.out (.cells #[.int .i64 v1, .int .i64 v2] 59) 4 _ rfl
            have d5 := HC2.out (.cells #[.int .i64 v1, .int .i64 v2] 59) 5 _ rfl
            have d6 := HC2.out (.cells #[.int .i64 v1, .int .i64 v2] 59) 6 _ rfl
            obtain ⟨q1, hq1⟩ : ∃ q, (S.1 r.item.id).isSome = q := ⟨_, rfl⟩
            have HQ1 := Lib.hid hq1
            clear hq1
            obtain ⟨u1, u2, hu⟩ : ∃ u1 u2, (S.2 r.item.id).getD (0, 0) = (u1, u2) := ⟨_, _, rfl⟩
            have HU := Lib.hid hu
            clear hu
            have e1 := HC2.out (.cells #[.int .i64 u1, .int .i64 u2] 59) 1 _ rfl
            have g1 := HF2.out (.cells #[.int .i64 u1, .int .i64 u2] 59) 1
            by_cases hs : (S.2 r.item.id).isSome = true
            · have HS := Lib.hid hs
              clear hs
              by_cases hvk : u1 = (k : Int)
              · have HPK : Hid (pickC k r S = [tickC r u2]) := by show _ = _; unfold pickC; rw [HAT.out, HS.out, HU.out, hvk]; simp
                subst hvk
                go_wp2_with (first | (at_lookup; refine wpList_look _ rfl _ _ rfl w.heap.size S.1 rfl HX1.out.1 r.item.id rfl HI1.out v1 v2 q1 HV.out HQ1.out ?_) | (at_lookup; refine wpList_look _ rfl _ _ rfl (w.heap.size + 1) S.2 rfl (HX1.out.2.1.kept (World.grownBy_alloc _ _ none) (by simp)) r.item.id rfl HI1.out _ u2 true HU.out HS.out ?_))
                have HX3 : Hid (Inv2 l S w ((W1.alloc (.cells #[.int .i64 (k : Int), .int .i64 u2] 59)).setCell ⟨p, 1, none⟩ (.int .i64 u2)) u15 k) := (HX1.out.step (World.grownBy_alloc _ _ none) (by simp)).step (grown_set _ _ _) (fun j hj => by cases hj; exact HP.out)
                have hlc := loadCells_range (P := Try.prog) (tick_range (r := r) (v2 := u2) (HC2.out (.cells #[.int .i64 (k : Int), .int .i64 u2] 59))) (n := 19) rfl
                generalize (W1.alloc (.cells #[.int .i64 (k : Int), .int .i64 u2] 59)).setCell ⟨p, 1, none⟩ (.int .i64 u2) = W3 at HX3 hlc ⊢
                clear c2 c3 c4 c5 c6 d0 d1 f1 d2 d3 d4 d5 d6 e1 g1
                simp only [Try.isAgg34, Try.sizeOf34, Result.andThen, ↓reduceIte, hlc]
                rw [Oper.upon_value]
                clear hlc
                have HO : Hid (outC l S (k + 1) = outC l S k ++ [tickC r u2]) := by show _ = _; rw [HST.out, HPK.out]
                clear HPK
                generalize tickC r u2 = r2 at HO ⊢
                have hlen : (rcL r2).length = 19 := rfl
                go_wp2_with fail
                refine upon_as (Result.ok (.value (.slice (some ⟨W3.heap.size, 0, none⟩) 1 1)) (W3.alloc (.cells (rcA r2) 34))) (by kernel_rfl) ?_
                rw [Oper.upon_value]
                obtain ⟨hi0, hz0, hz1, hz2⟩ := HI.out
                go_wp2_with (at_builtin; refine wpList_append_own_at _ rfl _ _ 22 rfl (w.heap.size + 2) 34 i0 (.agg (rcA zRec)) 19 160 Try.underlying22 hi0 hz0 hz1 hz2 rfl (by decide) _ _ _ rfl (HX3.out.2.2.2.2.alloc _) ⟨W3.heap.size, 0, none⟩ 1 1 (rcL r2) rfl rfl ?c1 ?c2 ?c3 ?c4 ?c5 ?_)
                case c1 => exact fun j u hu => by rw [Addr.add_mid, Nat.zero_add, World.cell?_alloc_new]; simpa [rcA] using hu
                case c2 => exact fun u hu => List.all_eq_true.1 (by simpa [rcA] using Jo.rcA_one r2) u hu
                case c3 => have := outC_len l S k; unfold maxLen; omega
                case c4 => have := outC_len l S k; omega
                case c5 => have := HX3.out.2.2.2.1; simp; omega
                intro v' w4 hown' hg' _ _
                have HX4 := Lib.hid (HX3.out.push _ hown' hg' HO.out)
                clear hown' hg' hi0 hz0 hz1 hz2
                go_wp2
                go_roundw
                case rel => exact ⟨k + 1, by omega, by go_num, HX4.out⟩
                case measure => simp [intOf]; omega
              · have HO : Hid (outC l S (k + 1) = outC l S k) := by show _ = _; rw [HST.out]; unfold pickC; rw [HAT.out, HS.out, HU.out]; simp [hvk]
                go_wp2_with (first | (at_lookup; refine wpList_look _ rfl _ _ rfl w.heap.size S.1 rfl HX1.out.1 r.item.id rfl HI1.out v1 v2 q1 HV.out HQ1.out ?_) | (at_lookup; refine wpList_look _ rfl _ _ rfl (w.heap.size + 1) S.2 rfl (HX1.out.2.1.kept (World.grownBy_alloc _ _ none) (by simp)) r.item.id rfl HI1.out u1 u2 true HU.out HS.out ?_))
                go_roundw
                case rel => exact ⟨k + 1, by omega, by go_num, (HX1.out.step (World.grownBy_alloc _ _ none) (by simp)).skip HO.out⟩
                case measure => simp [intOf]; omega
            · have hs' : (S.2 r.item.id).isSome = false := by simpa using hs
              have HS := Lib.hid hs'
              clear hs hs'
              have HO : Hid (outC l S (k + 1) = outC l S k) := by show _ = _; rw [HST.out]; unfold pickC; rw [HAT.out, HS.out]; simp
              go_wp2_with (first | (at_lookup; refine wpList_look _ rfl _ _ rfl w.heap.size S.1 rfl HX1.out.1 r.item.id rfl HI1.out v1 v2 q1 HV.out HQ1.out ?_) | (at_lookup; refine wpList_look _ rfl _ _ rfl (w.heap.size + 1) S.2 rfl (HX1.out.2.1.kept (World.grownBy_alloc _ _ none) (by simp)) r.item.id rfl HI1.out u1 u2 false HU.out HS.out ?_))
              go_roundw
              case rel => exact ⟨k + 1, by omega, by go_num, (HX1.out.step (World.grownBy_alloc _ _ none) (by simp)).skip HO.out⟩
              case measure => simp [intOf]; omega
          · have HK3 := Lib.hid hk3
            have HAT : Hid (atC r S = S.1 r.item.id) := by show _ = _; unfold atC; rw [if_neg HK3.out]
            generalize r.kind = kk at hk3 d0
            by_cases hs : (S.1 r.item.id).isSome = true
            · have HS := Lib.hid hs
              clear hs
              by_cases hvk : v1 = (k : Int)
              · have HPK : Hid (pickC k r S = [tickC r v2]) := by show _ = _; unfold pickC; rw [HAT.out, HS.out, HV.out, hvk]; simp
                subst hvk
                go_wp2_with (at_lookup; refine wpList_look _ rfl _ _ rfl w.heap.size S.1 rfl HX1.out.1 r.item.id rfl HI1.out _ v2 true HV.out HS.out ?_)
                have HX3 : Hid (Inv2 l S w ((W1.alloc (.cells #[.int .i64 (k : Int), .int .i64 v2] 59)).setCell ⟨p, 1, none⟩ (.int .i64 v2)) u15 k) := (HX1.out.step (World.grownBy_alloc _ _ none) (by simp)).step (grown_set _ _ _) (fun j hj => by cases hj; exact HP.out)
                have hlc := loadCells_range (P := Try.prog) (tick_range (r := r) (v2 := v2) (HC2.out (.cells #[.int .i64 (k : Int), .int .i64 v2] 59))) (n := 19) rfl
                generalize (W1.alloc (.cells #[.int .i64 (k : Int), .int .i64 v2] 59)).setCell ⟨p, 1, none⟩ (.int .i64 v2) = W3 at HX3 hlc ⊢
                clear c2 c3 c4 c5 c6 d0 d1 f1
                simp only [Try.isAgg34, Try.sizeOf34, Result.andThen, ↓reduceIte, hlc]
                rw [Oper.upon_value]
                clear hlc
                have HO : Hid (outC l S (k + 1) = outC l S k ++ [tickC r v2]) := by show _ = _; rw [HST.out, HPK.out]
                clear HPK
                generalize tickC r v2 = r2 at HO ⊢
                have hlen : (rcL r2).length = 19 := rfl
                go_wp2_with fail
                refine upon_as (Result.ok (.value (.slice (some ⟨W3.heap.size, 0, none⟩) 1 1)) (W3.alloc (.cells (rcA r2) 34))) (by kernel_rfl) ?_
                rw [Oper.upon_value]
                obtain ⟨hi0, hz0, hz1, hz2⟩ := HI.out
                go_wp2_with (at_builtin; refine wpList_append_own_at _ rfl _ _ 22 rfl (w.heap.size + 2) 34 i0 (.agg (rcA zRec)) 19 160 Try.underlying22 hi0 hz0 hz1 hz2 rfl (by decide) _ _ _ rfl (HX3.out.2.2.2.2.alloc _) ⟨W3.heap.size, 0, none⟩ 1 1 (rcL r2) rfl rfl ?c1 ?c2 ?c3 ?c4 ?c5 ?_)
                case c1 => exact fun j u hu => by rw [Addr.add_mid, Nat.zero_add, World.cell?_alloc_new]; simpa [rcA] using hu
                case c2 => exact fun u hu => List.all_eq_true.1 (by simpa [rcA] using Jo.rcA_one r2) u hu
                case c3 => have := outC_len l S k; unfold maxLen; omega
                case c4 => have := outC_len l S k; omega
                case c5 => have := HX3.out.2.2.2.1; simp; omega
                intro v' w4 hown' hg' _ _
                have HX4 := Lib.hid (HX3.out.push _ hown' hg' HO.out)
                clear hown' hg' hi0 hz0 hz1 hz2
                go_wp2
                go_roundw
                case rel => exact ⟨k + 1, by omega, by go_num, HX4.out⟩
                case measure => simp [intOf]; omega
              · have HO : Hid (outC l S (k + 1) = outC l S k) := by show _ = _; rw [HST.out]; unfold pickC; rw [HAT.out, HS.out, HV.out]; simp [hvk]
                go_wp2_with (at_lookup; refine wpList_look _ rfl _ _ rfl w.heap.size S.1 rfl HX1.out.1 r.item.id rfl HI1.out v1 v2 true HV.out HS.out ?_)
                go_roundw
                case rel => exact ⟨k + 1, by omega, by go_num, (HX1.out.step (World.grownBy_alloc _ _ none) (by simp)).skip HO.out⟩
                case measure => simp [intOf]; omega
            · have hs' : (S.1 r.item.id).isSome = false := by simpa using hs
              have HS := Lib.hid hs'
              clear hs hs'
              have HO : Hid (outC l S (k + 1) = outC l S k) := by show _ = _; rw [HST.out]; unfold pickC; rw [HAT.out, HS.out]; simp
              go_wp2_with (at_lookup; refine wpList_look _ rfl _ _ rfl w.heap.size S.1 rfl HX1.out.1 r.item.id rfl HI1.out v1 v2 false HV.out HS.out ?_)
              go_roundw
              case rel => exact ⟨k + 1, by omega, by go_num, (HX1.out.step (World.grownBy_alloc _ _ none) (by simp)).skip HO.out⟩
              case measure => simp [intOf]; omega
        · have HKK : Hid (k = l.length) := by show k = l.length; omega
          obtain ⟨A', c', HV, HR⟩ := recs_of_row HX.out.2.2.2.2
          have HBW := Lib.hid HX.out.2.2.1
          have HR2 := Lib.hid HR
          have HC : Hid (cmpL l = outC l S k) := by show _ = _; unfold cmpL; rw [if_pos HE.out, HSS.out, HKK.out]
          subst HV
          clear HX HR
          go_wp2
          go_ret2
          exact ⟨A', c', by rw [HC.out, HE.out]; rfl, by rw [HC.out]; exact HR2.out, HBW.out⟩
end Go.Proofs.Ytlknjdfiedkhbaa
