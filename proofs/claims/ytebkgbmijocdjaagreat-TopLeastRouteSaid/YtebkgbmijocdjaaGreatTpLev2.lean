/- storage.levels of the program, walked. Condition: the holds lie in memory, their numbers in bounds. -/
import Derived.Test.YtebkgbmijocdjaaGreatTpSrt
namespace Go.Proofs.YtebkgbmijocdjaaGreat.Tp
open Go Go.RowKit

theorem infoLvl : (Tryz.prog.info? 216).map (fun i => (i.zero, i.size, i.bytes)) = some (some (.agg #[.int .i64 0, .int .i64 0]), 2, 16) := by kernel_rfl
theorem lvGo_app (f : Int → Int) : ∀ (s : Int) (ts : List Int) (t : Int), lvGo f s (ts ++ [t]) = lvGo f s ts ++ (if f t = 0 then [] else [⟨t, s + (ts.map f).sum + f t⟩])
  | s, [], t => by
    simp only [List.nil_append, lvGo, List.map_nil, List.sum_nil, Int.add_zero]
  | s, u :: ts, t => by
    rw [List.cons_append, lvGo, lvGo]
    by_cases h : f u = 0
    · rw [if_pos h, if_pos h, lvGo_app f s ts t, List.map_cons, List.sum_cons, h, Int.zero_add]
    · rw [if_neg h, if_neg h, lvGo_app f (s + f u) ts t, List.map_cons, List.sum_cons, List.cons_append, show s + f u + (ts.map f).sum = s + (f u + (ts.map f).sum) by omega]
theorem lvGo_len (f : Int → Int) : ∀ (s : Int) (ts : List Int), (lvGo f s ts).length ≤ ts.length
  | s, [] => Nat.le_refl _
  | s, u :: ts => by
    have h1 := lvGo_len f s ts
    have h2 := lvGo_len f (s + f u) ts
    rw [lvGo, List.length_cons]
    split
    · omega
    · rw [List.length_cons]; omega
theorem sum_bd (f : Int → Int) {B : Int} (h : ∀ t, -B ≤ f t ∧ f t ≤ B) : ∀ ts : List Int, -(B * ts.length) ≤ (ts.map f).sum ∧ (ts.map f).sum ≤ B * ts.length
  | [] => by simp
  | t :: ts => by
    have h1 := sum_bd f h ts
    have h2 := h t
    rw [List.map_cons, List.sum_cons, List.length_cons, Int.natCast_add, Int.mul_add]
    omega
/-- what holds in the second loop of levels -/
def LevRel2 (f : Int → Int) (S : List Int) (w1 : World) (v s i : Value) (wr : World) : Prop := ∃ k : Nat, k ≤ S.length ∧ i = .int .i64 k ∧ s = .int .i64 (((S.take k).map f).sum) ∧ Below w1.heap.size w1 wr ∧ wr.ownsRow w1.heap.size 216 2 v (lvGo f 0 (S.take k)).length ((lvGo f 0 (S.take k)).flatMap lvE.f)
/-- what holds in the first loop of levels -/
def LevRel (g0 base : Nat) (l : List Hld) (n : Int) (w : World) (i : Value) (wr : World) : Prop := ∃ k : Nat, k ≤ l.length ∧ i = .int .i64 k ∧ Below w.heap.size w wr ∧ base ≤ wr.heap.size ∧ Boxed wr (g0 + 1) 230 (.map (some g0)) ∧ ∃ F v, NInv (evL (l.take k) n) F (timesL (evL (l.take k) n)) ∧ IMap wr g0 F ∧ Boxed wr (g0 + 1 + 1) 22 v ∧ wr.ownsRow base 3 1 v (timesL (evL (l.take k) n)).length ((timesL (evL (l.take k) n)).flatMap intE.f)
set_option maxHeartbeats 8000000 in
set_option maxRecDepth 100000 in
theorem levels_any (B : Option Addr) (cb : Nat) (l : List Hld) (n : Int) (w : World) (hl : SlAt hdE w B l) (hln : l.length ≤ 1000) (hv : ∀ h ∈ l, (0 ≤ h.size ∧ h.size ≤ 65536) ∧ okI h.frm ∧ okI h.til) :
    Calls Tryz.prog 98 #[.slice B l.length cb, .int .i64 n] w (RetSl lvE (levelsL l n) w) := by
  have HL := Lib.hid hl
  have HV := Lib.hid hv
  have hmm := @run_makeMap Tryz.prog
  have hmf := fun (fn : Fn) (first cap : Array Value) (w : World) => (rfl : (Instr.makeFunc fn first cap).run Tryz.prog w = .ok (.func fn first cap) w)
  have HM0 : Hid (IMap (((w.alloc (.map #[] 0)).alloc (.cells #[.map (some w.heap.size)] 230)).alloc (.cells #[.slice none 0 0] 22)) w.heap.size (fun _ => none)) := ((IMap.made w).kept (World.grownBy_alloc _ _ none) (by simp)).kept (World.grownBy_alloc _ _ none) (by simp)
  have HB0 : Hid (Below w.heap.size w (((w.alloc (.map #[] 0)).alloc (.cells #[.map (some w.heap.size)] 230)).alloc (.cells #[.slice none 0 0] 22))) := (((Below.refl _ _).alloc (Nat.le_refl _) _).alloc (by simp) _).alloc (by simp; omega) _
  have H50 : Hid (Boxed (((w.alloc (.map #[] 0)).alloc (.cells #[.map (some w.heap.size)] 230)).alloc (.cells #[.slice none 0 0] 22)) (w.heap.size + 1) 230 (.map (some w.heap.size))) := by
    have h := Boxed.new (w.alloc (.map #[] 0)) 230 (.map (some w.heap.size))
    rw [World.size_alloc] at h
    exact h.alloc _
  have H60 : Hid (Boxed (((w.alloc (.map #[] 0)).alloc (.cells #[.map (some w.heap.size)] 230)).alloc (.cells #[.slice none 0 0] 22)) (w.heap.size + 1 + 1) 22 (.slice none 0 0)) := by
    have h := Boxed.new ((w.alloc (.map #[] 0)).alloc (.cells #[.map (some w.heap.size)] 230)) 22 (.slice none 0 0)
    rw [World.size_alloc, World.size_alloc] at h
    exact h
  have HZ : Hid (w.heap.size + 3 = (((w.alloc (.map #[] 0)).alloc (.cells #[.map (some w.heap.size)] 230)).alloc (.cells #[.slice none 0 0] 22)).heap.size) := by show _ = _; simp
  clear hl hv
  go_enter Tryz.func98, Tryz.ntmps98
  go_wp2_with fail
  clear hmm hmf
  generalize ((w.alloc (.map #[] 0)).alloc (.cells #[.map (some w.heap.size)] 230)).alloc (.cells #[.slice none 0 0] 22) = W at HM0 HB0 H50 H60 HZ ⊢
  go_loopw [18] (fun i wr => LevRel w.heap.size (w.heap.size + 3) l n w i wr) (fun i _ => l.length - (intOf i).toNat)
  case atStart => exact ⟨0, Nat.zero_le _, rfl, HB0.out, Nat.le_of_eq HZ.out, H50.out, _, _, ninv0, HM0.out, H60.out, World.ownsRow_nil _ _ _ _⟩
  case round =>
    obtain ⟨k, hk, rfl, hb, hsz, h5, F, v, hN, hM, h6, hR⟩ := hrel
    have HB := Lib.hid hb
    have H5 := Lib.hid h5
    have HN := Lib.hid hN
    have HM := Lib.hid hM
    have H6 := Lib.hid h6
    have HR := Lib.hid hR
    clear hb h5 hN hM h6 hR
    by_cases hlt : k < l.length
    · have HEL : Hid (∀ L : List Hld, L.length ≤ 1000 → (timesL (evL L n)).length ≤ 2000 ∧ ∀ h ∈ l, ∀ t, (∀ x ∈ L, x ∈ l) → -1000000000 ≤ chg (evL L n) t ∧ chg (evL L n) t ≤ 1000000000) := by
        intro L hL
        have h1 := evL_len L n
        have h2 := timesL_len (evL L n)
        refine ⟨by omega, fun h _ t hs => ?_⟩
        have h3 := chg_bd (B := 65536) (by omega) (ev := evL L n) (fun e he => by
          obtain ⟨x, hx, _, he⟩ := mem_evL.1 he
          have := (HV.out x (hs x hx)).1
          rcases he with rfl | rfl
          · exact ⟨by show _ ≤ x.size; omega, this.2⟩
          · exact ⟨by show _ ≤ -x.size; omega, by show -x.size ≤ _; omega⟩) t
        omega
      obtain ⟨b, off, rfl, hr⟩ := (HL.out.below HB.out).one (by omega)
      obtain ⟨r, hrk⟩ : ∃ r, l[k]? = some r := ⟨_, List.getElem?_eq_getElem hlt⟩
      have hrg : wr.rangeAt b (off + k * 5) (hdE.f r) := hr k r hrk
      have c0 : wr.cell? ⟨b, off + k * 5, none⟩ = some (.int .i64 r.node) := hrg 0 _ rfl
      have c1 : wr.cell? ⟨b, off + k * 5 + 1, none⟩ = some (.int .i64 r.frm) := hrg 1 _ rfl
      have c2 : wr.cell? ⟨b, off + k * 5 + 2, none⟩ = some (.int .i64 r.til) := hrg 2 _ rfl
      have c3 : wr.cell? ⟨b, off + k * 5 + 3, none⟩ = some (.int .i64 r.size) := hrg 3 _ rfl
      have c4 : wr.cell? ⟨b, off + k * 5 + 4, none⟩ = some (.int .i64 r.tick) := hrg 4 _ rfl
      have hrv := HV.out r (List.mem_of_getElem? hrk)
      obtain ⟨⟨hz1, hz2⟩, ho1, ho2⟩ := hrv
      have HO := Lib.hid (And.intro ho1 ho2)
      have HEV : Hid (evL (l.take (k + 1)) n = evL (l.take k) n ++ (if r.node = n then [(r.frm, r.size), (r.til, -r.size)] else [])) := by
        show _ = _
        rw [take_snoc hrk]; exact evL_snoc _ _ _
      have HBD : Hid ((timesL (evL (l.take k) n)).length ≤ 2000 ∧ ∀ t, -1000000000 ≤ chg (evL (l.take k) n) t ∧ chg (evL (l.take k) n) t ≤ 1000000000) := by
        have h := HEL.out (l.take k) (by rw [List.length_take]; omega)
        exact ⟨h.1, fun t => h.2 r (List.mem_of_getElem? hrk) t (fun x hx => List.mem_of_mem_take hx)⟩
      generalize evL (l.take k) n = ev at HN HR HEV HBD
      clear hr hrk hrg ho1 ho2 HEL
      have HX : Hid (Bk (wr.alloc (.cells (hdA r) 99)) wr.heap.size 99 (hdA r)) := Bk.new _ _ _
      by_cases hc : r.node = n
      · have e1 : (r.node == n) = true := by simpa using hc
        have HE2 : Hid (evL (l.take (k + 1)) n = ev ++ [(r.frm, r.size)] ++ [(r.til, -r.size)]) := by
          show _ = _
          rw [HEV.out, if_pos hc, List.append_assoc]; rfl
        have hvx : v.ownBlock ≠ some wr.heap.size := fun e => by have := (HR.out.lt _ e).2; omega
        have HVX := Lib.hid hvx
        clear hc HEV hvx
        go_wp2_with fail
        refine (note_any (w.heap.size + 1) (w.heap.size + 1 + 1) w.heap.size (w.heap.size + 3) F (timesL ev) v r.frm r.size (wr.alloc (.cells (hdA r) 99)) (H5.out.alloc _) (HM.out.kept (World.grownBy_alloc _ _ none) (by simp)) (H6.out.alloc _) (HR.out.alloc _) (by simp; omega) (by have := HBD.out.1; omega) HO.out.1 (by omega) (by have := HBD.out.2 r.frm; rw [HN.out.at_]; omega)).mono ?_
        rintro e w4 ⟨rfl, v4, y5, yM, y6, yR, ysz, ykeep, ybel⟩
        have HN4 := Lib.hid (HN.out.step r.frm r.size)
        have HX4 : Hid (Bk w4 wr.heap.size 99 (hdA r)) := bk_same HX.out (ykeep _ (by simp) (by have := H6.out.lt; omega) (by have := HM.out.lt; omega) HVX.out)
        have HB4 : Hid (Below w.heap.size w w4) := (HB.out.alloc HB.out.size _).trans (ybel w.heap.size (by omega) (by omega) (Nat.le_refl _))
        have HZ4 : Hid (w.heap.size + 3 ≤ w4.heap.size) := by show _ ≤ _; simp at ysz; omega
        have Y5 := Lib.hid y5
        have YM := Lib.hid yM
        have Y6 := Lib.hid y6
        have YR := Lib.hid yR
        clear y5 yM y6 yR ysz ykeep ybel HN HM H5 H6 HR HX HVX HB c0 c1 c2 c3 c4
        have d2 : w4.cell? ⟨wr.heap.size, 2, none⟩ = some (.int .i64 r.til) := HX4.out.cell 2
        have d3 : w4.cell? ⟨wr.heap.size, 3, none⟩ = some (.int .i64 r.size) := HX4.out.cell 3
        have HT4 : Hid ((if (F r.frm).isSome then timesL ev else timesL ev ++ [r.frm]).length ≤ 2001) := by
          have := HBD.out.1
          show _ ≤ _
          split
          · omega
          · simp; omega
        have HC4 : Hid (∀ t, -2000000000 ≤ chg (ev ++ [(r.frm, r.size)]) t ∧ chg (ev ++ [(r.frm, r.size)]) t ≤ 2000000000) := fun t => by
          have := HBD.out.2 t
          rw [chg_snoc]
          split <;> omega
        generalize (if (F r.frm).isSome then timesL ev else timesL ev ++ [r.frm]) = ts4 at HN4 YR HT4
        generalize putF F r.frm ((F r.frm).getD 0 + r.size) = F4 at HN4 YM
        generalize ev ++ [(r.frm, r.size)] = ev4 at HN4 HE2 HC4
        go_wp2_with fail
        refine (note_any (w.heap.size + 1) (w.heap.size + 1 + 1) w.heap.size (w.heap.size + 3) F4 ts4 v4 r.til (-r.size) w4 Y5.out YM.out Y6.out YR.out HZ4.out (by have := HT4.out; omega) HO.out.2 (by omega) (by have := HC4.out r.til; rw [HN4.out.at_]; omega)).mono ?_
        rintro e w5 ⟨rfl, v5, y5, yM, y6, yR, ysz, ykeep, ybel⟩
        have HN5 := HN4.out.step r.til (-r.size)
        have HF : Hid (LevRel w.heap.size (w.heap.size + 3) l n w (.int .i64 (↑k + 1)) w5) := by
          refine ⟨k + 1, by omega, by go_num, HB4.out.trans (ybel w.heap.size (by omega) (by omega) (Nat.le_refl _)), by have := HZ4.out; omega, y5, _, v5, ?_, yM, y6, ?_⟩
          · rw [HE2.out, ← HN5.1]; exact HN5
          · rw [HE2.out, ← HN5.1]; exact yR
        clear HN5 y5 yM y6 yR ysz ykeep ybel HN4 Y5 YM Y6 YR HB4 HX4 d2 d3
        go_wp2
        go_roundw
        case rel => exact HF.out
        case measure => simp [intOf]; omega
      · have e1 : (r.node == n) = false := by simpa using hc
        have HE2 : Hid (evL (l.take (k + 1)) n = ev) := by
          show _ = _
          rw [HEV.out, if_neg hc, List.append_nil]
        have HF : Hid (LevRel w.heap.size (w.heap.size + 3) l n w (.int .i64 (↑k + 1)) (wr.alloc (.cells (hdA r) 99))) := by
          refine ⟨k + 1, by omega, by go_num, HB.out.alloc HB.out.size _, by simp; omega, H5.out.alloc _, F, v, ?_, HM.out.kept (World.grownBy_alloc _ _ none) (by simp), H6.out.alloc _, ?_⟩
          · rw [HE2.out]; exact HN.out
          · rw [HE2.out]; exact HR.out.alloc _
        clear hc HEV HN HM H5 H6 HR
        go_wp2
        go_roundw
        case rel => exact HF.out
        case measure => simp [intOf]; omega
    · have HT : Hid (l.take k = l) := by show _ = _; rw [List.take_of_length_le (by omega)]
      rw [HT.out] at HN HR
      have HTL : Hid ((timesL (evL l n)).length ≤ 2000 ∧ ∀ t, -200000000 ≤ chg (evL l n) t ∧ chg (evL l n) t ≤ 200000000) := by
        have h1 := evL_len l n
        have h2 := timesL_len (evL l n)
        refine ⟨by omega, fun t => ?_⟩
        have h3 := chg_bd (B := 65536) (by omega) (ev := evL l n) (fun e he => by
          obtain ⟨x, hx, _, he⟩ := mem_evL.1 he
          have := (HV.out x hx).1
          rcases he with rfl | rfl
          · exact ⟨by show _ ≤ x.size; omega, this.2⟩
          · exact ⟨by show _ ≤ -x.size; omega, by show -x.size ≤ _; omega⟩) t
        omega
      have HLV : Hid (levelsL l n = lvGo (chg (evL l n)) 0 ((timesL (evL l n)).mergeSort)) := rfl
      have HTO : Hid (∀ t ∈ timesL (evL l n), okI t) := fun t ht => by
        obtain ⟨e, he, rfl⟩ := mem_timesL.1 ht
        obtain ⟨x, hx, _, he⟩ := mem_evL.1 he
        rcases he with rfl | rfl
        · exact (HV.out x hx).2.1
        · exact (HV.out x hx).2.2
      have c6 := H6.out.cell
      generalize evL l n = ev at HN HR HTL HLV HTO
      generalize hts : timesL ev = ts at HN HR HTL HLV HTO
      clear hts HT
      obtain ⟨A6, k6, hv6⟩ := own_slice HR.out
      subst hv6
      have HS := Lib.hid (sortInts_any (w.heap.size + 3) (.slice A6 ts.length k6) ts wr HR.out (by have := HTL.out.1; omega))
      go_wp2_with fail
      refine HS.out.mono ?_
      rintro e w1 ⟨rfl, hR1, hg1⟩
      have hrb : ∀ j, (Value.slice A6 ts.length k6).ownBlock = some j → w.heap.size + 3 ≤ j := fun j hj => (HR.out.lt j hj).1
      have HB1 : Hid (Below w.heap.size w w1) := HB.out.grown hg1 HB.out.size (fun j hj => by have := hrb j hj; omega)
      have H51 : Hid (Boxed w1 (w.heap.size + 1) 230 (.map (some w.heap.size))) := H5.out.kept hg1 (fun e => by have := hrb _ e.symm; omega)
      have H61 : Hid (Boxed w1 (w.heap.size + 1 + 1) 22 (.slice A6 ts.length k6)) := H6.out.kept hg1 (fun e => by have := hrb _ e.symm; omega)
      have HM1 : Hid (IMap w1 w.heap.size F) := HM.out.kept hg1 (fun e => by have := hrb _ e.symm; omega)
      obtain ⟨S, hS⟩ : ∃ S, S = ts.mergeSort := ⟨_, rfl⟩
      have hSl : S.length = ts.length := by rw [hS, List.length_mergeSort]
      have HSO : Hid (∀ t ∈ S, okI t) := fun t ht => HTO.out t (by rw [hS] at ht; exact List.mem_mergeSort.1 ht)
      rw [← hS] at HLV hR1
      have HR1 : Hid (w1.ownsRow (w.heap.size + 3) 3 1 (.slice A6 S.length k6) S.length (S.flatMap intE.f)) := by rw [hSl]; exact hR1
      have HSA : Hid (SlAt intE w1 A6 S) := by
        obtain ⟨A7, k7, e7, h7, _⟩ := sl_of_row (E := intE) HR1.out
        cases e7
        exact h7
      have c6' := H61.out.cell
      rw [← hSl] at c6'
      have c5' := H51.out.cell
      have HSL : Hid (S.length ≤ 2000) := by show _ ≤ _; rw [hSl]; exact HTL.out.1
      obtain ⟨i0, hi0, hz0, hz1, hz2⟩ := info_parts infoLvl
      have HAT := Lib.hid (fun t => HN.out.at_ t)
      have HCB := Lib.hid HTL.out.2
      clear hR1 hg1 hrb HB H5 H6 HM HR HS HN HTL HTO hS hSl c6
      go_wp2_with fail
      clear c6' c5'
      go_loopw [10, 11, 13, 44] (fun v s _ i wr => LevRel2 (chg ev) S w1 v s i wr) (fun _ _ _ i _ => S.length - (intOf i).toNat)
      case atStart => exact ⟨0, Nat.zero_le _, rfl, rfl, Below.refl _ _, World.ownsRow_nil _ _ _ _⟩
      case round =>
        obtain ⟨j, hj, rfl, rfl, hbw, hov⟩ := hrel
        have HBW := Lib.hid hbw
        have HOV := Lib.hid hov
        clear hbw hov
        by_cases hjt : j < S.length
        · obtain ⟨b, off, rfl, hr⟩ := (HSA.out.below HBW.out).one (by omega)
          obtain ⟨t, hrk⟩ : ∃ t, S[j]? = some t := ⟨_, List.getElem?_eq_getElem hjt⟩
          have hc0 : wr.cell? ⟨b, off + j, none⟩ = some (.int .i64 t) := by
            have := hr j t hrk 0 _ rfl
            simpa [intE] using this
          have HMW : Hid (IMap wr w.heap.size F) := HM1.out.below HBW.out HM1.out.lt
          have c5' : wr.cell? ⟨w.heap.size + 1, 0, none⟩ = some (.map (some w.heap.size)) := (HBW.out.cell (p := ⟨w.heap.size + 1, 0, none⟩) H51.out.lt).trans H51.out.cell
          have HOT : Hid (okI t) := HSO.out t (List.mem_of_getElem? hrk)
          obtain ⟨q, hq⟩ : ∃ q, chg ev t = q := ⟨_, rfl⟩
          have HQ : Hid ((F t).getD 0 = q) := (HAT.out t).trans hq
          obtain ⟨hq1, hq2⟩ := HCB.out t
          rw [hq] at hq1 hq2
          have HSN : Hid (lvGo (chg ev) 0 (S.take (j + 1)) = lvGo (chg ev) 0 (S.take j) ++ (if q = 0 then [] else [⟨t, ((S.take j).map (chg ev)).sum + q⟩])) := by
            show _ = _
            rw [take_snoc hrk, lvGo_app, Int.zero_add, hq]
          have HSM : Hid (((S.take (j + 1)).map (chg ev)).sum = ((S.take j).map (chg ev)).sum + q) := by
            show _ = _
            rw [take_snoc hrk, List.map_append, List.sum_append, List.map_cons, List.map_nil, List.sum_cons, List.sum_nil, hq]; omega
          have hsb : -400000000000 ≤ ((S.take j).map (chg ev)).sum ∧ ((S.take j).map (chg ev)).sum ≤ 400000000000 := by
            have h1 := sum_bd (chg ev) (B := 200000000) HCB.out (S.take j)
            have h2 : (S.take j).length ≤ 2000 := by rw [List.length_take]; have := HSL.out; omega
            omega
          have HLB : Hid ((lvGo (chg ev) 0 (S.take j)).length ≤ 2000) := by
            show _ ≤ _
            have h1 := lvGo_len (chg ev) 0 (S.take j)
            have h2 : (S.take j).length ≤ 2000 := by rw [List.length_take]; have := HSL.out; omega
            omega
          obtain ⟨hs1, hs2⟩ := hsb
          have hsl := HSL.out
          generalize lvGo (chg ev) 0 (S.take j) = M at HOV HSN HLB
          generalize ((S.take j).map (chg ev)).sum = s at HSN HSM hs1 hs2
          clear hr hrk hq
          by_cases h0 : q = 0
          · have HF : Hid (LevRel2 (chg ev) S w1 u10 (.int .i64 s) (.int .i64 (↑j + 1)) wr) := by
              refine ⟨j + 1, by omega, by go_num, ?_, HBW.out, ?_⟩
              · rw [HSM.out, h0, Int.add_zero]
              · rw [HSN.out, if_pos h0, List.append_nil]; exact HOV.out
            have hb0 : (q == 0) = true := by simpa using h0
            clear h0 HSN HSM
            go_wp2_with (at_lookup; refine wpList_look1 _ rfl _ _ rfl w.heap.size F rfl HMW.out t rfl HOT.out q HQ.out ?_)
            go_roundw
            case rel => exact HF.out
            case measure => simp [intOf]; omega
          · have hb0 : (q == 0) = false := by simpa using h0
            have HSN2 : Hid (lvGo (chg ev) 0 (S.take (j + 1)) = M ++ [⟨t, s + q⟩]) := by show _ = _; rw [HSN.out, if_neg h0]
            have hlb := HLB.out
            clear h0 HSN
            go_wp2_with (first
              | (at_lookup; refine wpList_look1 _ rfl _ _ rfl w.heap.size F rfl HMW.out t rfl HOT.out q HQ.out ?_)
              | (at_builtin; refine wpList_append_own_at _ rfl _ _ 177 rfl w1.heap.size 216 i0 (.agg #[.int .i64 0, .int .i64 0]) 2 16 Tryz.underlying177 hi0 hz0 hz1 hz2 rfl (by decide) _ _ _ rfl (HOV.out.alloc _) ⟨wr.heap.size, 0, none⟩ 1 1 [.int .i64 t, .int .i64 (s + q)] rfl rfl ?d1 ?d2 ?d3 ?d4 ?d5 ?_))
            case d1 => exact fun j u hu => by rw [Addr.add_mid, Nat.zero_add]; exact new_at _ [.int .i64 t, .int .i64 (s + q)] _ rfl j u hu
            case d2 => exact fun u hu => lvE.one ⟨t, s + q⟩ u hu
            case d3 => unfold maxLen; omega
            case d4 => omega
            case d5 => have := HBW.out.size; simp; omega
            intro v' w4 hown' hg' _ _
            have HF : Hid (LevRel2 (chg ev) S w1 v' (.int .i64 (s + q)) (.int .i64 (↑j + 1)) w4) := by
              refine ⟨j + 1, by omega, by go_num, ?_, (HBW.out.alloc HBW.out.size _).grown hg' (by have := HBW.out.size; simp; omega) (fun j hj => (HOV.out.lt j hj).1), ?_⟩
              · rw [HSM.out]
              · rw [HSN2.out, List.length_append, List.flatMap_append, show [(⟨t, s + q⟩ : Lvl)].flatMap lvE.f = [.int .i64 t, .int .i64 (s + q)] from rfl]
                exact hown'
            clear hown' hg' HSN2 HSM
            go_wp2
            go_roundw
            case rel => exact HF.out
            case measure => simp [intOf]; omega
        · have HTS : Hid (S.take j = S) := by show _ = _; rw [List.take_of_length_le (by omega)]
          rw [HTS.out, ← HLV.out] at HOV
          obtain ⟨A9, k9, rfl, x1, x2, x3⟩ := sl_of_row2 (E := lvE) HOV.out
          have HX1 := Lib.hid x1
          have HX3 : Hid (∀ a, A9 = some a → w.heap.size ≤ a.block) := fun a ha => by
            have h1 := x3 a ha
            have h2 := HB1.out.size
            omega
          have HBF : Hid (Below w.heap.size w wr) := below_next HB1.out HBW.out
          clear x1 x3 HOV HTS
          go_wp2
          go_ret
          exact ⟨A9, k9, rfl, HX1.out, x2, HX3.out, HBF.out⟩
end Go.Proofs.YtebkgbmijocdjaaGreat.Tp
