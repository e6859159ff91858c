/- The journal's reader: reading a record, walked: a record that delivers. Conditions: the reader lies in one block; the length below the model's greatest. -/
import Derived.Test.YtlknjdfiedkhbaaJoRecH
namespace Go.Proofs.Ytlknjdfiedkhbaa
open Go Go.RowKit
open Jo (RId Itm Rec wi zId zIt rcA rcL)
attribute [-simp] Try.isAgg34 Try.sizeOf34 Try.typeInfo34

set_option maxHeartbeats 4000000 in
set_option maxRecDepth 100000 in
theorem record_deliver (g : Nat) (l : List UInt8) (w : World) (hl : l.length ≤ maxLen) (hJ : Jrd w g l false) (hq : at_ (rdS 2 (l, false)).1 0 = 3) :
    Calls Try.prog 60 #[.pointer (some ⟨g, 0, none⟩)] w (RecPost w g l) := by
  have HL := Lib.hid hl
  have HQ := Lib.hid hq
  clear hq
  have HG : Hid (g < w.heap.size) := hJ.lt
  have hz := (zero_of_info infoRec).1
  have HM0 : Hid (Rx w g w.heap.size (w.heap.size + 1) zRec ((w.alloc (.cells (rcA zRec) 34)).alloc (.cells (rcA zRec) 34))) :=
    ⟨(World.grownBy_alloc _ _ _).trans (World.grownBy_alloc _ _ _), (Bk.new w _ _).alloc _, by have := Bk.new (w.alloc (.cells (rcA zRec) 34)) 34 (rcA zRec); rw [World.size_alloc] at this; exact this⟩
  have HJ0 : Hid (Jrd ((w.alloc (.cells (rcA zRec) 34)).alloc (.cells (rcA zRec) 34)) g l false) := (hJ.alloc _).alloc _
  have HB : Hid (w.heap.size ≤ w.heap.size ∧ w.heap.size ≤ w.heap.size + 1 ∧ w.heap.size ≠ w.heap.size + 1) := ⟨Nat.le_refl _, Nat.le_succ _, by omega⟩
  have hC := rec_call w g w.heap.size (w.heap.size + 1) [0, 18] F0 zRec l false _ 2 HL.out HM0.out HJ0.out rfl hF0 HG.out HB.out (by decide) (by decide)
  rw [World.size_alloc, World.size_alloc] at hC
  have HC := Lib.hid hC
  clear hC hJ hl
  go_enter Try.func60, Try.ntmps60
  go_wp2_with fail
  refine HC.out.mono ?_
  rintro e w1 ⟨n1, l1, b1, rfl, h1, hM1, hJ1, hl1⟩
  clear HC HM0 HJ0
  have HM1 : Hid (Rx w g w.heap.size (w.heap.size + 1) ⟨at_ n1 0, zIt, zId, 0, at_ n1 1⟩ w1) := hM1
  have HJ1 := Lib.hid hJ1
  have HL1 := Lib.hid (Nat.le_trans hl1 HL.out)
  have H1 := Lib.hid h1
  clear hM1 hJ1 hl1 h1
  generalize hk : at_ n1 0 = k at HM1
  generalize ht : at_ n1 1 = t at HM1
  have HK := Lib.hid hk
  have HT := Lib.hid ht
  clear hk ht
  generalize w.heap.size + 1 = bx at HM1 HB ⊢
  obtain ⟨b2, hb2⟩ : ∃ b, b = w.heap.size := ⟨_, rfl⟩
  have HB' : Hid (w.heap.size ≤ b2 ∧ w.heap.size ≤ bx ∧ b2 ≠ bx) := by rw [hb2]; exact HB.out
  have HM1' : Hid (Rx w g b2 bx ⟨k, zIt, zId, 0, t⟩ w1) := by rw [hb2]; exact HM1.out
  rw [← hb2]
  clear hb2 HM1 HB
  have c0 := HM1'.out.cell 0
  have c0' : w1.cell? ⟨bx, 0, none⟩ = some (.int .i64 k) := c0
  clear c0
  have hk13 := HQ.out
  have h1q : rdS 2 (l, false) = (n1, l1, b1) := H1.out
  rw [h1q] at hk13
  simp only [HK.out] at hk13
  clear HQ h1q
  have HK13 : Hid (k = 1 ∨ k = 3) := .inr hk13
  have e1 : (k == 1) = false := by rw [beq_eq_false_iff_ne]; omega
  have e3 : (k == 3) = true := by rw [beq_iff_eq]; exact hk13
  clear hk13
  have hC := rec_call w g b2 bx [1] (F1 k t) _ l1 b1 w1 1 HL1.out HM1'.out HJ1.out rfl (hF1 k t) HG.out HB'.out (by decide) (by decide)
  have HC := Lib.hid hC
  clear hC
  go_wp2_with fail
  refine HC.out.mono ?_
  rintro e w2 ⟨n2, l2, c2, rfl, h2, hM2, hJ2, hl2⟩
  clear HC c0' HJ1 HM1'
  have HL2 := Lib.hid (Nat.le_trans hl2 HL1.out)
  have HJ2 := Lib.hid hJ2
  have H2 := Lib.hid h2
  clear hJ2 h2 hl2
  generalize htk : at_ n2 0 = tk
  have HTK := Lib.hid htk
  clear htk
  have HM2 : Hid (Rx w g b2 bx (F1 k t n2) w2) := hM2
  clear hM2
  have HM2' : Hid (Rx w g b2 bx ⟨k, { zIt with tick := tk }, zId, 0, t⟩ w2) := by have := HM2.out; unfold F1 at this; rw [HTK.out] at this; exact this
  clear HM2
  have hC := rec_call w g b2 bx [2, 3, 4, 5, 6] (F2 k t tk) _ l2 c2 w2.drew 5 HL2.out HM2'.out.drew HJ2.out.drew rfl (hF2 k t tk) HG.out HB'.out (by decide) (by decide)
  have HC := Lib.hid hC
  clear hC
  go_wp2_with fail
  go_region_with (go_at_call 72; refine HC.out.mono ?_; rintro e w3 ⟨n3, l3, c3, rfl, h3, hM3, hJ3, hl3⟩)
  clear HC HM2' HJ2
  have HL3 := Lib.hid (Nat.le_trans hl3 HL2.out)
  have HJ3 := Lib.hid hJ3
  have H3 := Lib.hid h3
  have HM3 : Hid (Rx w g b2 bx (F2 k t tk n3) w3) := hM3
  clear hJ3 h3 hl3 hM3
  have HM3' : Hid (Rx w g b2 bx ⟨k, { zIt with tick := tk, id := idOf n3 0 }, zId, 0, t⟩ w3) := HM3.out
  generalize hid : idOf n3 0 = id at HM3'
  have HID := Lib.hid hid
  clear hid HM3
  have c0 : w3.cell? ⟨bx, 0, none⟩ = some (.int .i64 k) := HM3'.out.cell 0
  have e4 : (k == 4) = false := by
    rw [beq_eq_false_iff_ne]; have := HK13.out; omega
  have hC := cus_call w g b2 bx [7, 8, 9] (F3 k t tk id) _ l3 c3 w3 4 HL3.out HM3'.out HJ3.out rfl (hF3 k t tk id) (fun ns n h => hF3' k t tk id ns n h) HG.out HB'.out (by decide)
  have HC := Lib.hid hC
  clear hC
  go_wp2_with fail
  refine HC.out.mono ?_
  rintro e w4 ⟨n4, l4, c4, rfl, h4, hM4, hc4, hJ4, hl4⟩
  clear HC HM3' HJ3 c0
  have HL4 := Lib.hid (Nat.le_trans hl4 HL3.out)
  have HJ4 := Lib.hid hJ4
  have H4 := Lib.hid h4
  have HM4 : Hid (Rx w g b2 bx (F3 k t tk id n4) w4) := hM4
  have hc4' : Bk w4 w3.heap.size 3 #[.int .i64 (at_ n4 3)] := hc4
  clear hJ4 h4 hl4 hM4 hc4
  generalize hcu : at_ n4 3 = cu at hc4'
  have HCU := Lib.hid hcu
  generalize w3.heap.size = bc at hc4' ⊢
  have HC4 := Lib.hid hc4'
  clear hcu hc4'
  have c0 := HJ4.out.c0
  have HRT := Lib.hid (fun w => readText_any (str l4) (by rw [str_size]; exact HL4.out) w)
  go_wp2_with fail
  refine (HRT.out _).mono ?_
  rintro e w5 ⟨rfl, hb5⟩
  obtain ⟨x5, z5, er, hrt⟩ : ∃ x z e, Vi.rtext l4 = (x, z, e) := ⟨_, _, _, rfl⟩
  simp only [str_list, hrt]
  have HX5 : Hid (Rx w g b2 bx (F3 k t tk id n4) w5) := HM4.out.below hb5
  have HJ5 : Hid (Jrd w5 g l4 c4) := Bk.below HJ4.out hb5 (Bk.lt HJ4.out)
  have hbc : w5.cell? ⟨bc, 0, none⟩ = some (.int .i64 cu) := (HC4.out.below hb5 HC4.out.lt).cell 0
  have HPL : Hid (parse0 l = if c4 = false ∧ wi cu 0 1 = true ∧ er = 0 ∧ l4.drop z5 = [] then some ⟨k, ⟨tk, id, at_ n4 0, at_ n4 1, at_ n4 2, decide (cu = 1), str x5⟩, zId, 0, t⟩ else none) := by
    have h := record_stored H1.out H2.out H3.out H4.out (by rw [HK.out]; exact HK13.out)
    rw [HK.out, HT.out, HTK.out, HID.out, hrt] at h
    have hcu : at_ n4 3 = cu := HCU.out
    rw [hcu] at h
    exact h
  have HRT5 := Lib.hid hrt
  clear hrt hb5 HM4 HJ4 HC4 HRT c0 H1 H2 H3 H4 HK HT HTK HID HCU HL1 HL2 HL3
  have c0 := HJ5.out.c0
  have c1 := HJ5.out.c1
  have f1 : w5.frozen? ⟨g, 1, none⟩ = false := Bk.free HJ5.out 1
  have HXFD : Hid ((F3 k t tk id n4).item.data.size ≤ maxLen) := Nat.zero_le _
  have HX5E : Hid (∃ X, X = F3 k t tk id n4) := ⟨_, rfl⟩
  by_cases hc4 : c4 = true
  · subst hc4
    generalize F3 k t tk id n4 = XF at HX5 HXFD
    have HXF : Hid (Rx w g b2 bx XF (w5.setCell ⟨g, 1, none⟩ (.bool true))) := HX5.out.other HG.out HB'.out 1 _
    have HJF : Hid (Jrd (w5.setCell ⟨g, 1, none⟩ (.bool true)) g l4 true) := HJ5.out.fail
    have HDF : Hid (XF.item.data.size ≤ maxLen) := HXFD.out
    have HPF : Hid (parse0 l = if true = false ∧ l4 = [] then some XF else none) := by
      have h := HPL.out
      rw [if_neg (by simp)]
      rw [h]
      exact if_neg (by simp)
    clear HJ5 HX5 HPL
    have hlc := loadCells_bk (P := Try.prog) HXF.out.2.2 (Jo.rcA_size _)
    have hsc := storeCells_bk (P := Try.prog) HXF.out.2.1 (cs := rcA XF) (by rw [Jo.rcA_size]; exact sizeRec) rfl (Jo.rcA_one _)
    have N0 := HXF.out.2.1.row (rcA XF)
    have N1 := Lib.hid N0
    clear N0
    go_wp2_with fail
    simp only [Try.isAgg34, Try.sizeOf34, Result.andThen, ↓reduceIte, hlc]
    rw [Oper.upon_value]
    clear hlc
    go_wp2_with fail
    simp only [Try.sizeOf34, Result.andThen, ↓reduceIte, hsc, Jo.rcA_size]
    rw [Oper.upon_skip]
    clear hsc
    go_wp2
    (try simp only [Exit.inBlock, Exit.then])
    refine bodyPost_ret (v := .agg (rcA XF)) ?_ rfl (recPost_of HXF.out HJF.out HG.out HB'.out HDF.out (by first | exact HPF.out | simpa using HPF.out))
    rw [results_cell rfl]
    have hld := run_loadVar_row (P := Try.prog) _ _ 34 34 (rcA XF) (0, 0) _ N1.out Try.underlying34 rfl (by rw [Jo.rcA_size]; exact sizeRec)
    simp [asAddr, Act.put, Result.andThen, hld]
  · have hc4' : c4 = false := by simpa using hc4
    subst hc4'
    clear hc4
    by_cases he : er = 0
    · subst he
      by_cases hlo : cu < 0
      · generalize F3 k t tk id n4 = XF at HX5 HXFD
        have HXF : Hid (Rx w g b2 bx XF (w5.setCell ⟨g, 1, none⟩ (.bool true))) := HX5.out.other HG.out HB'.out 1 _
        have HJF : Hid (Jrd (w5.setCell ⟨g, 1, none⟩ (.bool true)) g l4 true) := HJ5.out.fail
        have HDF : Hid (XF.item.data.size ≤ maxLen) := HXFD.out
        have HPF : Hid (parse0 l = if true = false ∧ l4 = [] then some XF else none) := by
          have h := HPL.out
          rw [if_neg (by simp)]
          rw [h]
          exact if_neg (by simp [wi]; omega)
        clear HJ5 HX5 HPL
        have hlc := loadCells_bk (P := Try.prog) HXF.out.2.2 (Jo.rcA_size _)
        have hsc := storeCells_bk (P := Try.prog) HXF.out.2.1 (cs := rcA XF) (by rw [Jo.rcA_size]; exact sizeRec) rfl (Jo.rcA_one _)
        have N0 := HXF.out.2.1.row (rcA XF)
        have N1 := Lib.hid N0
        clear N0
        go_wp2_with fail
        simp only [Try.isAgg34, Try.sizeOf34, Result.andThen, ↓reduceIte, hlc]
        rw [Oper.upon_value]
        clear hlc
        go_wp2_with fail
        simp only [Try.sizeOf34, Result.andThen, ↓reduceIte, hsc, Jo.rcA_size]
        rw [Oper.upon_skip]
        clear hsc
        go_wp2
        (try simp only [Exit.inBlock, Exit.then])
        refine bodyPost_ret (v := .agg (rcA XF)) ?_ rfl (recPost_of HXF.out HJF.out HG.out HB'.out HDF.out (by first | exact HPF.out | simpa using HPF.out))
        rw [results_cell rfl]
        have hld := run_loadVar_row (P := Try.prog) _ _ 34 34 (rcA XF) (0, 0) _ N1.out Try.underlying34 rfl (by rw [Jo.rcA_size]; exact sizeRec)
        simp [asAddr, Act.put, Result.andThen, hld]
      · by_cases hhi : 1 < cu
        · generalize F3 k t tk id n4 = XF at HX5 HXFD
          have HXF : Hid (Rx w g b2 bx XF (w5.setCell ⟨g, 1, none⟩ (.bool true))) := HX5.out.other HG.out HB'.out 1 _
          have HJF : Hid (Jrd (w5.setCell ⟨g, 1, none⟩ (.bool true)) g l4 true) := HJ5.out.fail
          have HDF : Hid (XF.item.data.size ≤ maxLen) := HXFD.out
          have HPF : Hid (parse0 l = if true = false ∧ l4 = [] then some XF else none) := by
            have h := HPL.out
            rw [if_neg (by simp)]
            rw [h]
            exact if_neg (by simp [wi]; omega)
          clear HJ5 HX5 HPL
          have hlc := loadCells_bk (P := Try.prog) HXF.out.2.2 (Jo.rcA_size _)
          have hsc := storeCells_bk (P := Try.prog) HXF.out.2.1 (cs := rcA XF) (by rw [Jo.rcA_size]; exact sizeRec) rfl (Jo.rcA_one _)
          have N0 := HXF.out.2.1.row (rcA XF)
          have N1 := Lib.hid N0
          clear N0
          go_wp2_with fail
          simp only [Try.isAgg34, Try.sizeOf34, Result.andThen, ↓reduceIte, hlc]
          rw [Oper.upon_value]
          clear hlc
          go_wp2_with fail
          simp only [Try.sizeOf34, Result.andThen, ↓reduceIte, hsc, Jo.rcA_size]
          rw [Oper.upon_skip]
          clear hsc
          go_wp2
          (try simp only [Exit.inBlock, Exit.then])
          refine bodyPost_ret (v := .agg (rcA XF)) ?_ rfl (recPost_of HXF.out HJF.out HG.out HB'.out HDF.out (by first | exact HPF.out | simpa using HPF.out))
          rw [results_cell rfl]
          have hld := run_loadVar_row (P := Try.prog) _ _ 34 34 (rcA XF) (0, 0) _ N1.out Try.underlying34 rfl (by rw [Jo.rcA_size]; exact sizeRec)
          simp [asAddr, Act.put, Result.andThen, hld]
        · have HCR : Hid (wi cu 0 1 = true) := by show wi cu 0 1 = true; simp [wi]; omega
          obtain ⟨cb, hcb⟩ : ∃ cb : Bool, (cu == 1) = cb := ⟨_, rfl⟩
          have HCB : Hid (decide (cu = 1) = cb) := by show _ = _; rw [← hcb]; rfl
          have hz5 : z5 ≤ (str l4).size := by rw [str_size]; exact (Vi.rtext_canon HRT5.out).2.2.1
          have hf10 : w5.frozen? ⟨bx, 10, none⟩ = false := Bk.free HX5.out.2.2 10
          have hc10 : w5.cell? ⟨bx, 10, none⟩ = some (.bool false) := HX5.out.cell 10
          have HX6 : Hid (Rx w g b2 bx ⟨k, ⟨tk, id, at_ n4 0, at_ n4 1, at_ n4 2, cb, ⟨#[]⟩⟩, zId, 0, t⟩ (w5.setCell ⟨bx, 10, none⟩ (.bool cb))) := HX5.out.put HB'.out 10 _ rfl
          have hf11 : (w5.setCell ⟨bx, 10, none⟩ (.bool cb)).frozen? ⟨bx, 11, none⟩ = false := Bk.free HX6.out.2.2 11
          have hc11 : (w5.setCell ⟨bx, 10, none⟩ (.bool cb)).cell? ⟨bx, 11, none⟩ = some (.string ⟨#[]⟩) := HX6.out.cell 11
          have HX7 : Hid (Rx w g b2 bx ⟨k, ⟨tk, id, at_ n4 0, at_ n4 1, at_ n4 2, cb, str x5⟩, zId, 0, t⟩ ((w5.setCell ⟨bx, 10, none⟩ (.bool cb)).setCell ⟨bx, 11, none⟩ (.string (str x5)))) := HX6.out.put HB'.out 11 _ rfl
          have hgb : g ≠ bx := by have h1 := HG.out; have h2 := HB'.out.2.1; omega
          have HJ7 : Hid (Jrd ((w5.setCell ⟨bx, 10, none⟩ (.bool cb)).setCell ⟨bx, 11, none⟩ (.string (str x5))) g l4 false) := (HJ5.out.other hgb 10 _).other hgb 11 _
          have hg7 := HJ7.out.c0
          have hf7 : ((w5.setCell ⟨bx, 10, none⟩ (.bool cb)).setCell ⟨bx, 11, none⟩ (.string (str x5))).frozen? ⟨g, 0, none⟩ = false := Bk.free HJ7.out 0
          have hsl : (str l4).extract z5 (str l4).size = str (l4.drop z5) := by
            have := ex_str (str l4) z5 (str l4).size
            rw [this, str_list, List.take_of_length_le (by rw [List.length_drop, str_size]; exact Nat.le_refl _)]
          have HSL := Lib.hid hsl
          have HX8 : Hid (Rx w g b2 bx ⟨k, ⟨tk, id, at_ n4 0, at_ n4 1, at_ n4 2, cb, str x5⟩, zId, 0, t⟩ (((w5.setCell ⟨bx, 10, none⟩ (.bool cb)).setCell ⟨bx, 11, none⟩ (.string (str x5))).setCell ⟨g, 0, none⟩ (.string (str (l4.drop z5))))) := HX7.out.other HG.out HB'.out 0 _
          have HJ8 : Hid (Jrd (((w5.setCell ⟨bx, 10, none⟩ (.bool cb)).setCell ⟨bx, 11, none⟩ (.string (str x5))).setCell ⟨g, 0, none⟩ (.string (str (l4.drop z5)))) g (l4.drop z5) false) := HJ7.out.go _
          have HDF : Hid ((⟨k, ⟨tk, id, at_ n4 0, at_ n4 1, at_ n4 2, cb, str x5⟩, zId, 0, t⟩ : Rec).item.data.size ≤ maxLen) := by
            show (str x5).size ≤ maxLen
            rw [str_size]; have := rtext_small HRT5.out; unfold maxLen; omega
          have HPF : Hid (parse0 l = if false = false ∧ l4.drop z5 = [] then some ⟨k, ⟨tk, id, at_ n4 0, at_ n4 1, at_ n4 2, cb, str x5⟩, zId, 0, t⟩ else none) := by
            show parse0 l = _
            have h := HPL.out
            rw [HCR.out, HCB.out] at h
            rw [h]
            simp
          clear hsl HX5 HX6 HX7 HJ5 HPL
          generalize (⟨k, ⟨tk, id, at_ n4 0, at_ n4 1, at_ n4 2, cb, str x5⟩, zId, 0, t⟩ : Rec) = XF at HX8 HDF HPF
          go_wp2_with fail
          rw [HSL.out]
          have HXF : Hid (Rx w g b2 bx XF _) := HX8.out
          have HJF : Hid (Jrd _ g (l4.drop z5) false) := HJ8.out
          have hlc := loadCells_bk (P := Try.prog) HXF.out.2.2 (Jo.rcA_size _)
          have hsc := storeCells_bk (P := Try.prog) HXF.out.2.1 (cs := rcA XF) (by rw [Jo.rcA_size]; exact sizeRec) rfl (Jo.rcA_one _)
          have N0 := HXF.out.2.1.row (rcA XF)
          have N1 := Lib.hid N0
          clear N0
          simp only [Try.isAgg34, Try.sizeOf34, Result.andThen, ↓reduceIte, hlc]
          rw [Oper.upon_value]
          clear hlc
          go_wp2_with fail
          simp only [Try.sizeOf34, Result.andThen, ↓reduceIte, hsc, Jo.rcA_size]
          rw [Oper.upon_skip]
          clear hsc
          go_wp2
          (try simp only [Exit.inBlock, Exit.then])
          refine bodyPost_ret (v := .agg (rcA XF)) ?_ rfl (recPost_of HXF.out HJF.out HG.out HB'.out HDF.out (by first | exact HPF.out | simpa using HPF.out))
          rw [results_cell rfl]
          have hld := run_loadVar_row (P := Try.prog) _ _ 34 34 (rcA XF) (0, 0) _ N1.out Try.underlying34 rfl (by rw [Jo.rcA_size]; exact sizeRec)
          simp [asAddr, Act.put, Result.andThen, hld]
    · have heb : (er != 0) = true := by rw [bne_iff_ne]; exact he
      have HE := Lib.hid he
      clear he
      generalize F3 k t tk id n4 = XF at HX5 HXFD
      have HXF : Hid (Rx w g b2 bx XF (w5.setCell ⟨g, 1, none⟩ (.bool true))) := HX5.out.other HG.out HB'.out 1 _
      have HJF : Hid (Jrd (w5.setCell ⟨g, 1, none⟩ (.bool true)) g l4 true) := HJ5.out.fail
      have HDF : Hid (XF.item.data.size ≤ maxLen) := HXFD.out
      have HPF : Hid (parse0 l = if true = false ∧ l4 = [] then some XF else none) := by
        have h := HPL.out
        rw [if_neg (by simp)]
        rw [h]
        exact if_neg (by simp [HE.out])
      clear HJ5 HX5 HPL
      have hlc := loadCells_bk (P := Try.prog) HXF.out.2.2 (Jo.rcA_size _)
      have hsc := storeCells_bk (P := Try.prog) HXF.out.2.1 (cs := rcA XF) (by rw [Jo.rcA_size]; exact sizeRec) rfl (Jo.rcA_one _)
      have N0 := HXF.out.2.1.row (rcA XF)
      have N1 := Lib.hid N0
      clear N0
      go_wp2_with fail
      simp only [Try.isAgg34, Try.sizeOf34, Result.andThen, ↓reduceIte, hlc]
      rw [Oper.upon_value]
      clear hlc
      go_wp2_with fail
      simp only [Try.sizeOf34, Result.andThen, ↓reduceIte, hsc, Jo.rcA_size]
      rw [Oper.upon_skip]
      clear hsc
      go_wp2
      (try simp only [Exit.inBlock, Exit.then])
      refine bodyPost_ret (v := .agg (rcA XF)) ?_ rfl (recPost_of HXF.out HJF.out HG.out HB'.out HDF.out (by first | exact HPF.out | simpa using HPF.out))
      rw [results_cell rfl]
      have hld := run_loadVar_row (P := Try.prog) _ _ 34 34 (rcA XF) (0, 0) _ N1.out Try.underlying34 rfl (by rw [Jo.rcA_size]; exact sizeRec)
      simp [asAddr, Act.put, Result.andThen, hld]
end Go.Proofs.Ytlknjdfiedkhbaa
