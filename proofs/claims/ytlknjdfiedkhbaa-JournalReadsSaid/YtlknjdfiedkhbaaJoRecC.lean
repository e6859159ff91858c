/- The journal's reader: reading a record, walked: any other record. Conditions: the reader lies in one block; the length below the model's greatest. -/
import Derived.Test.YtlknjdfiedkhbaaJoRecH
namespace Go.Proofs.Ytlknjdfiedkhbaa
open Go Go.RowKit
open Jo (RId Itm Rec wi zId zIt rcA rcL)
attribute [-simp] Try.isAgg34 Try.sizeOf34 Try.typeInfo34

set_option maxHeartbeats 4000000 in
set_option maxRecDepth 100000 in
theorem record_other (g : Nat) (l : List UInt8) (w : World) (hl : l.length ≤ maxLen) (hJ : Jrd w g l false) (hq : ¬ (at_ (rdS 2 (l, false)).1 0 = 1 ∨ at_ (rdS 2 (l, false)).1 0 = 3)) :
    Calls Try.prog 60 #[.pointer (some ⟨g, 0, none⟩)] w (RecPost w g l) := by
  have HL := Lib.hid hl
  have HQ := Lib.hid hq
  clear hq
  have HG : Hid (g < w.heap.size) := hJ.lt
  have hz := (zero_of_info infoRec).1
  have HM0 : Hid (Rx w g w.heap.size (w.heap.size + 1) zRec ((w.alloc (.cells (rcA zRec) 34)).alloc (.cells (rcA zRec) 34))) :=
    ⟨(World.grownBy_alloc _ _ _).trans (World.grownBy_alloc _ _ _), (Bk.new w _ _).alloc _, by have := Bk.new (w.alloc (.cells (rcA zRec) 34)) 34 (rcA zRec); rw [World.size_alloc] at this; exact this⟩
  have HJ0 : Hid (Jrd ((w.alloc (.cells (rcA zRec) 34)).alloc (.cells (rcA zRec) 34)) g l false) := (hJ.alloc _).alloc _
  have HB : Hid (w.heap.size ≤ w.heap.size ∧ w.heap.size ≤ w.heap.size + 1 ∧ w.heap.size ≠ w.heap.size + 1) := ⟨Nat.le_refl _, Nat.le_succ _, by omega⟩
  have hC := rec_call w g w.heap.size (w.heap.size + 1) [0, 18] F0 zRec l false _ 2 HL.out HM0.out HJ0.out rfl hF0 HG.out HB.out (by decide) (by decide)
  rw [World.size_alloc, World.size_alloc] at hC
  have HC := Lib.hid hC
  clear hC hJ hl
  go_enter Try.func60, Try.ntmps60
  go_wp2_with fail
  refine HC.out.mono ?_
  rintro e w1 ⟨n1, l1, b1, rfl, h1, hM1, hJ1, hl1⟩
  clear HC HM0 HJ0
  have HM1 : Hid (Rx w g w.heap.size (w.heap.size + 1) ⟨at_ n1 0, zIt, zId, 0, at_ n1 1⟩ w1) := hM1
  have HJ1 := Lib.hid hJ1
  have HL1 := Lib.hid (Nat.le_trans hl1 HL.out)
  have H1 := Lib.hid h1
  clear hM1 hJ1 hl1 h1
  generalize hk : at_ n1 0 = k at HM1
  generalize ht : at_ n1 1 = t at HM1
  have HK := Lib.hid hk
  have HT := Lib.hid ht
  clear hk ht
  generalize w.heap.size + 1 = bx at HM1 HB ⊢
  obtain ⟨b2, hb2⟩ : ∃ b, b = w.heap.size := ⟨_, rfl⟩
  have HB' : Hid (w.heap.size ≤ b2 ∧ w.heap.size ≤ bx ∧ b2 ≠ bx) := by rw [hb2]; exact HB.out
  have HM1' : Hid (Rx w g b2 bx ⟨k, zIt, zId, 0, t⟩ w1) := by rw [hb2]; exact HM1.out
  rw [← hb2]
  clear hb2 HM1 HB
  have c0 := HM1'.out.cell 0
  have c0' : w1.cell? ⟨bx, 0, none⟩ = some (.int .i64 k) := c0
  clear c0
  have hk13 := HQ.out
  have h1q : rdS 2 (l, false) = (n1, l1, b1) := H1.out
  rw [h1q] at hk13
  simp only [HK.out] at hk13
  clear HQ h1q
  have HK13 := Lib.hid hk13
  have e1 : (k == 1) = false := by rw [beq_eq_false_iff_ne]; omega
  have e3 : (k == 3) = false := by rw [beq_eq_false_iff_ne]; omega
  clear hk13
  have hC := rec_call w g b2 bx [12, 13, 14, 15, 16] (G2 k t) _ l1 b1 w1.drew 5 HL1.out HM1'.out.drew HJ1.out.drew rfl (hG2 k t) HG.out HB'.out (by decide) (by decide)
  have HC := Lib.hid hC
  clear hC
  go_wp2_with fail
  go_region_with (go_at_call 72; refine HC.out.mono ?_; rintro e w3 ⟨n3, l3, c3, rfl, h3, hM3, hJ3, hl3⟩)
  clear HC c0' HJ1 HM1'
  have HL3 := Lib.hid (Nat.le_trans hl3 HL1.out)
  have HJ3 := Lib.hid hJ3
  have H3 := Lib.hid h3
  have HM3 : Hid (Rx w g b2 bx (G2 k t n3) w3) := hM3
  clear hJ3 h3 hl3 hM3
  have HM3' : Hid (Rx w g b2 bx ⟨k, zIt, idOf n3 0, 0, t⟩ w3) := HM3.out
  generalize hid : idOf n3 0 = id at HM3'
  have HID := Lib.hid hid
  clear hid HM3
  have c0 : w3.cell? ⟨bx, 0, none⟩ = some (.int .i64 k) := HM3'.out.cell 0
  by_cases hk4 : k = 4
  · have HK4 := Lib.hid hk4
    have e4 : (k == 4) = true := by rw [beq_iff_eq]; exact hk4
    clear hk4
    have hC := rec_call w g b2 bx [17] (G3 k t id) _ l3 c3 w3 1 HL3.out HM3'.out HJ3.out rfl (hG3 k t id) HG.out HB'.out (by decide) (by decide)
    have HC := Lib.hid hC
    clear hC
    go_wp2_with fail
    refine HC.out.mono ?_
    rintro e w5 ⟨n5, l5, c5, rfl, h5, hM5, hJ5, hl5⟩
    have H5 := Lib.hid h5
    have HXF0 : Hid (Rx w g b2 bx (⟨k, zIt, id, at_ n5 0, t⟩ : Rec) w5) := hM5
    have HJF := Lib.hid hJ5
    have HDF0 : Hid ((⟨k, zIt, id, at_ n5 0, t⟩ : Rec).item.data.size ≤ maxLen) := Nat.zero_le _
    have HPF0 : Hid (parse0 l = if c5 = false ∧ l5 = [] then some (⟨k, zIt, id, at_ n5 0, t⟩ : Rec) else none) := by
      show parse0 l = _
      rw [record_ticket H1.out H3.out H5.out (by rw [HK.out]; exact HK4.out), HK.out, HT.out, HID.out]
    clear HC HM3' HJ3 c0 hM5 hJ5 hl5 h5 H1 H3 H5 HID HK HT
    generalize (⟨k, zIt, id, at_ n5 0, t⟩ : Rec) = XF at HXF0 HDF0 HPF0
    have HXF := HXF0
    have HDF := HDF0
    have HPF := HPF0
    clear HXF0 HDF0 HPF0
    have hlc := loadCells_bk (P := Try.prog) HXF.out.2.2 (Jo.rcA_size _)
    have hsc := storeCells_bk (P := Try.prog) HXF.out.2.1 (cs := rcA XF) (by rw [Jo.rcA_size]; exact sizeRec) rfl (Jo.rcA_one _)
    have N0 := HXF.out.2.1.row (rcA XF)
    have N1 := Lib.hid N0
    clear N0
    go_wp2_with fail
    simp only [Try.isAgg34, Try.sizeOf34, Result.andThen, ↓reduceIte, hlc]
    rw [Oper.upon_value]
    clear hlc
    go_wp2_with fail
    simp only [Try.sizeOf34, Result.andThen, ↓reduceIte, hsc, Jo.rcA_size]
    rw [Oper.upon_skip]
    clear hsc
    go_wp2
    (try simp only [Exit.inBlock, Exit.then])
    refine bodyPost_ret (v := .agg (rcA XF)) ?_ rfl (recPost_of HXF.out HJF.out HG.out HB'.out HDF.out (by first | exact HPF.out | simpa using HPF.out))
    rw [results_cell rfl]
    have hld := run_loadVar_row (P := Try.prog) _ _ 34 34 (rcA XF) (0, 0) _ N1.out Try.underlying34 rfl (by rw [Jo.rcA_size]; exact sizeRec)
    simp [asAddr, Act.put, Result.andThen, hld]
  · have HK4 := Lib.hid hk4
    have e4 : (k == 4) = false := by rw [beq_eq_false_iff_ne]; exact hk4
    clear hk4
    have HXF0 : Hid (Rx w g b2 bx (⟨k, zIt, id, 0, t⟩ : Rec) w3) := HM3'.out
    have HJF := HJ3
    have HDF0 : Hid ((⟨k, zIt, id, 0, t⟩ : Rec).item.data.size ≤ maxLen) := Nat.zero_le _
    have HPF0 : Hid (parse0 l = if c3 = false ∧ l3 = [] then some (⟨k, zIt, id, 0, t⟩ : Rec) else none) := by
      show parse0 l = _
      rw [record_rest H1.out H3.out (by rw [HK.out]; exact HK13.out) (by rw [HK.out]; exact HK4.out), HK.out, HT.out, HID.out]
    clear HM3' HJ3 H1 H3 HID HK HT
    generalize (⟨k, zIt, id, 0, t⟩ : Rec) = XF at HXF0 HDF0 HPF0
    have HXF := HXF0
    have HDF := HDF0
    have HPF := HPF0
    clear HXF0 HDF0 HPF0
    have hlc := loadCells_bk (P := Try.prog) HXF.out.2.2 (Jo.rcA_size _)
    have hsc := storeCells_bk (P := Try.prog) HXF.out.2.1 (cs := rcA XF) (by rw [Jo.rcA_size]; exact sizeRec) rfl (Jo.rcA_one _)
    have N0 := HXF.out.2.1.row (rcA XF)
    have N1 := Lib.hid N0
    clear N0
    go_wp2_with fail
    simp only [Try.isAgg34, Try.sizeOf34, Result.andThen, ↓reduceIte, hlc]
    rw [Oper.upon_value]
    clear hlc
    go_wp2_with fail
    simp only [Try.sizeOf34, Result.andThen, ↓reduceIte, hsc, Jo.rcA_size]
    rw [Oper.upon_skip]
    clear hsc
    go_wp2
    (try simp only [Exit.inBlock, Exit.then])
    refine bodyPost_ret (v := .agg (rcA XF)) ?_ rfl (recPost_of HXF.out HJF.out HG.out HB'.out HDF.out (by first | exact HPF.out | simpa using HPF.out))
    rw [results_cell rfl]
    have hld := run_loadVar_row (P := Try.prog) _ _ 34 34 (rcA XF) (0, 0) _ N1.out Try.underlying34 rfl (by rw [Jo.rcA_size]; exact sizeRec)
    simp [asAddr, Act.put, Result.andThen, hld]
end Go.Proofs.Ytlknjdfiedkhbaa
