/- The record at the beginning of a journal, walked. Condition: a length below the model's greatest. -/
import Derived.Test.YtlknjdfiedkhbaaJoRecord
namespace Go.Proofs.Ytlknjdfiedkhbaa
open Go Go.RowKit
open Jo (RId Itm Rec wi zId zIt rcA rcL ck)
attribute [-simp] Try.isAgg34 Try.sizeOf34 Try.typeInfo34

def FirstPost (w : World) (l : List UInt8) (e : Ending) (w' : World) : Prop :=
  ∃ (x : Rec) (k : Nat) (ok : Bool), e = .returned (.tuple #[.agg (rcA x), .int .i64 (k : Int), .bool ok]) ∧ Below w.heap.size w w' ∧ x.item.data.size ≤ maxLen ∧ firstL l = (if ok = true then some (x, k) else none)
theorem firstPost_no {w w' : World} {l : List UInt8} (h : firstL l = none) (hb : Below w.heap.size w w') : FirstPost w l (.returned (.tuple #[.agg (rcA zRec), .int .i64 0, .bool false])) w' :=
  ⟨zRec, 0, false, rfl, hb, Nat.zero_le _, h⟩
theorem firstPost_yes {w w' : World} {l : List UInt8} {x : Rec} {k : Nat} (h : firstL l = some (x, k)) (hd : x.item.data.size ≤ maxLen) (hb : Below w.heap.size w w') : FirstPost w l (.returned (.tuple #[.agg (rcA x), .int .i64 (k : Int), .bool true])) w' :=
  ⟨x, k, true, rfl, hb, hd, h⟩
theorem results_cell_two {fn : Func} {p u v : Tmp} {ty : TypeId} (h : fn.results = #[.cell p ty, .tmp u, .tmp v]) (tmps : Array Value) (P : Program) (w : World) :
    (results fn tmps).run P w = ((asAddr (tmps.getD p undef)).run P w).andThen fun a w₁ => ((loadVar ty a).run P w₁).andThen fun x w₂ => .ok (.tuple #[x, tmps.getD u undef, tmps.getD v undef]) w₂ := by
  simp only [results, h]
  simp [Sem.run_bind, Result.andThen]
theorem first_err {l x : List UInt8} {k : Nat} {e : Int} (h : openR l = (x, k, e)) (he : e ≠ 0) : firstL l = none := first_open (by rw [h]; exact he)
theorem first_parse {l x : List UInt8} {k : Nat} (h : openR l = (x, k, 0)) : firstL l = (parseL x).map fun r => (r, k) := by unfold firstL; rw [h]; rfl
theorem first_none {l x : List UInt8} {k : Nat} (h : openR l = (x, k, 0)) (hp : parse0 x = none) : firstL l = none := by
  rw [first_parse h]; unfold parseL; rw [hp]; rfl
theorem first_bad {l x : List UInt8} {k : Nat} {r : Rec} (h : openR l = (x, k, 0)) (hp : parse0 x = some r) (hc : ck r ≠ 0) : firstL l = none := by
  rw [first_parse h]; unfold parseL; rw [hp]; simp [Option.filter, hc]
theorem first_good {l x : List UInt8} {k : Nat} {r : Rec} (h : openR l = (x, k, 0)) (hp : parse0 x = some r) (hc : ck r = 0) : firstL l = some (r, k) := by
  rw [first_parse h]; unfold parseL; rw [hp]; simp [Option.filter, hc]
theorem open_size {l x : List UInt8} {k : Nat} {e : Int} (h : openR l = (x, k, e)) : x.length ≤ 65536 := by
  by_cases he : e = 0
  · subst he; exact (open_canon h).1
  · rw [(open_no h he).1]; exact Nat.zero_le _
theorem below_setRow2 {B b : Nat} {w W : World} (h : Below B w W) (hb : B ≤ b) (cs : Array Value) : Below B w (W.setRow b cs) :=
  h.trans ⟨rfl, rfl, rfl, by simp [World.setRow], fun i hi => setRow_other W b i cs (by omega)⟩

set_option maxHeartbeats 4000000 in
set_option maxRecDepth 100000 in
theorem first_any (s : ByteArray) (hs : s.size ≤ maxLen) (w : World) :
    Calls Try.prog 48 #[.string s] w (FirstPost w s.data.toList) := by
  obtain ⟨x1, z1, er, ho⟩ : ∃ x z e, openR s.data.toList = (x, z, e) := ⟨_, _, _, rfl⟩
  have hc := fun w => open_any s hs w
  unfold RetOpen at hc
  simp only [ho] at hc
  have HC := Lib.hid hc
  have HO := Lib.hid ho
  have hz := (zero_of_info infoRec).1
  have HK := Lib.hid (Bk.new w 34 (rcA zRec))
  have HB0 : Hid (Below w.heap.size w (w.alloc (.cells (rcA zRec) 34))) := (Below.refl _ _).alloc (Nat.le_refl _) _
  clear hc ho
  go_enter Try.func48, Try.ntmps48
  go_wp2_with fail
  refine (HC.out _).mono ?_
  rintro e w1 ⟨rfl, hb1⟩
  have HZ := Lib.hid hz
  have HK1 := Lib.hid (HK.out.below hb1 HK.out.lt)
  have HB1 := Lib.hid (HB0.out.trans (hb1.mono HB0.out.size))
  clear hb1 HK HB0 HC hz
  obtain ⟨b0, hb0⟩ : ∃ b, b = w.heap.size := ⟨_, rfl⟩
  have HB00 : Hid (w.heap.size ≤ b0) := by rw [hb0]; exact Nat.le_refl _
  have HK1' : Hid (Bk w1 b0 34 (rcA zRec)) := by rw [hb0]; exact HK1.out
  rw [← hb0]
  clear hb0 HK1
  by_cases he : er = 0
  · subst he
    have hsz : x1.length ≤ maxLen := Nat.le_trans (open_size HO.out) (by decide)
    have HR := Lib.hid (record_any w1.heap.size x1 (w1.alloc (.cells #[.string (str x1), .bool false] 93)) hsz (Bk.new w1 _ _))
    clear hsz
    go_wp2_with fail
    refine HR.out.mono ?_
    rintro e w2 ⟨x, r, b, rfl, hg, hJ, hd, hp⟩
    have HK2 : Hid (Bk w2 b0 34 (rcA zRec)) := (HK1'.out.alloc _).grown hg (fun e => by have := HK1'.out.lt; simp only [Option.some.injEq] at e; omega)
    have HB2 : Hid (Below w.heap.size w w2) := below_grown (HB1.out.alloc HB1.out.size _) hg HB1.out.size (Nat.le_trans HB1.out.size (by simp))
    have HG2 : Hid (w1.heap.size < w2.heap.size ∧ w1.heap.size ≠ b0) := ⟨hJ.lt, by have := HK1'.out.lt; omega⟩
    have HJ2 := Lib.hid hJ
    have HD := Lib.hid hd
    have HP := Lib.hid hp
    clear hg hJ hd hp HR HK1' HB1
    generalize w1.heap.size = g at HG2 HJ2 ⊢
    have hsc : Sem.run Try.prog (storeCells ⟨w2.heap.size, 0, none⟩ (rcA x).toList) (w2.alloc (.cells (rcA zRec) 34)) = .ok () (w2.alloc (.cells (rcA x) 34)) := run_storeCells_new (P := Try.prog) w2 34 (rcA zRec) (rcA x) sizeRec rfl (Jo.rcA_one x)
    have HSC := Lib.hid hsc
    have HX3 : Hid (Bk (w2.alloc (.cells (rcA x) 34)) w2.heap.size 34 (rcA x)) := Bk.new w2 _ _
    have HKX0 : Hid (Bk (w2.alloc (.cells (rcA x) 34)) b0 34 (rcA zRec)) := HK2.out.alloc _
    have HBX0 : Hid (Below w.heap.size w (w2.alloc (.cells (rcA x) 34))) := HB2.out.alloc HB2.out.size _
    have HJX : Hid (Jrd (w2.alloc (.cells (rcA x) 34)) g r b) := HJ2.out.alloc _
    clear hsc HK2 HB2 HJ2
    have hz := HZ.out
    have hlen : (rcL x).length = 19 := rfl
    go_wp2_with fail
    simp only [Try.sizeOf34, Result.andThen, ↓reduceIte, HSC.out, Jo.rcA_size]
    rw [Oper.upon_skip]
    clear hz hlen HSC
    generalize w2.alloc (.cells (rcA x) 34) = w3 at HX3 HKX0 HBX0 HJX ⊢
    have HX3' := HX3
    generalize w2.heap.size = b9 at HX3' ⊢
    have c0 := HJX.out.c0
    have c1 := HJX.out.c1
    cases b with
    | true =>
      have HF : Hid (firstL s.data.toList = none) := first_none HO.out (by have h := HP.out; rwa [if_neg (by simp)] at h)
      have HKX := HKX0
      have HBX := HBX0
      have hsc := storeCells_bk (P := Try.prog) HKX.out (cs := rcA zRec) (by rw [Jo.rcA_size]; exact sizeRec) rfl (Jo.rcA_one _)
      have N1 := Lib.hid (HKX.out.row (rcA zRec))
      have hz := HZ.out
      go_wp2_with fail
      simp only [Try.sizeOf34, Result.andThen, ↓reduceIte, hsc, Jo.rcA_size]
      rw [Oper.upon_skip]
      clear hsc
      go_wp2
      (try simp only [Exit.inBlock, Exit.then])
      refine bodyPost_ret (v := .tuple #[.agg (rcA zRec), .int .i64 0, .bool false]) ?_ rfl (firstPost_no HF.out (below_setRow2 HBX.out HB00.out _))
      rw [results_cell_two rfl]
      have hld := run_loadVar_row (P := Try.prog) _ _ 34 34 (rcA zRec) (0, 0) _ N1.out Try.underlying34 rfl (by rw [Jo.rcA_size]; exact sizeRec)
      simp [asAddr, Result.andThen, hld]
    | false =>
      by_cases hr : r = []
      · subst hr
        have HP1 : Hid (parse0 x1 = some x) := by have h := HP.out; rwa [if_pos (by simp)] at h
        have hs0 : (str ([] : List UInt8)).toList = [] := by rw [Lib.toList_data, str_list]
        have hlc := loadCells_bk (P := Try.prog) HX3'.out (Jo.rcA_size x)
        have HCK := Lib.hid (fun w => check_any x HD.out w)
        have HQ : Hid (ck x = 0 → firstL s.data.toList = some (x, z1)) := fun h => first_good HO.out HP1.out h
        have HQ2 : Hid (ck x ≠ 0 → firstL s.data.toList = none) := fun h => first_bad HO.out HP1.out h
        generalize ck x = q at HCK HQ HQ2
        go_wp2_with fail
        simp only [Try.isAgg34, Try.sizeOf34, Result.andThen, ↓reduceIte, hlc]
        rw [Oper.upon_value]
        clear hlc
        go_wp2_with fail
        refine (HCK.out _).mono ?_
        rintro e w4 ⟨rfl, hb4⟩
        have HKX := Lib.hid (HKX0.out.below hb4 HKX0.out.lt)
        have HBX := Lib.hid (HBX0.out.trans (hb4.mono HBX0.out.size))
        have HX4 := Lib.hid (HX3'.out.below hb4 HX3'.out.lt)
        clear hb4 HCK HKX0 HBX0 HX3' HX3 HJX c0 c1
        by_cases hq : q = 0
        · have HF := Lib.hid (HQ.out hq)
          subst hq
          clear HQ HQ2
          have hlc := loadCells_bk (P := Try.prog) HX4.out (Jo.rcA_size x)
          have hsc := storeCells_bk (P := Try.prog) HKX.out (cs := rcA x) (by rw [Jo.rcA_size]; exact sizeRec) rfl (Jo.rcA_one _)
          have N1 := Lib.hid (HKX.out.row (rcA x))
          go_wp2_with fail
          simp only [Try.isAgg34, Try.sizeOf34, Result.andThen, ↓reduceIte, hlc]
          rw [Oper.upon_value]
          clear hlc
          go_wp2_with fail
          simp only [Try.sizeOf34, Result.andThen, ↓reduceIte, hsc, Jo.rcA_size]
          rw [Oper.upon_skip]
          clear hsc
          go_wp2
          (try simp only [Exit.inBlock, Exit.then])
          refine bodyPost_ret (v := .tuple #[.agg (rcA x), .int .i64 z1, .bool true]) ?_ rfl (firstPost_yes HF.out HD.out (below_setRow2 HBX.out HB00.out _))
          rw [results_cell_two rfl]
          have hld := run_loadVar_row (P := Try.prog) _ _ 34 34 (rcA x) (0, 0) _ N1.out Try.underlying34 rfl (by rw [Jo.rcA_size]; exact sizeRec)
          simp [asAddr, Result.andThen, hld]
        · have HF := Lib.hid (HQ2.out hq)
          have hqb : (q != 0) = true := by rw [bne_iff_ne]; exact hq
          clear hq HQ HQ2
          have hsc := storeCells_bk (P := Try.prog) HKX.out (cs := rcA zRec) (by rw [Jo.rcA_size]; exact sizeRec) rfl (Jo.rcA_one _)
          have N1 := Lib.hid (HKX.out.row (rcA zRec))
          have hz := HZ.out
          go_wp2_with fail
          simp only [Try.sizeOf34, Result.andThen, ↓reduceIte, hsc, Jo.rcA_size]
          rw [Oper.upon_skip]
          clear hsc
          go_wp2
          (try simp only [Exit.inBlock, Exit.then])
          refine bodyPost_ret (v := .tuple #[.agg (rcA zRec), .int .i64 0, .bool false]) ?_ rfl (firstPost_no HF.out (below_setRow2 HBX.out HB00.out _))
          rw [results_cell_two rfl]
          have hld := run_loadVar_row (P := Try.prog) _ _ 34 34 (rcA zRec) (0, 0) _ N1.out Try.underlying34 rfl (by rw [Jo.rcA_size]; exact sizeRec)
          simp [asAddr, Result.andThen, hld]
      · have HF : Hid (firstL s.data.toList = none) := first_none HO.out (by have h := HP.out; rwa [if_neg (by simp [hr])] at h)
        have hs0 : (str r).toList ≠ [] := by rw [Lib.toList_data, str_list]; exact hr
        have hs1 : (!(str r).toList.isEmpty) = true := by rw [Lib.toList_data, str_list]; cases r <;> simp_all
        have HKX := HKX0
        have HBX := HBX0
        have hsc := storeCells_bk (P := Try.prog) HKX.out (cs := rcA zRec) (by rw [Jo.rcA_size]; exact sizeRec) rfl (Jo.rcA_one _)
        have N1 := Lib.hid (HKX.out.row (rcA zRec))
        have hz := HZ.out
        go_wp2_with fail
        simp only [Try.sizeOf34, Result.andThen, ↓reduceIte, hsc, Jo.rcA_size]
        rw [Oper.upon_skip]
        clear hsc
        go_wp2
        (try simp only [Exit.inBlock, Exit.then])
        refine bodyPost_ret (v := .tuple #[.agg (rcA zRec), .int .i64 0, .bool false]) ?_ rfl (firstPost_no HF.out (below_setRow2 HBX.out HB00.out _))
        rw [results_cell_two rfl]
        have hld := run_loadVar_row (P := Try.prog) _ _ 34 34 (rcA zRec) (0, 0) _ N1.out Try.underlying34 rfl (by rw [Jo.rcA_size]; exact sizeRec)
        simp [asAddr, Result.andThen, hld]
  · have HF : Hid (firstL s.data.toList = none) := first_err HO.out he
    have heb : (er != 0) = true := by rw [bne_iff_ne]; exact he
    clear he
    have HKX := HK1'
    have HBX := HB1
    have hsc := storeCells_bk (P := Try.prog) HKX.out (cs := rcA zRec) (by rw [Jo.rcA_size]; exact sizeRec) rfl (Jo.rcA_one _)
    have N1 := Lib.hid (HKX.out.row (rcA zRec))
    have hz := HZ.out
    go_wp2_with fail
    simp only [Try.sizeOf34, Result.andThen, ↓reduceIte, hsc, Jo.rcA_size]
    rw [Oper.upon_skip]
    clear hsc
    go_wp2
    (try simp only [Exit.inBlock, Exit.then])
    refine bodyPost_ret (v := .tuple #[.agg (rcA zRec), .int .i64 0, .bool false]) ?_ rfl (firstPost_no HF.out (below_setRow2 HBX.out HB00.out _))
    rw [results_cell_two rfl]
    have hld := run_loadVar_row (P := Try.prog) _ _ 34 34 (rcA zRec) (0, 0) _ N1.out Try.underlying34 rfl (by rw [Jo.rcA_size]; exact sizeRec)
    simp [asAddr, Result.andThen, hld]
end Go.Proofs.Ytlknjdfiedkhbaa
