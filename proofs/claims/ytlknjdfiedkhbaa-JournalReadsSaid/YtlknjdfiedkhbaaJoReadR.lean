/- The reference's Read, walked. Condition: a length below the model's greatest. -/
import Derived.Test.YtlknjdfiedkhbaaJoParse
namespace Go.Proofs.Ytlknjdfiedkhbaa
open Go Go.RowKit
open Jo (RId Itm Rec wi zId zIt rcA rcL ck)
attribute [-simp] Try.isAgg34 Try.sizeOf34 Try.typeInfo34

theorem recs0 (w : World) : (w.alloc (.cells #[] 34)).ownsRow w.heap.size 34 19 (.slice (some ⟨w.heap.size, 0, none⟩) 0 0) 0 [] :=
  ⟨rfl, .inr ⟨w.heap.size, 0, #[], rfl, Nat.le_refl _, heap_alloc_new w _, Nat.le_refl _, by unfold maxLen; omega, rfl, rfl⟩⟩
theorem bs0_rec (w : World) : Sem.run Try.prog (Instr.buildSlice 22 0 #[]) w = .ok (.slice (some ⟨w.heap.size, 0, none⟩) 0 0) (w.alloc (.cells #[] 34)) := by kernel_rfl
theorem first_parse_no {l x : List UInt8} {k : Nat} (h : openR l = (x, k, 0)) (hp : parseL x = none) : firstL l = none := by
  rw [first_parse h, hp]; rfl
theorem first_parse_yes {l x : List UInt8} {k : Nat} {r : Rec} (h : openR l = (x, k, 0)) (hp : parseL x = some r) : firstL l = some (r, k) := by
  rw [first_parse h, hp]; rfl

set_option maxHeartbeats 4000000 in
set_option maxRecDepth 100000 in
theorem readR_any (s : ByteArray) (hs : s.size ≤ maxLen) (w : World) :
    Calls Try.prog 25 #[.string s] w (RetRd w s.data.toList) := by
  have hsl : s.data.toList.length = s.size := by simp
  have HSL := Lib.hid hsl
  have HS := Lib.hid hs
  clear hsl hs
  have hz := (zero_of_info infoRec).1
  have HZ := Lib.hid hz
  clear hz
  obtain ⟨i0, hi0, hz0, hz1, hz2⟩ := info_parts infoRecB
  have HI := Lib.hid (And.intro hi0 (And.intro hz0 (And.intro hz1 hz2)))
  clear hi0 hz0 hz1 hz2
  by_cases hbig : 65536 < s.size
  · have hbi : (65536 : Int) < (s.size : Int) := by omega
    have HR : Hid (rdJ s.data.toList = ([], 0, 4)) := by show _ = _; unfold rdJ; rw [if_neg (by rw [HSL.out]; omega)]
    clear hbig
    go_enter Try.func25, Try.ntmps25
    go_wp2
    simp only [Try.sizeOf34, Result.andThen]
    rw [Oper.upon_value]
    go_wp2
    go_ret3
    exact retRd_of HR.out (RecsAt.nil _ _) ((Below.refl _ _).alloc (Nat.le_refl _) _)
  · have hbi : ¬ (65536 : Int) < (s.size : Int) := by omega
    have hsz : s.size ≤ 65536 := by omega
    have HRD : Hid (rdJ s.data.toList = ((readL s.data.toList).1, (readL s.data.toList).2, 0)) := by show _ = _; unfold rdJ; rw [if_pos (by rw [HSL.out]; omega)]
    have HI0 : Hid (RInv s.data.toList w (w.alloc (.cells #[] 34)) (.slice (some ⟨w.heap.size, 0, none⟩) 0 0) [] 0) := ⟨(Below.refl _ _).alloc (Nat.le_refl _) _, recs0 w, by simp, Nat.le_refl _, Nat.zero_le _⟩
    clear hbig
    go_enter Try.func25, Try.ntmps25
    go_wp2
    simp only [Try.sizeOf34, Result.andThen]
    rw [Oper.upon_value]
    go_wp2
    go_loopw [5, 6, 7, 8, 9, 10, 11] (fun v i _ _ _ _ _ wr => ∃ (L : List Rec) (p : Nat), i = .int .i64 p ∧ RInv s.data.toList w wr v L p) (fun _ i _ _ _ _ _ _ => s.size - (intOf i).toNat)
    case atStart => exact ⟨[], 0, rfl, HI0.out⟩
    case round =>
      clear HI0
      obtain ⟨L, p, rfl, hinv⟩ := hrel
      have hp : p ≤ s.size := by have := hinv.2.2.2.2; rw [HSL.out] at this; exact this
      have HX := Lib.hid hinv
      clear hinv
      have HXD : Hid ((s.extract p s.size).data.toList = s.data.toList.drop p) := by
        show _ = _
        rw [ex_list, List.take_of_length_le (by rw [List.length_drop, HSL.out]; exact Nat.le_refl _)]
      have hc := fun w => openR_any (s.extract p s.size) (by rw [ByteArray.size_extract]; unfold maxLen; omega) w
      obtain ⟨x1, z1, er, ho⟩ : ∃ x z e, openR (s.data.toList.drop p) = (x, z, e) := ⟨_, _, _, rfl⟩
      unfold RetOpen at hc
      rw [HXD.out, ho] at hc
      have HC := Lib.hid hc
      have HO := Lib.hid ho
      clear hc HXD ho
      go_wp2_with fail
      refine (HC.out _).mono ?_
      rintro e w1 ⟨rfl, hb1⟩
      have HX1 : Hid (RInv s.data.toList w w1 u5 L p) := HX.out.next hb1
      clear hb1 HC HX
      by_cases he : er = 0
      · subst he
        have hpc := fun w => parse_any (str x1) (by rw [str_size]; exact open_size HO.out) w
        rw [str_list] at hpc
        have HPC := Lib.hid hpc
        clear hpc
        go_wp2_with fail
        refine (HPC.out _).mono ?_
        rintro e w2 ⟨x, ok, rfl, hb2, hd, hf⟩
        have HX1' : Hid (RInv s.data.toList w w2 u5 L p) := HX1.out.next hb2
        have HF := Lib.hid hf
        clear hb2 hd hf HPC HX1
        have hsc : Sem.run Try.prog (storeCells ⟨w2.heap.size, 0, none⟩ (rcA x).toList) (w2.alloc (.cells (rcA zRec) 34)) = .ok () (w2.alloc (.cells (rcA x) 34)) := run_storeCells_new (P := Try.prog) w2 34 (rcA zRec) (rcA x) sizeRec rfl (Jo.rcA_one x)
        have hz := HZ.out
        have hlen : (rcL x).length = 19 := rfl
        have HX2 : Hid (RInv s.data.toList w (w2.alloc (.cells (rcA x) 34)) u5 L p) := HX1'.out.next ((Below.refl _ _).alloc (Nat.le_refl _) _)
        have HBK : Hid (Bk (w2.alloc (.cells (rcA x) 34)) w2.heap.size 34 (rcA x)) := Bk.new w2 _ _
        go_wp2_with fail
        simp only [Try.sizeOf34, Result.andThen, ↓reduceIte, hsc, Jo.rcA_size]
        rw [Oper.upon_skip]
        clear hsc hz hlen HX1'
        generalize w2.alloc (.cells (rcA x) 34) = w3 at HX2 HBK ⊢
        generalize w2.heap.size = b7 at HBK ⊢
        cases ok with
        | false =>
          have HE : Hid (rdJ s.data.toList = (L, p, 0)) := by
            show _ = _
            have h := HF.out
            rw [if_neg (by simp)] at h
            rw [HRD.out, HX2.out.end (first_parse_no HO.out h)]
          obtain ⟨A, c, rfl, hR⟩ := recs_of_row HX2.out.2.1
          have HRA := Lib.hid hR
          have HB := Lib.hid HX2.out.1
          clear hR
          go_wp2
          go_ret3
          exact retRd_of HE.out HRA.out HB.out
        | true =>
          have hlc := loadCells_bk (P := Try.prog) HBK.out (Jo.rcA_size x)
          have hlen : (rcL x).length = 19 := rfl
          go_wp2_with fail
          simp only [Try.isAgg34, Try.sizeOf34, Result.andThen, ↓reduceIte, hlc]
          rw [Oper.upon_value]
          clear hlc
          go_wp2_with fail
          refine upon_as (Result.ok (.value (.slice (some ⟨w3.heap.size, 0, none⟩) 1 1)) (w3.alloc (.cells (rcA x) 34))) (by kernel_rfl) ?_
          rw [Oper.upon_value]
          obtain ⟨hi0, hz0, hz1, hz2⟩ := HI.out
          have HFF : Hid (firstL (s.data.toList.drop p) = some (x, z1)) := first_parse_yes HO.out (by have h := HF.out; simpa using h)
          have hpk : p + z1 ≤ s.size := by have := (first_canon HFF.out).2.2.2; rw [List.length_drop, HSL.out] at this; omega
          have hLp : L.length ≤ p := HX2.out.2.2.2.1
          go_wp2_with (at_builtin; refine wpList_append_own_at _ rfl _ _ 22 rfl w.heap.size 34 i0 (.agg (rcA zRec)) 19 160 Try.underlying22 hi0 hz0 hz1 hz2 rfl (by decide) _ _ _ rfl (HX2.out.2.1.alloc _) ⟨w3.heap.size, 0, none⟩ 1 1 (rcL x) rfl rfl ?c1 ?c2 ?c3 ?c4 ?c5 ?_)
          case c1 => exact fun j u hu => by rw [Addr.add_mid, Nat.zero_add, World.cell?_alloc_new]; simpa [rcA] using hu
          case c2 => exact fun u hu => List.all_eq_true.1 (by simpa [rcA] using Jo.rcA_one x) u hu
          case c3 => unfold maxLen; omega
          case c4 => omega
          case c5 => have := HX2.out.1.size; simp; omega
          intro v' w4 hown' hg' _ _
          have HB4 : Hid (Below w.heap.size w w4) := (HX2.out.1.alloc HX2.out.1.size _).grown hg' (by have := HX2.out.1.size; simp; omega) (fun j hj => (HX2.out.2.1.lt j hj).1)
          have HN := Lib.hid (HX2.out.push HFF.out HB4.out hown')
          have hk1 : 1 ≤ z1 := HN.out.2.2
          clear hown' hg' hi0 hz0 hz1 hz2
          go_wp2
          go_roundw
          case rel => exact ⟨L ++ [x], p + z1, by go_num, HN.out.1⟩
          case measure => simp [intOf]; omega
      · have HE : Hid (rdJ s.data.toList = (L, p, 0)) := by
          show _ = _
          rw [HRD.out, HX1.out.end (first_err HO.out he)]
        obtain ⟨A, c, rfl, hR⟩ := recs_of_row HX1.out.2.1
        have HRA := Lib.hid hR
        have HB := Lib.hid HX1.out.1
        have heb : (er != 0) = true := by rw [bne_iff_ne]; exact he
        clear hR he
        go_wp2
        go_ret3
        exact retRd_of HE.out HRA.out HB.out
end Go.Proofs.Ytlknjdfiedkhbaa
