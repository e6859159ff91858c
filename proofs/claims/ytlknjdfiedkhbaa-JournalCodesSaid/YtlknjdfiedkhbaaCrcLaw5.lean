/- The reference's Seal and Open, and the law CrcFrames, walked. Condition: lengths below the model's greatest. -/
import Derived.Test.YtlknjdfiedkhbaaCrcLaw3
import Derived.Test.YtlknjdfiedkhbaaCrcRef
namespace Go.Proofs.Ytlknjdfiedkhbaa
open Go Go.RowKit
open Crc (upd sum bytes4)

set_option maxHeartbeats 1000000 in
theorem sealR_any (s : ByteArray) (hs : s.size ≤ maxLen) (w : World) :
    Calls Try.prog 41 #[.string s] w fun e w' => e = .returned (.tuple #[.string (str (sealL s.data.toList)), .int .i64 (sealE s.data.toList)]) ∧ Below w.heap.size w w' := by
  unfold maxLen at hs
  have hl : s.data.toList.length = s.size := by simp
  by_cases h : s.size ≤ 65536
  · have hp := seal_parts (S := s.data.toList) (by omega)
    rw [hl] at hp
    have HL := Lib.hid hp.1
    have HE := Lib.hid hp.2
    have hI := int_size (s.size : Int)
    have hM := sumR_any (str (Vi.intL (s.size : Int)) ++ s) (by rw [cat_size]; have := Vi.intL_len9 (s.size : Int); unfold maxLen; omega)
    rw [cat_list] at hM
    have HM := Lib.hid hM
    have HT := Lib.hid (bytesR_any (sum (Vi.intL (s.size : Int) ++ s.data.toList)) (Crc.sum_lt _))
    have HN := Lib.hid (intR_any (s.size : Int))
    have hz4 : (str (bytes4 (sum (Vi.intL (s.size : Int) ++ s.data.toList)))).size ≤ 4 := by rw [str_size]; simp [Crc.bytes4]
    have HF : Hid (str (Vi.intL (s.size : Int)) ++ s ++ str (bytes4 (sum (Vi.intL (s.size : Int) ++ s.data.toList))) = str (sealL s.data.toList)) := by
      show _ = _
      rw [HL.out, str_app, str_append]
    generalize sum (Vi.intL (s.size : Int) ++ s.data.toList) = v at HM HT hz4 HF
    generalize str (bytes4 v) = B at HT hz4 HF
    generalize str (Vi.intL (s.size : Int)) = I at hI HM HN HF
    generalize str (sealL s.data.toList) = R at HF ⊢
    generalize sealE s.data.toList = E at HE ⊢
    clear hp hM hl
    go_enter Try.func41, Try.ntmps41
    go_wp2_with fail
    refine (HN.out _).mono ?_
    rintro e w1 ⟨rfl, hb1⟩
    have HB := Lib.hid hb1
    clear hb1
    go_wp2_with fail
    refine (HM.out _).mono ?_
    rintro e w2 ⟨rfl, rfl⟩
    go_wp2_with fail
    refine (HT.out _).mono ?_
    rintro e w3 ⟨rfl, hb3⟩
    have HB3 := Lib.hid (HB.out.trans (hb3.mono HB.out.size))
    clear hb3
    go_wp2
    go_ret2
    exact ⟨two_e HF.out HE.out.symm, HB3.out⟩
  · have HL : Hid (sealL s.data.toList = []) := by show _ = _; unfold sealL; rw [hl, if_neg h]
    have HE : Hid (sealE s.data.toList = 4) := by show _ = _; unfold sealE; rw [hl, if_neg h]
    clear hl
    go_enter Try.func41, Try.ntmps41
    go_wp2
    go_ret2
    exact ⟨two_e (by rw [HL.out]; rfl) HE.out.symm, Below.refl _ _⟩

set_option maxHeartbeats 4000000 in
set_option maxRecDepth 100000 in
theorem openR_any (s : ByteArray) (hs : s.size ≤ maxLen) (w : World) :
    Calls Try.prog 49 #[.string s] w (RetOpen w s.data.toList) := by
  have hsm := hs
  unfold maxLen at hs
  have hsl : s.data.toList.length = s.size := by simp
  have r1 := fun w => readIntR_any s hsm w
  unfold rd3 at r1
  obtain ⟨n, k, er, h1⟩ : ∃ n k e, Vi.rd s.data.toList = (n, k, e) := ⟨_, _, _, rfl⟩
  simp only [h1] at r1
  have R1 := Lib.hid r1
  have H1 := Lib.hid h1
  clear r1 h1
  have HB : Hid (Below w.heap.size w w) := Below.refl _ _
  go_enter Try.func49, Try.ntmps49
  go_wp2_with fail
  refine (R1.out _).mono ?_
  rintro e w1 ⟨rfl, rfl⟩
  by_cases z : er = 0
  · subst z
    by_cases g1 : n < 0
    · have HO := Lib.hid (open_b H1.out (by omega))
      go_wp2
      go_ret3
      exact retOpen_of HO.out rfl rfl rfl HB.out
    · by_cases g2 : 65536 < n
      · have HO := Lib.hid (open_b H1.out (by omega))
        go_wp2
        go_ret3
        exact retOpen_of HO.out rfl rfl rfl HB.out
      · obtain ⟨m, rfl⟩ := Int.eq_ofNat_of_zero_le (by omega : 0 ≤ n)
        have hc := Vi.rd_canon H1.out
        have hk := hc.2.2.1
        have hk9 := hc.2.2.2.2
        rw [hsl] at hk
        clear hc
        by_cases g3 : s.size < k + m + 4
        · have HO := Lib.hid (open_c H1.out (by omega) (by rw [hsl]; exact g3))
          have g4 : (s.size : Int) < k + m + 4 := by omega
          go_wp2
          go_ret3
          exact retOpen_of HO.out rfl rfl rfl HB.out
        · have g4 : ¬ (s.size : Int) < k + m + 4 := by omega
          have hT := fun w => bytesR_any (sum (s.data.toList.take (k + m))) (Crc.sum_lt _) w
          have hM := fun w => sumR_any (s.extract 0 (k + m)) (by simp [ByteArray.size_extract]; unfold maxLen; omega) w
          have hxl : (s.extract 0 (k + m)).data.toList = s.data.toList.take (k + m) := by rw [ex_list, List.drop_zero, Nat.sub_zero]
          rw [hxl] at hM
          have HM := Lib.hid hM
          clear hM
          have hx2 : s.extract (k + m) (k + m + 4) = str ((s.data.toList.drop (k + m)).take 4) := by rw [ex_str, show k + m + 4 - (k + m) = 4 by omega]
          have hv1 : IntKind.i64.wrap ((k : Int) + (m : Int)) = (k : Int) + (m : Int) := by rw [IntKind.wrap_i64]; omega
          have hv2 : IntKind.i64.wrap ((k : Int) + (m : Int) + 4) = (k : Int) + (m : Int) + 4 := by rw [IntKind.wrap_i64]; omega
          have hq1 : (0 : Int) ≤ (k : Int) + (m : Int) := by omega
          have hq2 : (k : Int) + (m : Int) ≤ (s.size : Int) := by omega
          have hq3 : (k : Int) + (m : Int) + 4 ≤ (s.size : Int) := by omega
          have hq4 : (0 : Int) ≤ (k : Int) + (m : Int) + 4 := by omega
          have hq5 : (k : Int) + (m : Int) ≤ (k : Int) + (m : Int) + 4 := by omega
          have hw1 : ((k : Int) + (m : Int)).toNat = k + m := by omega
          have hw2 : ((k : Int) + (m : Int) + 4).toNat = k + m + 4 := by omega
          have HT := Lib.hid hT
          have HX2 := Lib.hid hx2
          clear hT hxl hx2
          by_cases g5 : bytes4 (sum (s.data.toList.take (k + m))) = (s.data.toList.drop (k + m)).take 4
          · have HO := Lib.hid (open_e H1.out (by omega) (by rw [hsl]; omega) g5)
            rw [g5, ← HX2.out] at HT
            clear g5
            go_wp2
            go_region_with (first | (go_at_call 57; refine (HM.out _).mono ?_; rintro e w2 ⟨rfl, rfl⟩) | (go_at_call 56; refine (HT.out _).mono ?_; rintro e w3 ⟨rfl, hbt⟩))
            all_goals
              have HB2 := Lib.hid (HB.out.drew.trans (hbt.mono HB.out.size))
              clear hbt
              go_wp2
              go_ret3
              exact retOpen_of HO.out (by rw [ex_str, Nat.add_sub_cancel_left]) (by simp) rfl HB2.out
          · have HO := Lib.hid (open_d H1.out (by omega) (by rw [hsl]; omega) g5)
            have hbs : ((s.extract (k + m) (k + m + 4)).toList == (str (bytes4 (sum (s.data.toList.take (k + m))))).toList) = false := by
              rw [HX2.out, Lib.toList_data, Lib.toList_data, str_list, str_list, beq_eq_false_iff_ne]; exact fun h => g5 h.symm
            clear g5
            go_wp2
            go_region_with (first | (go_at_call 57; refine (HM.out _).mono ?_; rintro e w2 ⟨rfl, rfl⟩) | (go_at_call 56; refine (HT.out _).mono ?_; rintro e w3 ⟨rfl, hbt⟩))
            all_goals
              have HB2 := Lib.hid (HB.out.drew.trans (hbt.mono HB.out.size))
              clear hbt
              go_wp2
              go_ret3
              exact retOpen_of HO.out rfl rfl rfl HB2.out
  · have HO := Lib.hid (open_a H1.out z)
    have zb : (er != 0) = true := by rw [bne_iff_ne]; exact z
    clear z
    go_wp2
    go_ret3
    exact retOpen_of HO.out rfl rfl rfl HB.out

end Go.Proofs.Ytlknjdfiedkhbaa
