/- Open, walked. Condition: a length below the model's greatest. -/
import Derived.Test.YtlknjdfiedkhbaaCrcAwake
import Derived.Test.YtlknjdfiedkhbaaViReadP
namespace Go.Proofs.Ytlknjdfiedkhbaa
open Go Go.RowKit
open Crc (upd sum bytes4)

theorem ex_list (s : ByteArray) (a b : Nat) : (s.extract a b).data.toList = (s.data.toList.drop a).take (b - a) := by
  simp [Array.toList_extract]
theorem ex_str (s : ByteArray) (a b : Nat) : s.extract a b = str ((s.data.toList.drop a).take (b - a)) := by
  rw [← ex_list, str_self]
/-- what Open hands back -/
def openR (l : List UInt8) : List UInt8 × Nat × Int :=
  if (Vi.rd l).2.2 = 0 then
    (if 0 ≤ (Vi.rd l).1 ∧ (Vi.rd l).1 ≤ 65536 then
      (if l.length < (Vi.rd l).2.1 + (Vi.rd l).1.toNat + 4 then ([], 0, 12)
       else if bytes4 (sum (l.take ((Vi.rd l).2.1 + (Vi.rd l).1.toNat))) = (l.drop ((Vi.rd l).2.1 + (Vi.rd l).1.toNat)).take 4 then ((l.drop (Vi.rd l).2.1).take (Vi.rd l).1.toNat, (Vi.rd l).2.1 + (Vi.rd l).1.toNat + 4, 0)
       else ([], 0, 13))
     else ([], 0, 2))
  else ([], 0, (Vi.rd l).2.2)
theorem open_a {l : List UInt8} {n : Int} {k : Nat} {e : Int} (h : Vi.rd l = (n, k, e)) (he : e ≠ 0) : openR l = ([], 0, e) := by unfold openR; rw [h]; simp [he]
theorem open_b {l : List UInt8} {n : Int} {k : Nat} (h : Vi.rd l = (n, k, 0)) (hn : ¬ (0 ≤ n ∧ n ≤ 65536)) : openR l = ([], 0, 2) := by unfold openR; rw [h]; simp only [if_true]; rw [if_neg hn]
theorem open_c {l : List UInt8} {m k : Nat} (h : Vi.rd l = ((m : Int), k, 0)) (hm : m ≤ 65536) (hl : l.length < k + m + 4) : openR l = ([], 0, 12) := by
  unfold openR; rw [h]; simp only [if_true, Int.toNat_natCast]; rw [if_pos ⟨by omega, by omega⟩, if_pos hl]
theorem open_d {l : List UInt8} {m k : Nat} (h : Vi.rd l = ((m : Int), k, 0)) (hm : m ≤ 65536) (hl : ¬ l.length < k + m + 4) (hb : ¬ bytes4 (sum (l.take (k + m))) = (l.drop (k + m)).take 4) : openR l = ([], 0, 13) := by
  unfold openR; rw [h]; simp only [if_true, Int.toNat_natCast]; rw [if_pos ⟨by omega, by omega⟩, if_neg hl, if_neg hb]
theorem open_e {l : List UInt8} {m k : Nat} (h : Vi.rd l = ((m : Int), k, 0)) (hm : m ≤ 65536) (hl : ¬ l.length < k + m + 4) (hb : bytes4 (sum (l.take (k + m))) = (l.drop (k + m)).take 4) : openR l = ((l.drop k).take m, k + m + 4, 0) := by
  unfold openR; rw [h]; simp only [if_true, Int.toNat_natCast]; rw [if_pos ⟨by omega, by omega⟩, if_neg hl, if_pos hb]
def RetOpen (w : World) (l : List UInt8) (e : Ending) (w' : World) : Prop := e = .returned (.tuple #[.string (str (openR l).1), .int .i64 ((openR l).2.1 : Int), .int .i64 (openR l).2.2]) ∧ Below w.heap.size w w'
theorem retOpen_of {w w' : World} {l x : List UInt8} {k : Nat} {er : Int} (h : openR l = (x, k, er)) {a : ByteArray} {b c : Int} (ha : a = str x) (hb : b = (k : Int)) (hc : c = er) (hB : Below w.heap.size w w') :
    RetOpen w l (.returned (.tuple #[.string a, .int .i64 b, .int .i64 c])) w' := by
  unfold RetOpen
  rw [h, ha, hb, hc]
  exact ⟨rfl, hB⟩

set_option maxHeartbeats 4000000 in
set_option maxRecDepth 100000 in
theorem open_any (s : ByteArray) (hs : s.size ≤ maxLen) (w : World) :
    Calls Try.prog 59 #[.string s] w (RetOpen w s.data.toList) := by
  have hsm := hs
  unfold maxLen at hs
  have hsl : s.data.toList.length = s.size := by simp
  have r1 := fun w => readInt_any s hsm w
  unfold rd3 at r1
  obtain ⟨n, k, er, h1⟩ : ∃ n k e, Vi.rd s.data.toList = (n, k, e) := ⟨_, _, _, rfl⟩
  simp only [h1] at r1
  have R1 := Lib.hid r1
  have H1 := Lib.hid h1
  clear r1 h1
  have HB : Hid (Below w.heap.size w w) := Below.refl _ _
  go_enter Try.func59, Try.ntmps59
  go_wp2_with fail
  refine (R1.out _).mono ?_
  rintro e w1 ⟨rfl, hb1⟩
  replace HB := Lib.hid (HB.out.trans (hb1.mono HB.out.size))
  clear hb1
  by_cases z : er = 0
  · subst z
    by_cases g1 : n < 0
    · have HO := Lib.hid (open_b H1.out (by omega))
      go_wp2
      go_ret3
      exact retOpen_of HO.out rfl rfl rfl HB.out
    · by_cases g2 : 65536 < n
      · have HO := Lib.hid (open_b H1.out (by omega))
        go_wp2
        go_ret3
        exact retOpen_of HO.out rfl rfl rfl HB.out
      · obtain ⟨m, rfl⟩ := Int.eq_ofNat_of_zero_le (by omega : 0 ≤ n)
        have hc := Vi.rd_canon H1.out
        have hk := hc.2.2.1
        have hk9 := hc.2.2.2.2
        rw [hsl] at hk
        clear hc
        by_cases g3 : s.size < k + m + 4
        · have HO := Lib.hid (open_c H1.out (by omega) (by rw [hsl]; exact g3))
          have g4 : (s.size : Int) < k + m + 4 := by omega
          go_wp2
          go_ret3
          exact retOpen_of HO.out rfl rfl rfl HB.out
        · have g4 : ¬ (s.size : Int) < k + m + 4 := by omega
          have hT := fun w => tail_any (s.extract 0 (k + m)) (by simp [ByteArray.size_extract]; unfold maxLen; omega) w
          have hxl : (s.extract 0 (k + m)).data.toList = s.data.toList.take (k + m) := by rw [ex_list, List.drop_zero, Nat.sub_zero]
          rw [hxl] at hT
          have hx2 : s.extract (k + m) (k + m + 4) = str ((s.data.toList.drop (k + m)).take 4) := by rw [ex_str, show k + m + 4 - (k + m) = 4 by omega]
          have hv1 : IntKind.i64.wrap ((k : Int) + (m : Int)) = (k : Int) + (m : Int) := by rw [IntKind.wrap_i64]; omega
          have hv2 : IntKind.i64.wrap ((k : Int) + (m : Int) + 4) = (k : Int) + (m : Int) + 4 := by rw [IntKind.wrap_i64]; omega
          have hq1 : (0 : Int) ≤ (k : Int) + (m : Int) := by omega
          have hq2 : (k : Int) + (m : Int) ≤ (s.size : Int) := by omega
          have hq3 : (k : Int) + (m : Int) + 4 ≤ (s.size : Int) := by omega
          have hq4 : (0 : Int) ≤ (k : Int) + (m : Int) + 4 := by omega
          have hq5 : (k : Int) + (m : Int) ≤ (k : Int) + (m : Int) + 4 := by omega
          have hw1 : ((k : Int) + (m : Int)).toNat = k + m := by omega
          have hw2 : ((k : Int) + (m : Int) + 4).toNat = k + m + 4 := by omega
          have HT := Lib.hid hT
          have HX2 := Lib.hid hx2
          clear hT hxl hx2
          by_cases g5 : bytes4 (sum (s.data.toList.take (k + m))) = (s.data.toList.drop (k + m)).take 4
          · have HO := Lib.hid (open_e H1.out (by omega) (by rw [hsl]; omega) g5)
            rw [g5, ← HX2.out] at HT
            clear g5
            go_wp2
            go_region_with (go_at_call 54; refine (HT.out _).mono ?_; rintro e w2 ⟨rfl, hbt⟩)
            all_goals
              have HB2 := Lib.hid (HB.out.drew.trans (hbt.mono HB.out.size))
              clear hbt
              go_wp2
              go_ret3
              exact retOpen_of HO.out (by rw [ex_str, Nat.add_sub_cancel_left]) (by simp) rfl HB2.out
          · have HO := Lib.hid (open_d H1.out (by omega) (by rw [hsl]; omega) g5)
            have hbs : ((str (bytes4 (sum (s.data.toList.take (k + m))))).toList == (s.extract (k + m) (k + m + 4)).toList) = false := by
              rw [HX2.out, Lib.toList_data, Lib.toList_data, str_list, str_list, beq_eq_false_iff_ne]; exact g5
            clear g5
            go_wp2
            go_region_with (go_at_call 54; refine (HT.out _).mono ?_; rintro e w2 ⟨rfl, hbt⟩)
            all_goals
              have HB2 := Lib.hid (HB.out.drew.trans (hbt.mono HB.out.size))
              clear hbt
              go_wp2
              go_ret3
              exact retOpen_of HO.out rfl rfl rfl HB2.out
  · have HO := Lib.hid (open_a H1.out z)
    have zb : (er != 0) = true := by rw [bne_iff_ne]; exact z
    clear z
    go_wp2
    go_ret3
    exact retOpen_of HO.out rfl rfl rfl HB.out
end Go.Proofs.Ytlknjdfiedkhbaa
