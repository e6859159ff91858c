/- The law CrcConcatenation, walked. Condition: lengths below the model's greatest. -/
import Derived.Test.YtjfbmaeapokgaaaCrcAwake
import Derived.Test.YtjfbmaeapokgaaaCrcUpdP
import Derived.Test.YtjfbmaeapokgaaaCrcComb
namespace Go.Proofs.Ytjfbmaeapokgaaa
open Go Go.RowKit
open Crc (upd sum stepN)

set_option maxHeartbeats 4000000 in
set_option maxRecDepth 100000 in
theorem lawConcat (s t : ByteArray) (hs : s.size ≤ maxLen) (ht : t.size ≤ maxLen) (w : World) :
    Calls Try.prog 6 #[.string s, .string t] w fun e w' => e = .returned (.bool true) ∧ Below w.heap.size w w' := by
  have hsm := hs
  have htm := ht
  unfold maxLen at hs ht
  have HB : Hid (Below w.heap.size w w) := Below.refl _ _
  go_enter Try.func6, Try.ntmps6
  by_cases g : 300 < s.size
  ·
    go_wp2_with fail
    refine (awake_any _).mono ?_
    rintro e w1 ⟨rfl, hb1⟩
    replace HB := Lib.hid (HB.out.trans (hb1.mono HB.out.size))
    clear hb1
    go_wp2
    go_ret
    exact ⟨rfl, HB.out⟩
  by_cases g : 300 < t.size
  ·
    go_wp2_with fail
    refine (awake_any _).mono ?_
    rintro e w1 ⟨rfl, hb1⟩
    replace HB := Lib.hid (HB.out.trans (hb1.mono HB.out.size))
    clear hb1
    go_wp2
    go_ret
    exact ⟨rfl, HB.out⟩
  have htl : t.data.toList.length = t.size := by simp
  have SA := sum_any (s ++ t) (by rw [ByteArray.size_append]; unfold maxLen; omega)
  rw [show (s ++ t).data.toList = s.data.toList ++ t.data.toList by simp [ByteArray.data_append]] at SA
  have U := updateP_good (sum s.data.toList) (Crc.sum_lt _) t htm
  rw [Crc.sum_append] at U
  have C := combine_good (sum s.data.toList) (sum t.data.toList) t.size (Crc.sum_lt _) (Crc.sum_lt _) (by omega)
  have ca := Crc.combine_append s.data.toList t.data.toList
  rw [htl] at ca
  rw [ca] at C
  have HZ : Hid (∃ l, sum (s.data.toList ++ t.data.toList) = sum l) := ⟨_, rfl⟩
  have S1 := Lib.hid (sum_any s hsm)
  have S2 := Lib.hid (sum_any t htm)
  clear ca htl
  generalize sum (s.data.toList ++ t.data.toList) = z at SA U C HZ
  generalize sum s.data.toList = x at S1 U C
  generalize sum t.data.toList = y at S2 C
  have HSA := Lib.hid SA
  have HU := Lib.hid U
  have HC := Lib.hid C
  clear SA U C
  go_wp2_with fail
  refine (HSA.out _).mono ?_
  rintro e w1 ⟨rfl, hb1⟩
  replace HB := Lib.hid (HB.out.trans (hb1.mono HB.out.size))
  clear hb1
  go_wp2_with fail
  refine (S1.out _).mono ?_
  rintro e w2 ⟨rfl, hb2⟩
  replace HB := Lib.hid (HB.out.trans (hb2.mono HB.out.size))
  clear hb2
  go_wp2_with fail
  refine (HU.out _).mono ?_
  rintro e w3 ⟨rfl, hb3⟩
  replace HB := Lib.hid (HB.out.trans (hb3.mono HB.out.size))
  clear hb3
  go_wp2_with fail
  refine (S1.out _).mono ?_
  rintro e w4 ⟨rfl, hb4⟩
  replace HB := Lib.hid (HB.out.trans (hb4.mono HB.out.size))
  clear hb4
  go_wp2_with fail
  refine (S2.out _).mono ?_
  rintro e w5 ⟨rfl, hb5⟩
  replace HB := Lib.hid (HB.out.trans (hb5.mono HB.out.size))
  clear hb5
  go_wp2_with fail
  refine (HC.out _).mono ?_
  rintro e w6 ⟨rfl, hb6⟩
  replace HB := Lib.hid (HB.out.trans (hb6.mono HB.out.size))
  clear hb6
  have d1 : decide ((z : Int) < 4294967296) = true := by
    obtain ⟨l, e⟩ := HZ.out
    have := Crc.sum_lt l
    rw [decide_eq_true_eq]
    omega
  go_wp2_with fail
  refine (awake_any _).mono ?_
  rintro e w7 ⟨rfl, hb7⟩
  replace HB := Lib.hid (HB.out.trans (hb7.mono HB.out.size))
  clear hb7
  go_wp2
  go_ret
  exact ⟨rfl, HB.out⟩
end Go.Proofs.Ytjfbmaeapokgaaa
