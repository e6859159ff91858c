/- The law CrcSums, walked. Condition: lengths below the model's greatest. -/
import Derived.Test.YtjfbmaeapokgaaaCrcAwake
import Derived.Test.YtjfbmaeapokgaaaCrcUpdP
import Derived.Test.YtjfbmaeapokgaaaCrcCombR
namespace Go.Proofs.Ytjfbmaeapokgaaa
open Go Go.RowKit
open Crc (upd sum stepN)

set_option maxHeartbeats 4000000 in
set_option maxRecDepth 100000 in
theorem lawSums (s : ByteArray) (a b n : Int) (hs : s.size ≤ maxLen) (w : World) :
    Calls Try.prog 5 #[.string s, .int .i64 a, .int .i64 b, .int .i64 n] w fun e w' => e = .returned (.bool true) ∧ Below w.heap.size w w' := by
  have hsm := hs
  unfold maxLen at hs
  have U1 := Lib.hid (updateP_any a s hsm)
  have U2 := Lib.hid (updateR_all a s hsm)
  have C1 := Lib.hid (combine_any a b n)
  have C2 := Lib.hid (combineR_any a b n)
  have S1 := Lib.hid (sum_any s hsm)
  have S2 := Lib.hid (sumR_any s hsm)
  generalize updV a s.data.toList = x at U1 U2
  generalize updE a = e0 at U1 U2
  generalize combV a b n = y at C1 C2
  generalize combE a b n = f0 at C1 C2
  generalize sum s.data.toList = z at S1 S2
  have HB : Hid (Below w.heap.size w w) := Below.refl _ _
  go_enter Try.func5, Try.ntmps5
  by_cases g : 300 < s.size
  ·
    go_wp2_with fail
    refine (awake_any _).mono ?_
    rintro e w1 ⟨rfl, hb1⟩
    replace HB := Lib.hid (HB.out.trans (hb1.mono HB.out.size))
    clear hb1
    go_wp2
    go_ret
    exact ⟨rfl, HB.out⟩
  go_wp2_with fail
  refine (U1.out _).mono ?_
  rintro e w1 ⟨rfl, hb1⟩
  replace HB := Lib.hid (HB.out.trans (hb1.mono HB.out.size))
  clear hb1
  go_wp2_with fail
  refine (U2.out _).mono ?_
  rintro e w2 ⟨rfl, rfl⟩
  go_wp2_with fail
  refine (C1.out _).mono ?_
  rintro e w3 ⟨rfl, hb3⟩
  replace HB := Lib.hid (HB.out.trans (hb3.mono HB.out.size))
  clear hb3
  go_wp2_with fail
  refine (C2.out _).mono ?_
  rintro e w4 ⟨rfl, hb4⟩
  replace HB := Lib.hid (HB.out.trans (hb4.mono HB.out.size))
  clear hb4
  go_wp2_with fail
  refine (S1.out _).mono ?_
  rintro e w5 ⟨rfl, hb5⟩
  replace HB := Lib.hid (HB.out.trans (hb5.mono HB.out.size))
  clear hb5
  go_wp2_with fail
  refine (S2.out _).mono ?_
  rintro e w6 ⟨rfl, rfl⟩
  go_wp2_with fail
  refine (awake_any _).mono ?_
  rintro e w7 ⟨rfl, hb7⟩
  replace HB := Lib.hid (HB.out.trans (hb7.mono HB.out.size))
  clear hb7
  go_wp2
  go_ret
  exact ⟨rfl, HB.out⟩
end Go.Proofs.Ytjfbmaeapokgaaa
