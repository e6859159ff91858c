/- The examples of the chapter, walked: the call answers true. No condition. -/
import Derived.Test.YtjfbmaeapokgaaaCrcSum
namespace Go.Proofs.Ytjfbmaeapokgaaa
open Go Go.RowKit
open Crc (upd sum)

theorem aw_e : sum [] = 0 := by decide
theorem aw_abc : sum [97, 98, 99] = 910901175 := by decide +kernel
theorem aw_9 : sum [49, 50, 51, 52, 53, 54, 55, 56, 57] = 3808858755 := by decide +kernel
theorem aw_seal : sealE [97, 98, 99] = 0 := by decide
theorem aw_len : (str (sealL [97, 98, 99])).size = 8 := by
  rw [str_size]
  decide +kernel

set_option maxHeartbeats 1000000 in
theorem awake_any (w : World) :
    Calls Try.prog 13 #[] w fun e w' => e = .returned (.bool true) ∧ Below w.heap.size w w' := by
  have H1 := Lib.hid (seal_any ⟨#[97, 98, 99]⟩ (by decide))
  have H2 := Lib.hid (sum_any ⟨#[]⟩ (by decide))
  have H3 := Lib.hid (sum_any ⟨#[97, 98, 99]⟩ (by decide))
  have H4 := Lib.hid (sum_any ⟨#[49, 50, 51, 52, 53, 54, 55, 56, 57]⟩ (by decide))
  simp only [aw_e, aw_abc, aw_9, aw_seal] at H1 H2 H3 H4
  have hz := aw_len
  generalize sealL [97, 98, 99] = f at H1 hz
  go_enter Try.func13, Try.ntmps13
  go_wp2_with fail
  refine (H1.out _).mono ?_
  rintro e w1 ⟨rfl, hb1⟩
  have HB := Lib.hid hb1
  clear hb1
  go_wp2_with fail
  refine (H2.out _).mono ?_
  rintro e w2 ⟨rfl, hb2⟩
  replace HB := Lib.hid (HB.out.trans (hb2.mono HB.out.size))
  clear hb2
  go_wp2_with fail
  refine (H3.out _).mono ?_
  rintro e w3 ⟨rfl, hb3⟩
  replace HB := Lib.hid (HB.out.trans (hb3.mono HB.out.size))
  clear hb3
  go_wp2_with fail
  refine (H4.out _).mono ?_
  rintro e w4 ⟨rfl, hb4⟩
  replace HB := Lib.hid (HB.out.trans (hb4.mono HB.out.size))
  clear hb4
  go_wp2
  go_ret
  exact ⟨rfl, HB.out⟩
end Go.Proofs.Ytjfbmaeapokgaaa
