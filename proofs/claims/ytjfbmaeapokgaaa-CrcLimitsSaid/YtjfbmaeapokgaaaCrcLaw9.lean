/- The law CrcLimits, walked. No condition. -/
import Derived.Test.YtjfbmaeapokgaaaCrcLaw3
import Derived.Test.YtjfbmaeapokgaaaShelf
namespace Go.Proofs.Ytjfbmaeapokgaaa
open Go Go.RowKit
open Crc (sum)

theorem repeat_one (x : UInt8) : ∀ n, Lib.repeatL [x] n = List.replicate n x
  | 0 => rfl
  | n + 1 => by rw [Lib.repeatL, repeat_one x n]; rfl
theorem rep_any (x : UInt8) (n : Nat) (hn : n ≤ 70000) (w : World) :
    Calls Try.prog 24 #[.string (str [x]), .int .i64 n] w fun e w' => e = .returned (.string (str (List.replicate n x))) ∧ Below w.heap.size w w' := by
  refine (Try.strings_Repeat (str [x]) n w (by omega) (by rw [str_size]; simp; omega)).mono fun e w' ⟨h1, h2⟩ => ⟨?_, h2⟩
  rw [h1, str_list, repeat_one]; rfl

set_option maxHeartbeats 1000000 in
set_option maxRecDepth 100000 in
theorem limits_more (x : UInt8) (O Z : ByteArray) (HO : Hid (str [x] = O))
    (hz : Hid (∀ w, Calls Try.prog 24 #[.string O, .int .i64 65537] w fun e w' => e = .returned (.string Z) ∧ Below w.heap.size w w'))
    (h1 : Hid (∀ w, Calls Try.prog 20 #[.string Z] w fun e w' => e = .returned (.tuple #[.string ⟨#[]⟩, .int .i64 4]) ∧ Below w.heap.size w w'))
    (w : World) : Calls Try.prog 11 #[.int .u8 (x.toNat : Int), .bool true] w fun e w' => e = .returned (.bool true) ∧ Below w.heap.size w w' := by
  have hcv := conv_row w [x] 1 rfl
  rw [HO.out] at hcv
  have hxx : ([x].map byteV).toArray = #[.int .u8 (x.toNat : Int)] := rfl
  rw [hxx] at hcv
  clear hxx
  have HB : Hid (Below w.heap.size w (w.alloc (.cells #[.int .u8 (x.toNat : Int)] 5))) := (Below.refl _ _).alloc (Nat.le_refl _) _
  go_enter Try.func11, Try.ntmps11
  go_wp2_with fail
  refine (hz.out _).mono ?_
  rintro e w1 ⟨rfl, hb1⟩
  replace HB := Lib.hid (HB.out.trans (hb1.mono HB.out.size))
  clear hb1
  go_wp2_with fail
  refine (h1.out _).mono ?_
  rintro e w2 ⟨rfl, hb1⟩
  replace HB := Lib.hid (HB.out.trans (hb1.mono HB.out.size))
  clear hb1
  go_wp2_with fail
  refine (awake_any _).mono ?_
  rintro e w3 ⟨rfl, hb1⟩
  replace HB := Lib.hid (HB.out.trans (hb1.mono HB.out.size))
  clear hb1
  go_wp2
  go_ret
  exact ⟨rfl, HB.out⟩

set_option maxHeartbeats 1000000 in
set_option maxRecDepth 100000 in
theorem limits_less (x : UInt8) (O Z F : ByteArray) (HO : Hid (str [x] = O))
    (hz : Hid (∀ w, Calls Try.prog 24 #[.string O, .int .i64 65536] w fun e w' => e = .returned (.string Z) ∧ Below w.heap.size w w'))
    (h1 : Hid (∀ w, Calls Try.prog 20 #[.string Z] w fun e w' => e = .returned (.tuple #[.string F, .int .i64 0]) ∧ Below w.heap.size w w'))
    (h2 : Hid (∀ w, Calls Try.prog 22 #[.string F] w fun e w' => e = .returned (.tuple #[.string Z, .int .i64 (F.size : Int), .int .i64 0]) ∧ Below w.heap.size w w'))
    (w : World) : Calls Try.prog 11 #[.int .u8 (x.toNat : Int), .bool false] w fun e w' => e = .returned (.bool true) ∧ Below w.heap.size w w' := by
  have hcv := conv_row w [x] 1 rfl
  rw [HO.out] at hcv
  have hxx : ([x].map byteV).toArray = #[.int .u8 (x.toNat : Int)] := rfl
  rw [hxx] at hcv
  clear hxx
  have HB : Hid (Below w.heap.size w (w.alloc (.cells #[.int .u8 (x.toNat : Int)] 5))) := (Below.refl _ _).alloc (Nat.le_refl _) _
  go_enter Try.func11, Try.ntmps11
  go_wp2_with fail
  refine (hz.out _).mono ?_
  rintro e w1 ⟨rfl, hb1⟩
  replace HB := Lib.hid (HB.out.trans (hb1.mono HB.out.size))
  clear hb1
  go_wp2_with fail
  refine (h1.out _).mono ?_
  rintro e w2 ⟨rfl, hb1⟩
  replace HB := Lib.hid (HB.out.trans (hb1.mono HB.out.size))
  clear hb1
  go_wp2_with fail
  refine (h2.out _).mono ?_
  rintro e w3 ⟨rfl, hb1⟩
  replace HB := Lib.hid (HB.out.trans (hb1.mono HB.out.size))
  clear hb1
  go_wp2_with fail
  refine (awake_any _).mono ?_
  rintro e w4 ⟨rfl, hb1⟩
  replace HB := Lib.hid (HB.out.trans (hb1.mono HB.out.size))
  clear hb1
  go_wp2
  go_ret
  exact ⟨rfl, HB.out⟩

theorem lawLimits (c : Int) (more : Bool) (hc : (Lit.int .u8 c).wf = true) (w : World) :
    Calls Try.prog 11 #[.int .u8 c, .bool more] w fun e w' => e = .returned (.bool true) ∧ Below w.heap.size w w' := by
  have bc := bounds_u8 hc
  obtain ⟨c, rfl⟩ := Int.eq_ofNat_of_zero_le bc.1
  obtain ⟨x, rfl⟩ : ∃ x : UInt8, c = x.toNat := ⟨UInt8.ofNat c, by rw [UInt8.toNat_ofNat']; omega⟩
  cases more
  · have hl : (List.replicate 65536 x).length = 65536 := List.length_replicate
    have hz := fun w => rep_any x 65536 (by omega) w
    generalize List.replicate 65536 x = l at hl hz
    have h1 := fun w => seal_ok (str l) (by rw [str_size]; omega) w
    rw [str_list] at h1
    have hsl := seal_len (S := l) (by omega)
    have h2 := fun w => open_any (str (sealL l)) (by rw [str_size]; unfold maxLen; omega) w
    have ho := open_seal l [] (by omega)
    rw [List.append_nil] at ho
    unfold RetOpen at h2
    rw [str_list, ho, ← str_size] at h2
    exact limits_less x _ (str l) (str (sealL l)) (Lib.hid rfl) (Lib.hid hz) (Lib.hid h1) (Lib.hid h2) w
  · have hl : (List.replicate 65537 x).length = 65537 := List.length_replicate
    have hz := fun w => rep_any x 65537 (by omega) w
    generalize List.replicate 65537 x = l at hl hz
    have h1 := fun w => seal_any (str l) (by rw [str_size]; unfold maxLen; omega) w
    have e1 : sealL l = [] := by unfold sealL; rw [if_neg (by omega)]
    have e2 : sealE l = 4 := by unfold sealE; rw [if_neg (by omega)]
    rw [str_list, e1, e2] at h1
    exact limits_more x _ (str l) (Lib.hid rfl) (Lib.hid hz) (Lib.hid h1) w
end Go.Proofs.Ytjfbmaeapokgaaa
