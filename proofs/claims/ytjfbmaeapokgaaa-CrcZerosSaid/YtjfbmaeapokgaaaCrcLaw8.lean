/- The law CrcZeros, walked. Condition: lengths below the model's greatest. -/
import Derived.Test.YtjfbmaeapokgaaaCrcAwake
import Derived.Test.YtjfbmaeapokgaaaCrcUpdP
import Derived.Test.YtjfbmaeapokgaaaCrcComb
import Derived.Test.YtjfbmaeapokgaaaShelf
namespace Go.Proofs.Ytjfbmaeapokgaaa
open Go Go.RowKit
open Crc (upd sum stepN)

theorem rep_zero : ∀ n, Lib.repeatL [(0 : UInt8)] n = List.replicate n 0
  | 0 => rfl
  | n + 1 => by rw [Lib.repeatL, rep_zero n]; rfl
theorem rep0_any (n : Nat) (hn : n ≤ 70000) (w : World) :
    Calls Try.prog 24 #[.string ⟨#[0]⟩, .int .i64 n] w fun e w' => e = .returned (.string (str (List.replicate n 0))) ∧ Below w.heap.size w w' := by
  refine (Try.strings_Repeat (str [0]) n w (by omega) (by rw [str_size]; simp; omega)).mono fun e w' ⟨h1, h2⟩ => ⟨?_, h2⟩
  rw [h1, str_list, rep_zero]; rfl
theorem mask59 (p : Int) : ∃ M : Nat, bits .and .i64 p 576460752303423487 = (M : Int) ∧ M < 576460752303423488 := by
  refine ⟨(BitVec.ofInt 64 p &&& BitVec.ofInt 64 ((576460752303423487 : Nat) : Int)).toNat, ?_, ?_⟩
  · show IntKind.i64.wrap ((BitVec.ofInt 64 p &&& BitVec.ofInt 64 ((576460752303423487 : Nat) : Int)).toNat : Int) = _
    have h : (BitVec.ofInt 64 p &&& BitVec.ofInt 64 ((576460752303423487 : Nat) : Int)).toNat ≤ 576460752303423487 := by
      rw [BitVec.toNat_and, BitVec.ofInt_natCast, BitVec.toNat_ofNat]
      exact Nat.and_le_right
    exact wrap_i64_small (by omega) (by omega)
  · have h : (BitVec.ofInt 64 p &&& BitVec.ofInt 64 ((576460752303423487 : Nat) : Int)).toNat ≤ 576460752303423487 := by
      rw [BitVec.toNat_and, BitVec.ofInt_natCast, BitVec.toNat_ofNat]
      exact Nat.and_le_right
    omega

set_option maxHeartbeats 4000000 in
set_option maxRecDepth 100000 in
/-- what the law computes, over letters -/
theorem zeros_core (a b c n : Nat) (p q : Int) (ha : a < 4294967296) (hb : b < 4294967296) (hc : c < 4294967296) (hn : n < 65536) (k M L x y z u r : Nat) (Z : ByteArray) (hk : k = n % 301) (hM : M < 576460752303423488) (hL : L < 576460752303423488)
    (pM : Hid (bits .and .i64 p 576460752303423487 = (M : Int))) (pL : Hid (bits .and .i64 q 576460752303423487 = (L : Int)))
    (hz : Hid (∀ w, Calls Try.prog 24 #[.string ⟨#[0]⟩, .int .i64 k] w fun e w' => e = .returned (.string Z) ∧ Below w.heap.size w w'))
    (h1 : Hid (∀ w, Calls Try.prog 15 #[.int .i64 a, .string Z] w fun e w' => e = .returned (.tuple #[.int .i64 (x : Int), .int .i64 0]) ∧ Below w.heap.size w w'))
    (h2 : Hid (∀ w, Calls Try.prog 12 #[.string Z] w fun e w' => e = .returned (.int .i64 (y : Int)) ∧ Below w.heap.size w w'))
    (h3 : Hid (∀ w, Calls Try.prog 17 #[.int .i64 a, .int .i64 y, .int .i64 k] w fun e w' => e = .returned (.tuple #[.int .i64 (x : Int), .int .i64 0]) ∧ Below w.heap.size w w'))
    (h4 : Hid (∀ w, Calls Try.prog 17 #[.int .i64 a, .int .i64 b, .int .i64 M] w fun e w' => e = .returned (.tuple #[.int .i64 (z : Int), .int .i64 0]) ∧ Below w.heap.size w w'))
    (h5 : Hid (∀ w, Calls Try.prog 17 #[.int .i64 z, .int .i64 c, .int .i64 L] w fun e w' => e = .returned (.tuple #[.int .i64 (r : Int), .int .i64 0]) ∧ Below w.heap.size w w'))
    (h6 : Hid (∀ w, Calls Try.prog 17 #[.int .i64 b, .int .i64 c, .int .i64 L] w fun e w' => e = .returned (.tuple #[.int .i64 (u : Int), .int .i64 0]) ∧ Below w.heap.size w w'))
    (h7 : Hid (∀ w, Calls Try.prog 17 #[.int .i64 a, .int .i64 u, .int .i64 ((M : Int) + (L : Int))] w fun e w' => e = .returned (.tuple #[.int .i64 (r : Int), .int .i64 0]) ∧ Below w.heap.size w w'))
    (w : World) : Calls Try.prog 10 #[.int .u32 a, .int .u32 b, .int .u32 c, .int .u16 n, .int .i64 p, .int .i64 q] w fun e w' => e = .returned (.bool true) ∧ Below w.heap.size w w' := by
  have HB : Hid (Below w.heap.size w w) := Below.refl _ _
  go_enter Try.func10, Try.ntmps10
  have hkk : (n : Int) % 301 = (k : Int) := by omega
  have pm := pM.out
  have pl := pL.out
  clear hk
  go_wp2_with fail
  refine (hz.out _).mono ?_
  rintro e w1 ⟨rfl, hb1⟩
  replace HB := Lib.hid (HB.out.trans (hb1.mono HB.out.size))
  clear hb1
  go_wp2_with fail
  refine (h1.out _).mono ?_
  rintro e w2 ⟨rfl, hb2⟩
  replace HB := Lib.hid (HB.out.trans (hb2.mono HB.out.size))
  clear hb2
  go_wp2_with fail
  refine (h2.out _).mono ?_
  rintro e w3 ⟨rfl, hb3⟩
  replace HB := Lib.hid (HB.out.trans (hb3.mono HB.out.size))
  clear hb3
  go_wp2_with fail
  refine (h3.out _).mono ?_
  rintro e w4 ⟨rfl, hb4⟩
  replace HB := Lib.hid (HB.out.trans (hb4.mono HB.out.size))
  clear hb4
  go_wp2_with fail
  refine (h4.out _).mono ?_
  rintro e w5 ⟨rfl, hb5⟩
  replace HB := Lib.hid (HB.out.trans (hb5.mono HB.out.size))
  clear hb5
  go_wp2_with fail
  refine (h5.out _).mono ?_
  rintro e w6 ⟨rfl, hb6⟩
  replace HB := Lib.hid (HB.out.trans (hb6.mono HB.out.size))
  clear hb6
  go_wp2_with fail
  refine (h6.out _).mono ?_
  rintro e w7 ⟨rfl, hb7⟩
  replace HB := Lib.hid (HB.out.trans (hb7.mono HB.out.size))
  clear hb7
  go_wp2_with fail
  refine (h7.out _).mono ?_
  rintro e w8 ⟨rfl, hb8⟩
  replace HB := Lib.hid (HB.out.trans (hb8.mono HB.out.size))
  clear hb8
  go_wp2_with fail
  refine (awake_any _).mono ?_
  rintro e w9 ⟨rfl, hb9⟩
  replace HB := Lib.hid (HB.out.trans (hb9.mono HB.out.size))
  clear hb9
  go_wp2
  go_ret
  exact ⟨rfl, HB.out⟩

/-- CrcZeros, at the row's own numbers. -/
theorem lawZeros (a b c n p q : Int) (ha : (Lit.int .u32 a).wf = true) (hb : (Lit.int .u32 b).wf = true) (hc : (Lit.int .u32 c).wf = true) (hn : (Lit.int .u16 n).wf = true) (w : World) :
    Calls Try.prog 10 #[.int .u32 a, .int .u32 b, .int .u32 c, .int .u16 n, .int .i64 p, .int .i64 q] w fun e w' => e = .returned (.bool true) ∧ Below w.heap.size w w' := by
  have ba := bounds_u32 ha
  have bb := bounds_u32 hb
  have bc := bounds_u32 hc
  have bn := bounds_u16 hn
  obtain ⟨a, rfl⟩ := Int.eq_ofNat_of_zero_le ba.1
  obtain ⟨b, rfl⟩ := Int.eq_ofNat_of_zero_le bb.1
  obtain ⟨c, rfl⟩ := Int.eq_ofNat_of_zero_le bc.1
  obtain ⟨n, rfl⟩ := Int.eq_ofNat_of_zero_le bn.1
  have ha : a < 4294967296 := by omega
  have hb : b < 4294967296 := by omega
  have hc : c < 4294967296 := by omega
  obtain ⟨M, pM, hM⟩ := mask59 p
  obtain ⟨L, pL, hL⟩ := mask59 q
  have hz := fun w => rep0_any (n % 301) (by omega) w
  have hsz : (str (List.replicate (n % 301) 0)).size ≤ maxLen := by rw [str_size, List.length_replicate]; unfold maxLen; omega
  have h1 := fun w => updateP_good a ha (str (List.replicate (n % 301) 0)) hsz w
  have h2 := fun w => sum_any (str (List.replicate (n % 301) 0)) hsz w
  have h3 := fun w => combine_good a (sum (List.replicate (n % 301) 0)) (n % 301) ha (Crc.sum_lt _) (by omega) w
  rw [Crc.combine_zeros] at h3
  rw [str_list] at h1 h2
  have h4 := fun w => combine_good a b M ha hb (by omega) w
  have hab := Crc.combine_lt a b M ha hb
  have h5 := fun w => combine_good (Crc.combine a b M) c L hab hc (by omega) w
  have h6 := fun w => combine_good b c L hb hc (by omega) w
  have hbc := Crc.combine_lt b c L hb hc
  have h7 := fun w => combine_good a (Crc.combine b c L) (M + L) ha hbc (by omega) w
  rw [← Crc.combine_assoc] at h7
  exact zeros_core a b c n p q ha hb hc (by omega) (n % 301) M L _ _ _ _ _ _ rfl hM hL (Lib.hid pM) (Lib.hid pL) (Lib.hid hz) (Lib.hid h1) (Lib.hid h2) (Lib.hid h3) (Lib.hid h4) (Lib.hid h5) (Lib.hid h6) (Lib.hid (by simpa using h7)) w
end Go.Proofs.Ytjfbmaeapokgaaa
