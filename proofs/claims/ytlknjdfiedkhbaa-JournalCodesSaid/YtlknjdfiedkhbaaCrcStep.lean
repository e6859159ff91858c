/- The eight steps of the remainder, walked. Condition: a number of 32 bits. -/
import Derived.Test.YtlknjdfiedkhbaaBytes
import Derived.Test.YtlknjdfiedkhbaaCrcSpec
namespace Go.Proofs.Ytlknjdfiedkhbaa
open Go Go.RowKit
open Crc (stepN step1)

theorem xor32 (a b : Nat) (ha : a < 4294967296) (hb : b < 4294967296) : bits .xor .u32 (a : Int) (b : Int) = ((a ^^^ b : Nat) : Int) := by
  have h : a ^^^ b < 4294967296 := Crc.xor_lt a b ha hb
  show IntKind.u32.wrap ((BitVec.ofInt 32 (a : Int) ^^^ BitVec.ofInt 32 (b : Int)).toNat : Int) = _
  rw [BitVec.toNat_xor, BitVec.ofInt_natCast, BitVec.ofInt_natCast, BitVec.toNat_ofNat, BitVec.toNat_ofNat, Nat.mod_eq_of_lt (show a < 2 ^ 32 from ha), Nat.mod_eq_of_lt (show b < 2 ^ 32 from hb)]
  rw [IntKind.wrap_u32']
  omega
theorem xor8 (a b : Nat) (ha : a < 256) (hb : b < 256) : bits .xor .u8 (a : Int) (b : Int) = ((a ^^^ b : Nat) : Int) := by
  have h : a ^^^ b < 256 := Nat.xor_lt_two_pow (n := 8) ha hb
  show IntKind.u8.wrap ((BitVec.ofInt 8 (a : Int) ^^^ BitVec.ofInt 8 (b : Int)).toNat : Int) = _
  rw [BitVec.toNat_xor, BitVec.ofInt_natCast, BitVec.ofInt_natCast, BitVec.toNat_ofNat, BitVec.toNat_ofNat, Nat.mod_eq_of_lt (show a < 2 ^ 8 from ha), Nat.mod_eq_of_lt (show b < 2 ^ 8 from hb)]
  rw [IntKind.wrap_u8']
  omega
theorem wrap_i64_small {n : Int} (h0 : 0 ≤ n) (h1 : n < 9223372036854775808) : IntKind.i64.wrap n = n := by rw [IntKind.wrap_i64]; omega
theorem xor64 (a b : Nat) (ha : a < 4294967296) (hb : b < 4294967296) : bits .xor .i64 (a : Int) (b : Int) = ((a ^^^ b : Nat) : Int) := by
  have h : a ^^^ b < 4294967296 := Crc.xor_lt a b ha hb
  show IntKind.i64.wrap ((BitVec.ofInt 64 (a : Int) ^^^ BitVec.ofInt 64 (b : Int)).toNat : Int) = _
  rw [BitVec.toNat_xor, BitVec.ofInt_natCast, BitVec.ofInt_natCast, BitVec.toNat_ofNat, BitVec.toNat_ofNat, Nat.mod_eq_of_lt (show a < 2 ^ 64 by omega), Nat.mod_eq_of_lt (show b < 2 ^ 64 by omega)]
  rw [wrap_i64_small] <;> omega
theorem xor_poly (a : Nat) (ha : a < 4294967296) : bits .xor .u32 (a : Int) 2197175160 = ((a ^^^ Crc.poly : Nat) : Int) := xor32 a 2197175160 ha (by decide)

set_option maxRecDepth 100000 in
theorem step_any (r : Nat) (hr : r < 4294967296) (w : World) :
    Calls Try.prog 84 #[.int .u32 (r : Int)] w fun e w' => e = .returned (.int .u32 ((stepN 8 r : Nat) : Int)) ∧ w = w' := by
  go_enter Try.func84, Try.ntmps84
  go_wp2
  go_loop [0, 3] (fun x i => ∃ k c : Nat, k ≤ 8 ∧ i = .int .i64 k ∧ x = .int .u32 (c : Int) ∧ c < 4294967296 ∧ stepN (8 - k) c = stepN 8 r) (fun _ i => 8 - (intOf i).toNat)
  case atStart => exact ⟨0, r, by omega, rfl, rfl, hr, rfl⟩
  case round =>
    obtain ⟨k, c, hk, rfl, rfl, hc, hj⟩ := hrel
    have HJ := Lib.hid hj
    clear hj
    by_cases hlt : k < 8
    · have HS : Hid (stepN (8 - (k + 1)) (step1 c) = stepN 8 r) := by
        have h := HJ.out
        rw [show 8 - k = 8 - (k + 1) + 1 by omega] at h
        exact h
      have hs1 := Crc.step1_lt c hc
      by_cases ho : c % 2 = 1
      · have he : step1 c = c / 2 ^^^ Crc.poly := by unfold Crc.step1; rw [if_pos ho]
        have hxp : bits .xor .u32 ((c : Int) / 2) 2197175160 = ((step1 c : Nat) : Int) := by rw [he, show (c : Int) / 2 = ((c / 2 : Nat) : Int) by omega]; exact xor_poly (c / 2) (by omega)
        clear he
        generalize step1 c = d at HS hs1 hxp
        go_wp2
        go_round
        case rel => exact ⟨k + 1, d, by omega, by go_num, rfl, hs1, HS.out⟩
        case measure => simp [intOf]; omega
      · have he : step1 c = c / 2 := by unfold Crc.step1; rw [if_neg ho]
        have hev : (step1 c : Int) = (c : Int) / 2 := by rw [he]; omega
        have HE := Lib.hid hev
        clear he hev
        go_wp2
        go_round
        case rel => exact ⟨k + 1, step1 c, by omega, by go_num, by rw [HE.out], hs1, HS.out⟩
        case measure => simp [intOf]; omega
    · go_wp2
      go_ret
      have e : stepN (8 - k) c = stepN 8 r := HJ.out
      rw [show 8 - k = 0 by omega] at e
      exact ⟨ret_i (by rw [← e]; rfl), rfl⟩
end Go.Proofs.Ytlknjdfiedkhbaa
