/- The rotations and the rounds of the reference, walked. No condition. -/
import Derived.Test.YtdjpidniakedpaaKhSpec
import Derived.Test.YtdjpidniakedpaaBase
import Derived.Test.YtdjpidniakedpaaRows
namespace Go.Proofs.Ytdjpidniakedpaa
open Go Go.RowKit

theorem and63 (n : Nat) (h : n ≤ 63) : bits .and .u64 (n : Int) 63 = (n : Int) := by
  rw [show (63 : Int) = ((63 : Nat) : Int) from rfl, u64_and_nat n 63 (by omega) (by omega)]
  have e : n &&& 63 = n := by
    rw [show (63 : Nat) = 2 ^ 6 - 1 from rfl, Nat.and_two_pow_sub_one_eq_mod]
    exact Nat.mod_eq_of_lt (by omega)
  rw [e]

theorem shl_spell (x n : Nat) : IntKind.u64.wrap ((x : Int) * 2 ^ n) = ((Kh.shlm x n : Nat) : Int) := by
  rw [IntKind.wrap_u64]
  unfold Kh.shlm Kh.M
  rw [Int.natCast_emod, Int.natCast_mul, Int.natCast_pow]; rfl

theorem shr_spell (x n : Nat) : (x : Int) / 2 ^ n = ((x / 2 ^ n : Nat) : Int) := by
  rw [Int.natCast_ediv, Int.natCast_pow]; rfl

theorem rot_spell (x n : Nat) : bits .or .u64 (IntKind.u64.wrap ((x : Int) * 2 ^ n)) ((x : Int) / 2 ^ (64 - n)) = ((Kh.rot x n : Nat) : Int) := by
  rw [shl_spell, shr_spell, Kh.or_spell]; rfl

theorem rotate_any (x : Nat) (k : Int) (h1 : 1 ≤ k) (h2 : k ≤ 63) (w : World) :
    Calls Try.prog 47 #[.int .u64 (x : Int), .int .i64 k] w fun e w' => e = .returned (.int .u64 ((Kh.rot x k.toNat : Nat) : Int)) ∧ w = w' := by
  obtain ⟨n, rfl⟩ := Int.eq_ofNat_of_zero_le (by omega : 0 ≤ k)
  have ha := and63 n (by omega)
  go_enter Try.func47, Try.ntmps47
  go_wp2
  go_ret
  exact ⟨ret_i (rot_spell x n), rfl⟩

theorem rotateR_any (x : Nat) (k : Int) (h1 : 1 ≤ k) (h2 : k ≤ 63) (w : World) :
    Calls Try.prog 48 #[.int .u64 (x : Int), .int .u64 k] w fun e w' => e = .returned (.int .u64 ((Kh.rot x k.toNat : Nat) : Int)) ∧ w = w' := by
  obtain ⟨n, rfl⟩ := Int.eq_ofNat_of_zero_le (by omega : 0 ≤ k)
  go_enter Try.func48, Try.ntmps48
  go_wp2
  go_ret
  exact ⟨ret_i (rot_spell x n), rfl⟩

def stv (s : Kh.St) : Value := .agg #[.int .u64 s.a, .int .u64 s.b, .int .u64 s.c, .int .u64 s.d]

set_option maxHeartbeats 1000000 in
theorem roundR_any (a b c d : Nat) (w : World) :
    Calls Try.prog 40 #[.agg #[.int .u64 (a : Int), .int .u64 (b : Int), .int .u64 (c : Int), .int .u64 (d : Int)]] w fun e w' => e = .returned (stv (Kh.rnd ⟨a, b, c, d⟩)) ∧ Below w.heap.size w w' := by
  have ha := Kh.add_spell
  have hx := Kh.xor_spell
  go_enter Try.func40, Try.ntmps40
  go_wp2_with (go_at_call 48; refine (rotateR_any _ _ (by omega) (by omega) _).mono ?_; rintro e w' ⟨rfl, rfl⟩)
  go_returns
  refine ⟨?_, ?_⟩
  · rfl
  · go_grown

end Go.Proofs.Ytdjpidniakedpaa
