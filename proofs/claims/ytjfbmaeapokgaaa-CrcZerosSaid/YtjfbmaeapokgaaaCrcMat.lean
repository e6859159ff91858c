/- A linear map given by what becomes of each power of two: plain numbers. No program is in sight here. -/
import Derived.Test.YtjfbmaeapokgaaaCrcSpec
namespace Go.Proofs.Ytjfbmaeapokgaaa.Crc

/-- what becomes of a number, by its first k bits -/
def app (m : Nat → Nat) (x : Nat) : Nat → Nat
  | 0 => 0
  | k + 1 => if x / 2 ^ k % 2 = 1 then app m x k ^^^ m k else app m x k
theorem low_pow (b k : Nat) (h : b < 2 ^ k) : b ^^^ 2 ^ k = b + 2 ^ k := by
  have e : 2 ^ k + b = 2 ^ k ||| b := by
    have := Nat.two_pow_add_eq_or_of_lt h 1
    simpa using this
  rw [Nat.add_comm, e, Nat.or_comm]
  apply Nat.eq_of_testBit_eq
  intro i
  rw [Nat.testBit_xor, Nat.testBit_or]
  by_cases hi : i = k
  · subst hi
    rw [Nat.testBit_lt_two_pow h]
    simp
  · rw [Nat.testBit_two_pow_of_ne (Ne.symm hi)]
    simp
theorem app_lin (F : Nat → Nat) (h0 : F 0 = 0) (hF : ∀ a b, F (a ^^^ b) = F a ^^^ F b) (x : Nat) : ∀ k, app (fun i => F (2 ^ i)) x k = F (x % 2 ^ k)
  | 0 => by simp [app, Nat.mod_one, h0]
  | k + 1 => by
    unfold app
    rw [app_lin F h0 hF x k, Nat.mod_pow_succ]
    have hl : x % 2 ^ k < 2 ^ k := Nat.mod_lt _ (Nat.pow_pos (by decide))
    by_cases h : x / 2 ^ k % 2 = 1
    · rw [if_pos h, h, Nat.mul_one, ← hF, low_pow _ _ hl]
    · rw [if_neg h, show x / 2 ^ k % 2 = 0 by omega, Nat.mul_zero, Nat.add_zero]
theorem app_step (j x : Nat) (h : x < 4294967296) : app (fun i => stepN j (2 ^ i)) x 32 = stepN j x := by
  rw [app_lin (stepN j) (stepN_zero j) (stepN_xor j) x 32, Nat.mod_eq_of_lt h]
/-- the steps of a power of two's worth of bytes, bit by bit of the number -/
theorem steps_bits (n r j : Nat) : stepN (j * n) r = stepN (2 * j * (n / 2)) (if n % 2 = 1 then stepN j r else r) := by
  by_cases h : n % 2 = 1
  · rw [if_pos h, ← stepN_add]
    congr 1
    have : n = 2 * (n / 2) + 1 := by omega
    conv => lhs; rw [this]
    rw [Nat.mul_add, Nat.mul_one, ← Nat.mul_assoc, Nat.mul_comm j 2, Nat.add_comm]
  · rw [if_neg h]
    congr 1
    have : n = 2 * (n / 2) := by omega
    conv => lhs; rw [this]
    rw [← Nat.mul_assoc, Nat.mul_comm j 2]
end Go.Proofs.Ytjfbmaeapokgaaa.Crc
