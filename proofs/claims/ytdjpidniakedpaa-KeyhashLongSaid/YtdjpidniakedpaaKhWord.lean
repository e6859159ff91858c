/- The word in the first 8 bytes of a slice. Condition: it has them. -/
import Derived.Test.YtdjpidniakedpaaKhLeaf
namespace Go.Proofs.Ytdjpidniakedpaa
open Go Go.RowKit

theorem le_snoc (l : List UInt8) (k : Nat) (h : k < l.length) : Kh.le (l.take (k + 1)) = Kh.le (l.take k) + 256 ^ k * (l[k]?.getD 0).toNat := by
  rw [List.take_succ_eq_append_getElem h, Kh.le_append, List.getElem?_eq_getElem h]
  simp [Kh.le, Nat.min_eq_left (Nat.le_of_lt h)]

theorem le_or (m x k : Nat) (hm : m < 256 ^ k) (hx : x < 256) (hk : k < 8) : bits .or .u64 (m : Int) (IntKind.u64.wrap ((x : Int) * 2 ^ (8 * k))) = ((m + 256 ^ k * x : Nat) : Int) := by
  have e : (256 : Nat) ^ k = 2 ^ (8 * k) := by rw [show (256 : Nat) = 2 ^ 8 from rfl, ← Nat.pow_mul]
  have hs : x * 2 ^ (8 * k) < 2 ^ 64 := by
    calc x * 2 ^ (8 * k) < 2 ^ 8 * 2 ^ (8 * k) := Nat.mul_lt_mul_of_pos_right hx (Nat.two_pow_pos _)
      _ = 2 ^ (8 + 8 * k) := by rw [← Nat.pow_add]
      _ ≤ 2 ^ 64 := Nat.pow_le_pow_right (by decide) (by omega)
  have hml : m < 2 ^ 64 := Nat.lt_of_lt_of_le hm (by rw [e]; exact Nat.pow_le_pow_right (by decide) (by omega))
  have h1 : IntKind.u64.wrap ((x : Int) * 2 ^ (8 * k)) = ((x * 2 ^ (8 * k) : Nat) : Int) := by
    rw [shl_spell]; unfold Kh.shlm; rw [Nat.mod_eq_of_lt (show _ < Kh.M from hs)]
  rw [h1, u64_or_nat _ _ hml hs, e, Nat.or_comm, Nat.mul_comm x, ← Nat.two_pow_add_eq_or_of_lt (by rw [← e]; exact hm), Nat.add_comm]

theorem take_lt (l : List UInt8) (k : Nat) : Kh.le (l.take k) < 256 ^ k :=
  Nat.lt_of_lt_of_le (Kh.le_lt _) (Nat.pow_le_pow_right (by decide) (by simp; omega))

set_option maxHeartbeats 1000000 in
theorem word_any (g off n cap : Nat) (l : List UInt8) (w : World) (hl : l.length = 8) (hn : 8 ≤ n)
    (hc : ∀ j, j < 8 → w.cell? ⟨g, off + j, none⟩ = some (.int .u8 ((l[j]?.getD 0).toNat : Int))) :
    Calls Try.prog 35 #[.slice (some ⟨g, off, none⟩) n cap] w fun e w' => e = .returned (.int .u64 ((Kh.le l : Nat) : Int)) ∧ w = w' := by
  have Hl := Lib.hid hl
  clear hl
  go_enter Try.func35, Try.ntmps35
  go_wp2
  go_loop [3, 5] (fun m i => ∃ k : Nat, k ≤ 8 ∧ i = .int .i64 k ∧ m = .int .u64 ((Kh.le (l.take k) : Nat) : Int)) (fun _ i => 8 - (intOf i).toNat)
  case atStart => exact ⟨0, by omega, rfl, rfl⟩
  case round =>
    obtain ⟨k, hk, rfl, rfl⟩ := hrel
    by_cases hlt : k < 8
    · have h1 := hc k hlt
      have hb : (l[k]?.getD 0).toNat < 256 := (l[k]?.getD 0).toNat_lt
      clear hc
      go_wp2
      go_roundw
      case rel => exact ⟨k + 1, by omega, by go_num, by rw [le_or _ _ _ (take_lt l k) hb hlt, le_snoc l k (by rw [Hl.out]; exact hlt)]⟩
      case measure => simp [intOf]; omega
    · go_wp2
      go_ret
      have hk8 : k = 8 := by omega
      exact ⟨ret_i (by rw [List.take_of_length_le (by rw [Hl.out]; omega)]), rfl⟩
end Go.Proofs.Ytdjpidniakedpaa
