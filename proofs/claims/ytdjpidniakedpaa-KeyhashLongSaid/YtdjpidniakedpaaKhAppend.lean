/- A word appended byte by byte. Condition: the slice is nil or a row of the call's own. -/
import Derived.Test.YtdjpidniakedpaaKhLeaf
import Derived.Maps.AppendAt
namespace Go.Proofs.Ytdjpidniakedpaa
open Go Go.RowKit

def byteV (b : UInt8) : Value := .int .u8 (b.toNat : Int)
theorem infoByte : (Try.prog.info? 5).map (fun i => (i.zero, i.size, i.bytes)) = some (some (.int .u8 0), 1, 1) := by kernel_rfl

theorem byte_spell (m k : Nat) : IntKind.u8.wrap ((m : Int) / 2 ^ (8 * k)) = ((UInt8.ofNat (m / 256 ^ k)).toNat : Int) := by
  have e : (256 : Nat) ^ k = 2 ^ (8 * k) := by rw [show (256 : Nat) = 2 ^ 8 from rfl, ← Nat.pow_mul]
  rw [shr_spell, ← e, UInt8.toNat_ofNat']
  simp only [IntKind.wrap, IntKind.bits, IntKind.signed]
  simp

theorem bytes8_snoc (m k : Nat) (h : k < 8) : (Kh.bytes8 m).take (k + 1) = (Kh.bytes8 m).take k ++ [UInt8.ofNat (m / 256 ^ k)] := by
  have hl : k < (Kh.bytes8 m).length := by simp [Kh.bytes8]; exact h
  rw [List.take_succ_eq_append_getElem hl]
  simp [Kh.bytes8]

set_option maxHeartbeats 1000000 in
theorem appendWord_any (base : Nat) (v : Value) (n : Nat) (xs : List Value) (m : Nat) (w : World) (hown : w.ownsRow base 5 1 v n xs) (hn : n ≤ 1000000) (hbase : base ≤ w.heap.size) :
    Calls Try.prog 27 #[v, .int .u64 (m : Int)] w fun e w' => ∃ v', e = .returned v' ∧ w'.ownsRow base 5 1 v' (n + 8) (xs ++ (Kh.bytes8 m).map byteV) ∧ Below base w w' := by
  obtain ⟨i0, hi, hz0, hz1, hz2⟩ := info_parts infoByte
  go_enter Try.func27, Try.ntmps27
  go_wp2
  go_loopw [0, 6] (fun b i wr => ∃ k : Nat, k ≤ 8 ∧ i = .int .i64 k ∧ wr.ownsRow base 5 1 b (n + k) (xs ++ ((Kh.bytes8 m).take k).map byteV) ∧ Below base w wr) (fun _ i _ => 8 - (intOf i).toNat)
  case atStart => exact ⟨0, by omega, rfl, by simpa using hown, Below.refl _ _⟩
  case round =>
    obtain ⟨k, hk, rfl, ho, hb⟩ := hrel
    by_cases hlt : k < 8
    · go_wp2_with (at_builtin; refine wpList_append_own _ rfl _ _ 28 rfl base 5 i0 (.int .u8 0) 1 1 Try.underlying28 hi hz0 hz1 hz2 rfl (by decide) _ _ _ rfl (ho.alloc _) ⟨wr.heap.size, 0, none⟩ 1 1 [.int .u8 (IntKind.u8.wrap ((m : Int) / 2 ^ (8 * k)))] rfl rfl ?c1 ?c2 ?c3 ?c4 ?c5 ?_)
      case c1 => exact cell_one_new _ _ _
      case c2 => simp [Value.oneCell']
      case c3 => unfold maxLen; omega
      case c4 => omega
      case c5 => have := hb.size; simp; omega
      intro v' w1 hown' hgrow _
      have hb1 : Below base w w1 := (hb.alloc (Nat.le_trans hbase hb.size) _).grown hgrow (by have := hb.size; simp; omega) (fun g hg => (ho.lt g hg).1)
      rw [byte_spell, show [Value.int IntKind.u8 ((UInt8.ofNat (m / 256 ^ k)).toNat : Int)] = [UInt8.ofNat (m / 256 ^ k)].map byteV from rfl] at hown'
      have hown2 : w1.ownsRow base 5 1 v' (n + (k + 1)) (xs ++ ((Kh.bytes8 m).take (k + 1)).map byteV) := by rw [bytes8_snoc m k hlt, List.map_append, List.map_take]; exact hown'
      clear hgrow ho hown'
      go_wp2
      go_roundw
      case rel => exact ⟨k + 1, by omega, by go_num, hown2, hb1⟩
      case measure => simp [intOf]; omega
    · go_wp2
      go_ret
      obtain rfl : k = 8 := by omega
      exact ⟨_, rfl, by rw [List.take_of_length_le (by simp [Kh.bytes8])] at ho; exact ho, hb⟩
end Go.Proofs.Ytdjpidniakedpaa
