/- The word in 8 bytes of a string, as the reference reads it. -/
import Derived.Test.YtdjpidniakedpaaKhLeaf
namespace Go.Proofs.Ytdjpidniakedpaa
open Go Go.RowKit

/-- the word's bytes from j on -/
def wfrom (l : List UInt8) (i j : Nat) : Nat := Kh.le (((l.drop i).take 8).drop j)

theorem le_drop (l : List UInt8) (m : Nat) : Kh.le (l.drop m) = if m < l.length then (l[m]?.getD 0).toNat + 256 * Kh.le (l.drop (m + 1)) else 0 := by
  split
  · rename_i h
    rw [List.drop_eq_getElem_cons h, List.getElem?_eq_getElem h]
    simp [Kh.le]
  · rename_i h
    rw [List.drop_eq_nil_of_le (by omega)]; rfl

theorem wfrom_in (l : List UInt8) (i m : Nat) (hm : m < 8) (h : i + m < l.length) : wfrom l i m = wfrom l i (m + 1) * 256 + (l[i + m]?.getD 0).toNat := by
  unfold wfrom
  rw [le_drop, if_pos (by simp; omega)]
  rw [List.getElem?_take_of_lt hm, List.getElem?_drop]
  omega

theorem wfrom_out (l : List UInt8) (i m : Nat) (h : ¬ i + m < l.length) : wfrom l i m = wfrom l i (m + 1) * 256 := by
  unfold wfrom
  rw [le_drop, if_neg (by simp; omega), le_drop, if_neg (by simp; omega)]

theorem wfrom_lt (l : List UInt8) (i m : Nat) (hm : m < 8) : wfrom l i (m + 1) < 72057594037927936 := by
  unfold wfrom
  refine Nat.lt_of_lt_of_le (Kh.le_lt _) ?_
  rw [show 72057594037927936 = 256 ^ 7 from rfl]
  exact Nat.pow_le_pow_right (by decide) (by simp; omega)

theorem or_low (x b : Nat) (hx : x < 72057594037927936) (hb : b < 256) : bits .or .u64 ((x : Int) * 256) (b : Int) = ((x * 256 + b : Nat) : Int) := by
  rw [show ((x : Int) * 256) = ((x * 256 : Nat) : Int) by omega, u64_or_nat _ _ (by omega) (by omega), show x * 256 = 2 ^ 8 * x by omega, ← Nat.two_pow_add_eq_or_of_lt (by omega)]

theorem wfrom_or (s : ByteArray) (i m : Nat) (hm : m < 8) (h : i + m < s.size) :
    bits .or .u64 ((wfrom s.data.toList i (m + 1) : Int) * 256) (IntKind.u64.wrap (s[i + m].toNat : Int)) = ((wfrom s.data.toList i m : Nat) : Int) := by
  have hb := s[i + m].toNat_lt
  have hl : i + m < s.data.toList.length := by simpa using h
  have e : IntKind.u64.wrap (s[i + m].toNat : Int) = (s[i + m].toNat : Int) := by rw [IntKind.wrap_u64]; omega
  have e2 : s.data.toList[i + m]?.getD 0 = s[i + m] := by rw [List.getElem?_eq_getElem hl]; rfl
  rw [e, or_low _ _ (wfrom_lt _ _ _ hm) hb, wfrom_in _ _ _ hm hl, e2]
theorem wfrom_no (s : ByteArray) (i m : Nat) (h : ¬ i + m < s.size) : (wfrom s.data.toList i (m + 1) : Int) * 256 = ((wfrom s.data.toList i m : Nat) : Int) := by
  rw [wfrom_out s.data.toList i m (by simpa using h)]; omega
theorem wfrom_all (l : List UInt8) (i : Nat) : wfrom l i 0 = Kh.word l i := rfl

set_option maxHeartbeats 1000000 in
theorem wordR_any (s : ByteArray) (i : Int) (h0 : 0 ≤ i) (hi : i ≤ 1000000) (hs : s.size ≤ 1000000) (w : World) :
    Calls Try.prog 38 #[.string s, .int .i64 i] w fun e w' => e = .returned (.int .u64 ((Kh.word s.data.toList i.toNat : Nat) : Int)) ∧ w = w' := by
  obtain ⟨i, rfl⟩ := Int.eq_ofNat_of_zero_le h0
  go_enter Try.func38, Try.ntmps38
  go_wp2
  go_loop [5, 6] (fun x k => ∃ j : Nat, j ≤ 8 ∧ k = .int .i64 ((j : Int) - 1) ∧ x = .int .u64 ((wfrom s.data.toList i j : Nat) : Int)) (fun _ k => (intOf k + 1).toNat)
  case atStart => exact ⟨8, by omega, rfl, by simp [wfrom, Kh.le]⟩
  case round =>
    obtain ⟨j, hj, rfl, rfl⟩ := hrel
    by_cases h1 : 1 ≤ j
    · obtain ⟨m, rfl⟩ : ∃ m, j = m + 1 := ⟨j - 1, by omega⟩
      have e1 : (((m + 1 : Nat) : Int) - 1) = (m : Int) := by omega
      rw [e1]
      clear e1
      have hw := wfrom_lt s.data.toList i m (by omega)
      by_cases hin : i + m < s.size
      · go_wp2
        go_round
        case rel => exact ⟨m, by omega, rfl, by rw [wfrom_or s i m (by omega) hin]⟩
        case measure => simp [intOf]
      · go_wp2
        go_round
        case rel => exact ⟨m, by omega, rfl, by rw [wfrom_no s i m hin]⟩
        case measure => simp [intOf]
    · obtain rfl : j = 0 := by omega
      go_wp2
      go_ret
      exact ⟨rfl, rfl⟩
end Go.Proofs.Ytdjpidniakedpaa
