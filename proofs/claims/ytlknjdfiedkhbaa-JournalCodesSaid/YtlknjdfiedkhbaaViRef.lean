/- The encoding of an integer, as the reference writes it; Size of the reference. Walked. No condition but the integer's range. -/
import Derived.Test.YtlknjdfiedkhbaaViInt
namespace Go.Proofs.Ytlknjdfiedkhbaa
open Go Go.RowKit

theorem rem128 (m : Nat) : ((m : Int).tmod 128) = ((m % 128 : Nat) : Int) := rfl
theorem conv_one (w : World) (g : Nat) (b : UInt8) (h : w.cell? ⟨g, 0, none⟩ = some (.int .u8 (b.toNat : Int))) : (convert 54 9 (.slice (some ⟨g, 0, none⟩) 1 1)).run Try.prog w = .ok (.string (str [b])) w := by
  refine conv_bytes (l := [b]) rfl (fun j hj => ?_)
  obtain rfl : j = 0 := by omega
  rw [Nat.zero_add, h]; rfl

theorem conv_lo (w : World) (q : Nat) : (convert 54 9 (.slice (some ⟨w.heap.size, 0, none⟩) 1 1)).run Try.prog (w.alloc (.cells #[.int .u8 ((q : Int) % 128)] 5)) = .ok (.string (str [UInt8.ofNat (q % 128)])) (w.alloc (.cells #[.int .u8 ((q : Int) % 128)] 5)) := by
  refine conv_one _ _ _ ?_
  rw [(Bk.new w 5 #[.int .u8 ((q : Int) % 128)]).cell 0, UInt8.toNat_ofNat', show q % 128 % 2 ^ 8 = q % 128 by omega]; rfl
/-- a byte above the last one -/
def hiB (q : Nat) : List UInt8 := [UInt8.ofNat (128 + q % 128)]
theorem hiB_size (q : Nat) : (str (hiB q)).size ≤ 1 := by rw [str_size]; simp [hiB]
theorem enc_part {m q : Nat} {l : List UInt8} (hm : m ≤ 2305843009213693952) (h : Vi.hi q ++ l = Vi.enc m) : (str l).size ≤ 9 := by
  have h1 := Vi.enc_len_le 8 m (Nat.lt_of_le_of_lt hm (by decide))
  rw [← h, List.length_append] at h1
  rw [str_size]; omega
theorem conv_hi (w : World) (q : Nat) : (convert 54 9 (.slice (some ⟨w.heap.size, 0, none⟩) 1 1)).run Try.prog (w.alloc (.cells #[.int .u8 (128 + (q : Int) % 128)] 5)) = .ok (.string (str (hiB q))) (w.alloc (.cells #[.int .u8 (128 + (q : Int) % 128)] 5)) := by
  refine conv_one _ _ _ ?_
  rw [(Bk.new w 5 #[.int .u8 (128 + (q : Int) % 128)]).cell 0, UInt8.toNat_ofNat', show (128 + q % 128) % 2 ^ 8 = 128 + q % 128 by omega]; rfl

set_option maxHeartbeats 1000000 in
theorem intR_any (n : Int) (w : World) :
    Calls Try.prog 55 #[.int .i64 n] w fun e w' => e = .returned (.tuple #[.string (str (Vi.intL n)), .int .i64 (Vi.intE n)]) ∧ Below w.heap.size w w' := by
  by_cases h1 : n < -1152921504606846976
  · have HL : Hid (Vi.intL n = []) := by show _ = _; unfold Vi.intL Vi.inR Vi.big; rw [if_neg (by simp; omega)]
    have HE : Hid (Vi.intE n = 2) := by show _ = _; unfold Vi.intE Vi.inR Vi.big; rw [if_neg (by simp; omega)]
    go_enter Try.func55, Try.ntmps55
    go_wp2
    go_ret2
    exact ⟨two_e (by rw [HL.out]; rfl) HE.out.symm, Below.refl _ _⟩
  by_cases h2 : 1152921504606846976 < n
  · have HL : Hid (Vi.intL n = []) := by show _ = _; unfold Vi.intL Vi.inR Vi.big; rw [if_neg (by simp; omega)]
    have HE : Hid (Vi.intE n = 2) := by show _ = _; unfold Vi.intE Vi.inR Vi.big; rw [if_neg (by simp; omega)]
    go_enter Try.func55, Try.ntmps55
    go_wp2
    go_ret2
    exact ⟨two_e (by rw [HL.out]; rfl) HE.out.symm, Below.refl _ _⟩
  have hin : Vi.inR n = true := by rw [Vi.inR_iff]; unfold Vi.big; omega
  have HL : Hid (Vi.intL n = Vi.enc (Vi.zig n)) := by show _ = _; unfold Vi.intL; rw [if_pos hin]
  have HE : Hid (Vi.intE n = 0) := by show _ = _; unfold Vi.intE; rw [if_pos hin]
  have hz := Vi.zig_lt n hin
  clear hin
  have hc1 := conv_lo
  have hc2 := conv_hi
  have fin : ∀ (q : Nat) (l : List UInt8), Vi.hi q ++ l = Vi.enc (Vi.zig n) → q = 0 → str l = str (Vi.intL n) := by
    intro q l h hq
    subst hq
    rw [HL.out, ← h, Vi.hi_zero]; rfl
  have FIN := Lib.hid fin
  clear fin
  have start : Vi.hi (Vi.zig n / 128) ++ [UInt8.ofNat (Vi.zig n % 128)] = Vi.enc (Vi.zig n) := rfl
  have ST := Lib.hid start
  clear start
  by_cases hn : n < 0
  · have HZ : Hid (-2 * n - 1 = (Vi.zig n : Int)) := by show _ = _; unfold Vi.zig; rw [if_pos hn]; omega
    generalize Vi.zig n = m at *
    go_enter Try.func55, Try.ntmps55
    go_upto_region 6 with fail
    rw [HZ.out]
    go_wp2
    go_loopw [4, 5] (fun x y wr => ∃ (q : Nat) (l : List UInt8), q ≤ 2305843009213693952 ∧ x = .int .i64 (q : Int) ∧ y = .string (str l) ∧ Vi.hi q ++ l = Vi.enc m ∧ Below w.heap.size w wr) (fun x _ _ => (intOf x).toNat)
    case atStart => exact ⟨m / 128, _, by omega, by go_num, rfl, ST.out, (Below.refl _ _).alloc (Nat.le_refl _) _⟩
    case round =>
      obtain ⟨q, l, hq, rfl, rfl, hl, hb⟩ := hrel
      have HLq := Lib.hid hl
      have HB := Lib.hid hb
      clear hl hb
      have hs1 := enc_part hz HLq.out
      have hs2 := hiB_size q
      by_cases h0 : 0 < q
      · go_wp2
        go_roundw
        case rel =>
          refine ⟨q / 128, hiB q ++ l, by omega, by go_num, by rw [str_append], ?_, HB.out.alloc HB.out.size _⟩
          have e := HLq.out
          rw [Vi.hi_pos q (by omega), List.append_assoc] at e
          exact e
        case measure => simp [intOf]; omega
      · have FE := FIN.out q l HLq.out (by omega)
        have HFE := Lib.hid FE
        clear FE
        go_wp2
        go_ret2
        exact ⟨two_e HFE.out HE.out.symm, HB.out⟩
  · have HZ : Hid (2 * n = (Vi.zig n : Int)) := by show _ = _; unfold Vi.zig; rw [if_neg hn]; omega
    generalize Vi.zig n = m at *
    go_enter Try.func55, Try.ntmps55
    go_upto_region 6 with fail
    rw [HZ.out]
    go_wp2
    go_loopw [4, 5] (fun x y wr => ∃ (q : Nat) (l : List UInt8), q ≤ 2305843009213693952 ∧ x = .int .i64 (q : Int) ∧ y = .string (str l) ∧ Vi.hi q ++ l = Vi.enc m ∧ Below w.heap.size w wr) (fun x _ _ => (intOf x).toNat)
    case atStart => exact ⟨m / 128, _, by omega, by go_num, rfl, ST.out, (Below.refl _ _).alloc (Nat.le_refl _) _⟩
    case round =>
      obtain ⟨q, l, hq, rfl, rfl, hl, hb⟩ := hrel
      have HLq := Lib.hid hl
      have HB := Lib.hid hb
      clear hl hb
      have hs1 := enc_part hz HLq.out
      have hs2 := hiB_size q
      by_cases h0 : 0 < q
      · go_wp2
        go_roundw
        case rel =>
          refine ⟨q / 128, hiB q ++ l, by omega, by go_num, by rw [str_append], ?_, HB.out.alloc HB.out.size _⟩
          have e := HLq.out
          rw [Vi.hi_pos q (by omega), List.append_assoc] at e
          exact e
        case measure => simp [intOf]; omega
      · have FE := FIN.out q l HLq.out (by omega)
        have HFE := Lib.hid FE
        clear FE
        go_wp2
        go_ret2
        exact ⟨two_e HFE.out HE.out.symm, HB.out⟩
end Go.Proofs.Ytlknjdfiedkhbaa
