/- The reference's step, Update, Sum and bytes, walked. Conditions: numbers of 32 bits; a length below the model's greatest. -/
import Derived.Test.YtlknjdfiedkhbaaCrcSum
namespace Go.Proofs.Ytlknjdfiedkhbaa
open Go Go.RowKit
open Crc (upd sum stepN step1 update most)

set_option maxRecDepth 100000 in
theorem stepR_any (c : Nat) (hc : c < 4294967296) (w : World) :
    Calls Try.prog 77 #[.int .i64 (c : Int)] w fun e w' => e = .returned (.int .i64 ((step1 c : Nat) : Int)) ∧ w = w' := by
  have hs1 := Crc.step1_lt c hc
  by_cases ho : c % 2 = 1
  · have he : step1 c = c / 2 ^^^ Crc.poly := by unfold Crc.step1; rw [if_pos ho]
    have hxp : bits .xor .i64 ((c : Int) / 2) 2197175160 = ((step1 c : Nat) : Int) := by
      rw [he, show (c : Int) / 2 = ((c / 2 : Nat) : Int) by omega]; exact xor64 (c / 2) 2197175160 (by omega) (by decide)
    clear he
    generalize step1 c = d at hs1 hxp ⊢
    go_enter Try.func77, Try.ntmps77
    go_wp2
    go_ret
    exact ⟨rfl, rfl⟩
  · have he : step1 c = c / 2 := by unfold Crc.step1; rw [if_neg ho]
    have hev : (step1 c : Int) = (c : Int) / 2 := by rw [he]; omega
    have HE := Lib.hid hev
    clear he hev
    go_enter Try.func77, Try.ntmps77
    go_wp2
    go_ret
    exact ⟨ret_i (by rw [HE.out]), rfl⟩

theorem upd_take (r : Nat) (s : ByteArray) (k : Nat) (hk : k < s.size) : upd r (s.data.toList.take (k + 1)) = stepN 8 (upd r (s.data.toList.take k) ^^^ s[k].toNat) := by
  rw [take_at s k hk, upd_snoc]

set_option maxHeartbeats 4000000 in
set_option maxRecDepth 100000 in
theorem updateR_any (c : Nat) (hc : c < 4294967296) (s : ByteArray) (hs : s.size ≤ maxLen) (w : World) :
    Calls Try.prog 69 #[.int .i64 (c : Int), .string s] w fun e w' => e = .returned (.tuple #[.int .i64 ((update c s.data.toList : Nat) : Int), .int .i64 0]) ∧ w = w' := by
  unfold maxLen at hs
  have hx0 : bits .xor .i64 (c : Int) 4294967295 = ((c ^^^ most : Nat) : Int) := xor64 c 4294967295 hc (by decide)
  have hr0 := Crc.xor_lt c most hc (by decide)
  have HU : Hid (update c s.data.toList = upd (c ^^^ most) s.data.toList ^^^ most) := rfl
  generalize c ^^^ most = r0 at hx0 hr0 HU
  go_enter Try.func69, Try.ntmps69
  go_wp2
  go_loop [6, 7, 8] (fun x i _ => ∃ k : Nat, k ≤ s.size ∧ i = .int .i64 k ∧ x = .int .i64 ((upd r0 (s.data.toList.take k) : Nat) : Int)) (fun _ i _ => s.size - (intOf i).toNat)
  case atStart => exact ⟨0, by omega, rfl, rfl⟩
  case round =>
    obtain ⟨k, hk, rfl, rfl⟩ := hrel
    by_cases hlt : k < s.size
    · have HN := Lib.hid (upd_take r0 s k hlt)
      have hl := Crc.upd_lt (s.data.toList.take k) r0 hr0
      obtain ⟨b, hb⟩ : ∃ b, s[k] = b := ⟨_, rfl⟩
      rw [hb] at HN
      have hb8 := UInt8.toNat_lt b
      generalize upd r0 (s.data.toList.take k) = r at HN hl
      have hx1 : bits .xor .i64 (r : Int) (b.toNat : Int) = ((r ^^^ b.toNat : Nat) : Int) := xor64 r b.toNat hl (by omega)
      have hl2 := Crc.xor_lt r b.toNat hl (by omega)
      generalize r ^^^ b.toNat = q at hx1 hl2 HN
      go_wp2
      go_loop [6, 8] (fun x i => ∃ j y : Nat, j ≤ 8 ∧ i = .int .i64 j ∧ x = .int .i64 (y : Int) ∧ y < 4294967296 ∧ stepN (8 - j) y = stepN 8 q) (fun _ i => 8 - (intOf i).toNat)
      case atStart => exact ⟨0, q, by omega, rfl, rfl, hl2, rfl⟩
      case round =>
        obtain ⟨j, y, hj, rfl, rfl, hy, hst⟩ := hrel
        have HS := Lib.hid hst
        clear hst
        by_cases hj8 : j < 8
        · have HS2 : Hid (stepN (8 - (j + 1)) (step1 y) = stepN 8 q) := by
            have h := HS.out
            rw [show 8 - j = 8 - (j + 1) + 1 by omega] at h
            exact h
          have hs1 := Crc.step1_lt y hy
          go_wp2_with fail
          refine (stepR_any y hy _).mono ?_
          rintro e w2 ⟨rfl, rfl⟩
          go_wp2
          go_round
          case rel => exact ⟨j + 1, step1 y, by omega, by go_num, rfl, hs1, HS2.out⟩
          case measure => simp [intOf]; omega
        · have HE : Hid (y = upd r0 (s.data.toList.take (k + 1))) := by
            have h := HS.out
            rw [show 8 - j = 0 by omega] at h
            show y = _
            rw [HN.out, ← h]; rfl
          go_wp2
          go_round
          case rel => exact ⟨k + 1, by omega, by go_num, by rw [← HE.out]⟩
          case measure => simp [intOf]; omega
    · have e : s.data.toList.take k = s.data.toList := List.take_of_length_le (by simp; omega)
      rw [e]
      have hl := Crc.upd_lt s.data.toList r0 hr0
      have hx2 : bits .xor .i64 ((upd r0 s.data.toList : Nat) : Int) 4294967295 = ((update c s.data.toList : Nat) : Int) := by rw [HU.out]; exact xor64 _ 4294967295 hl (by decide)
      generalize upd r0 s.data.toList = r at hl hx2
      clear e HU
      generalize hv : update c s.data.toList = v at hx2
      have HV := Lib.hid hv
      clear hv
      go_wp2
      go_ret2
      rw [HV.out]
      exact ⟨rfl, rfl⟩
theorem sumR_any (s : ByteArray) (hs : s.size ≤ maxLen) (w : World) :
    Calls Try.prog 57 #[.string s] w fun e w' => e = .returned (.int .i64 ((sum s.data.toList : Nat) : Int)) ∧ w = w' := by
  have HU := Lib.hid (updateR_any 0 (by decide) s hs)
  rw [← Crc.sum_update] at HU
  generalize sum s.data.toList = v at HU ⊢
  go_enter Try.func57, Try.ntmps57
  go_wp2_with fail
  refine (HU.out _).mono ?_
  rintro e w2 ⟨rfl, rfl⟩
  go_wp2
  go_ret
  exact ⟨rfl, rfl⟩

set_option maxHeartbeats 1000000 in
theorem bytesR_any (v : Nat) (hl : v < 4294967296) (w : World) :
    Calls Try.prog 56 #[.int .i64 (v : Int)] w fun e w' => e = .returned (.string (str (Crc.bytes4 v))) ∧ Below w.heap.size w w' := by
  have hcv := conv_row w (Crc.bytes4 v) 4 rfl
  have hb2 : Below w.heap.size w (w.alloc (.cells ((Crc.bytes4 v).map byteV).toArray 5)) := (Below.refl _ _).alloc (Nat.le_refl _) _
  rw [four_bytes v hl] at hcv hb2
  have HB2 := Lib.hid hb2
  clear hb2
  go_enter Try.func56, Try.ntmps56
  go_wp2
  go_ret
  exact ⟨rfl, HB2.out⟩
end Go.Proofs.Ytlknjdfiedkhbaa
