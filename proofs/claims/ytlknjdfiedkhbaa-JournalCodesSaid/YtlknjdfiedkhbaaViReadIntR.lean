/- The reference's ReadInt, walked. Condition: a length below the model's greatest. -/
import Derived.Test.YtlknjdfiedkhbaaViRef
import Derived.Test.YtlknjdfiedkhbaaViTextP
namespace Go.Proofs.Ytlknjdfiedkhbaa
open Go Go.RowKit

theorem scan_none (f m k : Nat) : Vi.scan (f + 1) m k [] = (0, 0, 12) := rfl
theorem scan_up {f m k : Nat} {c : UInt8} {r : List UInt8} (h : 128 ≤ c.toNat) : Vi.scan (f + 1) m k (c :: r) = Vi.scan f (m * 128 + c.toNat % 128) (k + 1) r := by rw [Vi.scan, if_pos h]
theorem scan_end {f m k : Nat} {c : UInt8} {r : List UInt8} (h : ¬ 128 ≤ c.toNat) : Vi.scan (f + 1) m k (c :: r) = (m * 128 + c.toNat % 128, k + 1, 0) := by rw [Vi.scan, if_neg h]; congr 1; omega
theorem rd_err' {l : List UInt8} {e : Int} (h : Vi.scan 9 0 0 l = (0, 0, e)) (he : e ≠ 0) : Vi.rd l = (0, 0, e) := by unfold Vi.rd; rw [h]; simp [he]
theorem rd_no {l : List UInt8} {m k : Nat} (h : Vi.scan 9 0 0 l = (m, k, 0)) (h2 : Vi.head l = 128 ∨ Vi.inR (Vi.unzig m) = false) : Vi.rd l = (0, 0, 11) := by
  unfold Vi.rd; rw [h]; simp only [if_true]; rw [if_pos h2]
theorem rd_yes {l : List UInt8} {m k : Nat} (h : Vi.scan 9 0 0 l = (m, k, 0)) (h1 : Vi.head l ≠ 128) (h2 : Vi.inR (Vi.unzig m) = true) : Vi.rd l = (Vi.unzig m, k, 0) := by
  unfold Vi.rd; rw [h]; simp only [if_true]; rw [if_neg (by simp [h1, h2])]
theorem unzig_odd {m : Nat} (h : m % 2 = 1) : Vi.unzig m = (-((m : Int) + 1)).tdiv 2 := by
  unfold Vi.unzig
  rw [if_pos h]
  obtain ⟨q, rfl⟩ : ∃ q, m = 2 * q + 1 := ⟨m / 2, by omega⟩
  rw [show (-(((2 * q + 1 : Nat) : Int) + 1)) = (-((q : Int) + 1)) * 2 by omega, Int.mul_tdiv_cancel _ (by decide), Int.mul_ediv_cancel _ (by decide)]
theorem unzig_even {m : Nat} (h : ¬ m % 2 = 1) : Vi.unzig m = (m : Int) / 2 := by unfold Vi.unzig; rw [if_neg h]
theorem drop_at (s : ByteArray) (k : Nat) (h : k < s.size) : s.data.toList.drop k = s[k] :: s.data.toList.drop (k + 1) := by
  rw [List.drop_eq_getElem_cons (by simpa using h)]; rfl
theorem head_at (s : ByteArray) (h : 0 < s.size) : Vi.head s.data.toList = s[0].toNat := by
  unfold Vi.head
  rw [List.getElem?_eq_getElem (by simpa using h)]; rfl
theorem pow_mono9 {k : Nat} (h : k ≤ 9) : (128 : Nat) ^ k ≤ 9223372036854775808 := by
  rw [show (9223372036854775808 : Nat) = 128 ^ 9 from by decide]; exact Nat.pow_le_pow_right (by decide) h
theorem pow_mono8 {k : Nat} (h : k ≤ 8) : (128 : Nat) ^ k ≤ 72057594037927936 := by
  rw [show (72057594037927936 : Nat) = 128 ^ 8 from by decide]; exact Nat.pow_le_pow_right (by decide) h
theorem three_i {a b c a' b' c' : Int} (h : (a, b, c) = (a', b', c')) : Ending.returned (.tuple #[.int .i64 a, .int .i64 b, .int .i64 c]) = .returned (.tuple #[.int .i64 a', .int .i64 b', .int .i64 c']) := by
  simp only [Prod.mk.injEq] at h
  obtain ⟨rfl, rfl, rfl⟩ := h; rfl
theorem wrap_odd {m c : Nat} (hm : m < 72057594037927936) (h : (m * 128 + c % 128) % 2 = 1) : wrap64 ((wrap64 (-wrap64 ((m : Int) * 128 + (c : Int) % 128 + 1))).tdiv 2) = Vi.unzig (m * 128 + c % 128) := by
  obtain ⟨N, hN⟩ : ∃ N, N = m * 128 + c % 128 := ⟨_, rfl⟩
  have e : (m : Int) * 128 + (c : Int) % 128 = (N : Int) := by omega
  rw [e, ← hN]
  rw [← hN] at h
  have hlt : N < 9223372036854775808 := by omega
  rw [unzig_odd h]
  by_cases ht : N = 9223372036854775807
  · subst ht; decide +kernel
  · have e1 : wrap64 ((N : Int) + 1) = (N : Int) + 1 := IntWalk.wrap64_in _ (by omega)
    have e2 : wrap64 (-((N : Int) + 1)) = -((N : Int) + 1) := IntWalk.wrap64_in _ (by omega)
    rw [e1, e2]
    obtain ⟨q, hq⟩ : ∃ q : Int, (N : Int) + 1 = 2 * q := ⟨((N : Int) + 1) / 2, by omega⟩
    have e3 : (-((N : Int) + 1)).tdiv 2 = -q := by rw [hq, show -(2 * q) = (-q) * 2 by omega, Int.mul_tdiv_cancel _ (by decide)]
    rw [e3]
    exact IntWalk.wrap64_in _ (by omega)
theorem even_half {m c : Nat} (h : ¬ (m * 128 + c % 128) % 2 = 1) : ((m : Int) * 128 + (c : Int) % 128) / 2 = Vi.unzig (m * 128 + c % 128) := by
  rw [unzig_even h]; omega
theorem wrap_odd' (m c : Nat) (hm : m < 72057594037927936) : (m * 128 + c % 128) % 2 = 1 → wrap64 ((wrap64 (-wrap64 ((m : Int) * 128 + (c : Int) % 128 + 1))).tdiv 2) = Vi.unzig (m * 128 + c % 128) := wrap_odd hm
theorem even_half' (m c : Nat) : ¬ (m * 128 + c % 128) % 2 = 1 → ((m : Int) * 128 + (c : Int) % 128) / 2 = Vi.unzig (m * 128 + c % 128) := even_half
/-- what ReadInt hands back -/
def rd3 (l : List UInt8) : Int × Int × Int := ((Vi.rd l).1, ((Vi.rd l).2.1 : Int), (Vi.rd l).2.2)
theorem rd3_of {l : List UInt8} {n : Int} {k : Nat} {e : Int} (h : Vi.rd l = (n, k, e)) : rd3 l = (n, (k : Int), e) := by unfold rd3; rw [h]

set_option maxRecDepth 100000 in
set_option maxHeartbeats 2000000 in
theorem readIntR_any (s : ByteArray) (hs : s.size ≤ maxLen) (w : World) :
    Calls Try.prog 61 #[.string s] w fun e w' => e = .returned (.tuple #[.int .i64 (rd3 s.data.toList).1, .int .i64 (rd3 s.data.toList).2.1, .int .i64 (rd3 s.data.toList).2.2]) ∧ w = w' := by
  unfold maxLen at hs
  go_enter Try.func61, Try.ntmps61
  go_wp2
  go_loop [5, 6, 7, 8] (fun x i _ _ => ∃ k m : Nat, k ≤ 9 ∧ k ≤ s.size ∧ i = .int .i64 k ∧ x = .int .i64 m ∧ m < 128 ^ k ∧ Vi.scan (9 - k) m k (s.data.toList.drop k) = Vi.scan 9 0 0 s.data.toList) (fun _ i _ _ => 9 - (intOf i).toNat)
  case atStart => exact ⟨0, 0, by omega, by omega, rfl, rfl, by decide, rfl⟩
  case round =>
    obtain ⟨k, m, hk9, hks, rfl, rfl, hm, hsc⟩ := hrel
    have HSC := Lib.hid hsc
    have HM := Lib.hid hm
    clear hsc hm
    by_cases hk : k < 9
    · obtain ⟨f, hf⟩ : ∃ f, 9 - k = f + 1 := ⟨8 - k, by omega⟩
      have HF := Lib.hid hf
      clear hf
      have hm8 : m < 72057594037927936 := Nat.lt_of_lt_of_le HM.out (pow_mono8 (by omega))
      by_cases hlen : s.size ≤ k
      · have HR : Hid (rd3 s.data.toList = (0, 0, 12)) := by
          show _ = _
          have e := HSC.out
          rw [HF.out, List.drop_eq_nil_of_le (by simpa using hlen), scan_none] at e
          exact rd3_of (rd_err' e.symm (by decide))
        go_wp2
        go_ret3
        exact ⟨three_i HR.out.symm, rfl⟩
      · have hlt : k < s.size := by omega
        have HD : Hid (s.data.toList.drop k = s[k] :: s.data.toList.drop (k + 1)) := drop_at s k hlt
        have hc := s[k].toNat_lt
        have hpos : 0 < s.size := by omega
        by_cases hge : 128 ≤ s[k].toNat
        · have HN : Hid (Vi.scan (9 - (k + 1)) (m * 128 + s[k].toNat % 128) (k + 1) (s.data.toList.drop (k + 1)) = Vi.scan 9 0 0 s.data.toList) := by
            show _ = _
            rw [← HSC.out, HD.out, HF.out, scan_up hge, show 9 - (k + 1) = f by have := HF.out; omega]
          have HB : Hid (m * 128 + s[k].toNat % 128 < 128 ^ (k + 1)) := by
            show _ < _
            have := HM.out
            rw [Nat.pow_succ]; omega
          go_wp2
          go_round
          case rel => exact ⟨k + 1, m * 128 + s[k].toNat % 128, by omega, by omega, by go_num, by go_num, HB.out, HN.out⟩
          case measure => simp [intOf]; omega
        · have HSE : Hid (Vi.scan 9 0 0 s.data.toList = (m * 128 + s[k].toNat % 128, k + 1, 0)) := by
            show _ = _
            rw [← HSC.out, HD.out, HF.out, scan_end hge]
          have hwo := wrap_odd' m s[k].toNat hm8
          have hev := even_half' m s[k].toNat
          have HH : Hid (Vi.head s.data.toList = s[0].toNat) := head_at s hpos
          generalize hU : Vi.unzig (m * 128 + s[k].toNat % 128) = U at hwo hev
          have HU := Lib.hid hU
          clear hU
          have fin1 : s[0].toNat = 128 ∨ Vi.inR U = false → Hid (rd3 s.data.toList = (0, 0, 11)) := fun h => by
            show _ = _
            refine rd3_of (rd_no HSE.out ?_)
            rw [HU.out, HH.out]; exact h
          have fin2 : ¬ s[0].toNat = 128 → Vi.inR U = true → Hid (rd3 s.data.toList = (U, ((k + 1 : Nat) : Int), 0)) := fun h h' => by
            show _ = _
            refine rd3_of ?_
            have e := rd_yes HSE.out (by rw [HH.out]; exact h) (by rw [HU.out]; exact h')
            rw [HU.out] at e
            exact e
          by_cases hodd : (m * 128 + s[k].toNat % 128) % 2 = 1
          · have hw := hwo hodd
            clear hwo hev HU HSE HSC HM HD HF HH
            by_cases hh : s[0].toNat = 128
            · have HR := fin1 (.inl hh)
              have hb0 : ((s[0].toNat : Int) == 128) = true := by rw [hh]; rfl
              clear fin1 fin2 hh
              go_wp2
              all_goals (go_ret3; exact ⟨three_i HR.out.symm, rfl⟩)
            · have hb0 : ((s[0].toNat : Int) == 128) = false := by rw [beq_eq_false_iff_ne]; omega
              by_cases hlo : U < -1152921504606846976
              · have HR := fin1 (.inr (by unfold Vi.inR Vi.big; simp; omega))
                clear fin1 fin2 hh
                go_wp2
                all_goals (go_ret3; exact ⟨three_i HR.out.symm, rfl⟩)
              · by_cases hhi : 1152921504606846976 < U
                · have HR := fin1 (.inr (by unfold Vi.inR Vi.big; simp; omega))
                  clear fin1 fin2 hh
                  go_wp2
                  all_goals (go_ret3; exact ⟨three_i HR.out.symm, rfl⟩)
                · have HR := fin2 hh (by rw [Vi.inR_iff]; unfold Vi.big; omega)
                  clear fin1 fin2 hh
                  go_wp2
                  all_goals (go_ret3; exact ⟨three_i HR.out.symm, rfl⟩)
          · have hw := hev hodd
            clear hwo hev HU HSE HSC HM HD HF HH
            by_cases hh : s[0].toNat = 128
            · have HR := fin1 (.inl hh)
              have hb0 : ((s[0].toNat : Int) == 128) = true := by rw [hh]; rfl
              clear fin1 fin2 hh
              go_wp2
              all_goals (go_ret3; exact ⟨three_i HR.out.symm, rfl⟩)
            · have hb0 : ((s[0].toNat : Int) == 128) = false := by rw [beq_eq_false_iff_ne]; omega
              by_cases hlo : U < -1152921504606846976
              · have HR := fin1 (.inr (by unfold Vi.inR Vi.big; simp; omega))
                clear fin1 fin2 hh
                go_wp2
                all_goals (go_ret3; exact ⟨three_i HR.out.symm, rfl⟩)
              · by_cases hhi : 1152921504606846976 < U
                · have HR := fin1 (.inr (by unfold Vi.inR Vi.big; simp; omega))
                  clear fin1 fin2 hh
                  go_wp2
                  all_goals (go_ret3; exact ⟨three_i HR.out.symm, rfl⟩)
                · have HR := fin2 hh (by rw [Vi.inR_iff]; unfold Vi.big; omega)
                  clear fin1 fin2 hh
                  go_wp2
                  all_goals (go_ret3; exact ⟨three_i HR.out.symm, rfl⟩)
    · obtain rfl : k = 9 := by omega
      have HR : Hid (rd3 s.data.toList = (0, 0, 11)) := by
        show _ = _
        exact rd3_of (rd_err' HSC.out.symm (by decide))
      go_wp2
      go_ret3
      exact ⟨three_i HR.out.symm, rfl⟩
end Go.Proofs.Ytlknjdfiedkhbaa
