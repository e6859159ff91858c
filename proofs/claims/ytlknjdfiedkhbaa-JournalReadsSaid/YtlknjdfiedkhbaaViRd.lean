/- The reference's ReadInt, walked. Condition: a length below the model's greatest.
The program's reader: what is left, noting an error, reading an integer. Walked. Conditions: the reader lies in one block; its place is in the string.
The program's ReadInt, walked. Condition: a length below the model's greatest.
The reference's length and ReadText, walked. Condition: a length below the model's greatest.
The program's length and ReadText, walked. Condition: a length below the model's greatest. -/
import Derived.Test.YtlknjdfiedkhbaaViW
import Derived.Deep.QuietTactic
import Derived.BigQuiet
namespace Go.Proofs.Ytlknjdfiedkhbaa
open Go Go.RowKit

theorem scan_none (f m k : Nat) : Vi.scan (f + 1) m k [] = (0, 0, 12) := rfl
theorem scan_up {f m k : Nat} {c : UInt8} {r : List UInt8} (h : 128 ≤ c.toNat) : Vi.scan (f + 1) m k (c :: r) = Vi.scan f (m * 128 + c.toNat % 128) (k + 1) r := by rw [Vi.scan, if_pos h]
theorem scan_end {f m k : Nat} {c : UInt8} {r : List UInt8} (h : ¬ 128 ≤ c.toNat) : Vi.scan (f + 1) m k (c :: r) = (m * 128 + c.toNat % 128, k + 1, 0) := by rw [Vi.scan, if_neg h]; congr 1; omega
theorem rd_err' {l : List UInt8} {e : Int} (h : Vi.scan 9 0 0 l = (0, 0, e)) (he : e ≠ 0) : Vi.rd l = (0, 0, e) := by unfold Vi.rd; rw [h]; simp [he]
theorem rd_no {l : List UInt8} {m k : Nat} (h : Vi.scan 9 0 0 l = (m, k, 0)) (h2 : Vi.head l = 128 ∨ Vi.inR (Vi.unzig m) = false) : Vi.rd l = (0, 0, 11) := by
  unfold Vi.rd; rw [h]; simp only [if_true]; rw [if_pos h2]
theorem rd_yes {l : List UInt8} {m k : Nat} (h : Vi.scan 9 0 0 l = (m, k, 0)) (h1 : Vi.head l ≠ 128) (h2 : Vi.inR (Vi.unzig m) = true) : Vi.rd l = (Vi.unzig m, k, 0) := by
  unfold Vi.rd; rw [h]; simp only [if_true]; rw [if_neg (by simp [h1, h2])]
theorem unzig_odd {m : Nat} (h : m % 2 = 1) : Vi.unzig m = (-((m : Int) + 1)).tdiv 2 := by
  unfold Vi.unzig
  rw [if_pos h]
  obtain ⟨q, rfl⟩ : ∃ q, m = 2 * q + 1 := ⟨m / 2, by omega⟩
  rw [show (-(((2 * q + 1 : Nat) : Int) + 1)) = (-((q : Int) + 1)) * 2 by omega, Int.mul_tdiv_cancel _ (by decide), Int.mul_ediv_cancel _ (by decide)]
theorem unzig_even {m : Nat} (h : ¬ m % 2 = 1) : Vi.unzig m = (m : Int) / 2 := by unfold Vi.unzig; rw [if_neg h]
theorem drop_at (s : ByteArray) (k : Nat) (h : k < s.size) : s.data.toList.drop k = s[k] :: s.data.toList.drop (k + 1) := by
  rw [List.drop_eq_getElem_cons (by simpa using h)]; rfl
theorem head_at (s : ByteArray) (h : 0 < s.size) : Vi.head s.data.toList = s[0].toNat := by
  unfold Vi.head
  rw [List.getElem?_eq_getElem (by simpa using h)]; rfl
theorem pow_mono9 {k : Nat} (h : k ≤ 9) : (128 : Nat) ^ k ≤ 9223372036854775808 := by
  rw [show (9223372036854775808 : Nat) = 128 ^ 9 from by decide]; exact Nat.pow_le_pow_right (by decide) h
theorem pow_mono8 {k : Nat} (h : k ≤ 8) : (128 : Nat) ^ k ≤ 72057594037927936 := by
  rw [show (72057594037927936 : Nat) = 128 ^ 8 from by decide]; exact Nat.pow_le_pow_right (by decide) h
theorem three_i {a b c a' b' c' : Int} (h : (a, b, c) = (a', b', c')) : Ending.returned (.tuple #[.int .i64 a, .int .i64 b, .int .i64 c]) = .returned (.tuple #[.int .i64 a', .int .i64 b', .int .i64 c']) := by
  simp only [Prod.mk.injEq] at h
  obtain ⟨rfl, rfl, rfl⟩ := h; rfl
theorem wrap_odd {m c : Nat} (hm : m < 72057594037927936) (h : (m * 128 + c % 128) % 2 = 1) : wrap64 ((wrap64 (-wrap64 ((m : Int) * 128 + (c : Int) % 128 + 1))).tdiv 2) = Vi.unzig (m * 128 + c % 128) := by
  obtain ⟨N, hN⟩ : ∃ N, N = m * 128 + c % 128 := ⟨_, rfl⟩
  have e : (m : Int) * 128 + (c : Int) % 128 = (N : Int) := by omega
  rw [e, ← hN]
  rw [← hN] at h
  have hlt : N < 9223372036854775808 := by omega
  rw [unzig_odd h]
  by_cases ht : N = 9223372036854775807
  · subst ht; decide +kernel
  · have e1 : wrap64 ((N : Int) + 1) = (N : Int) + 1 := IntWalk.wrap64_in _ (by omega)
    have e2 : wrap64 (-((N : Int) + 1)) = -((N : Int) + 1) := IntWalk.wrap64_in _ (by omega)
    rw [e1, e2]
    obtain ⟨q, hq⟩ : ∃ q : Int, (N : Int) + 1 = 2 * q := ⟨((N : Int) + 1) / 2, by omega⟩
    have e3 : (-((N : Int) + 1)).tdiv 2 = -q := by rw [hq, show -(2 * q) = (-q) * 2 by omega, Int.mul_tdiv_cancel _ (by decide)]
    rw [e3]
    exact IntWalk.wrap64_in _ (by omega)
theorem even_half {m c : Nat} (h : ¬ (m * 128 + c % 128) % 2 = 1) : ((m : Int) * 128 + (c : Int) % 128) / 2 = Vi.unzig (m * 128 + c % 128) := by
  rw [unzig_even h]; omega
theorem wrap_odd' (m c : Nat) (hm : m < 72057594037927936) : (m * 128 + c % 128) % 2 = 1 → wrap64 ((wrap64 (-wrap64 ((m : Int) * 128 + (c : Int) % 128 + 1))).tdiv 2) = Vi.unzig (m * 128 + c % 128) := wrap_odd hm
theorem even_half' (m c : Nat) : ¬ (m * 128 + c % 128) % 2 = 1 → ((m : Int) * 128 + (c : Int) % 128) / 2 = Vi.unzig (m * 128 + c % 128) := even_half
/-- what ReadInt hands back -/
def rd3 (l : List UInt8) : Int × Int × Int := ((Vi.rd l).1, ((Vi.rd l).2.1 : Int), (Vi.rd l).2.2)
theorem rd3_of {l : List UInt8} {n : Int} {k : Nat} {e : Int} (h : Vi.rd l = (n, k, e)) : rd3 l = (n, (k : Int), e) := by unfold rd3; rw [h]

set_option maxRecDepth 100000 in
set_option maxHeartbeats 2000000 in
theorem readIntR_any (s : ByteArray) (hs : s.size ≤ maxLen) (w : World) :
    Calls Try.prog 61 #[.string s] w fun e w' => e = .returned (.tuple #[.int .i64 (rd3 s.data.toList).1, .int .i64 (rd3 s.data.toList).2.1, .int .i64 (rd3 s.data.toList).2.2]) ∧ w = w' := by
  unfold maxLen at hs
  go_enter Try.func61, Try.ntmps61
  go_wp2
  go_loop [5, 6, 7, 8] (fun x i _ _ => ∃ k m : Nat, k ≤ 9 ∧ k ≤ s.size ∧ i = .int .i64 k ∧ x = .int .i64 m ∧ m < 128 ^ k ∧ Vi.scan (9 - k) m k (s.data.toList.drop k) = Vi.scan 9 0 0 s.data.toList) (fun _ i _ _ => 9 - (intOf i).toNat)
  case atStart => exact ⟨0, 0, by omega, by omega, rfl, rfl, by decide, rfl⟩
  case round =>
    obtain ⟨k, m, hk9, hks, rfl, rfl, hm, hsc⟩ := hrel
    have HSC := Lib.hid hsc
    have HM := Lib.hid hm
    clear hsc hm
    by_cases hk : k < 9
    · obtain ⟨f, hf⟩ : ∃ f, 9 - k = f + 1 := ⟨8 - k, by omega⟩
      have HF := Lib.hid hf
      clear hf
      have hm8 : m < 72057594037927936 := Nat.lt_of_lt_of_le HM.out (pow_mono8 (by omega))
      by_cases hlen : s.size ≤ k
      · have HR : Hid (rd3 s.data.toList = (0, 0, 12)) := by
          show _ = _
          have e := HSC.out
          rw [HF.out, List.drop_eq_nil_of_le (by simpa using hlen), scan_none] at e
          exact rd3_of (rd_err' e.symm (by decide))
        go_wp2
        go_ret3
        exact ⟨three_i HR.out.symm, rfl⟩
      · have hlt : k < s.size := by omega
        have HD : Hid (s.data.toList.drop k = s[k] :: s.data.toList.drop (k + 1)) := drop_at s k hlt
        have hc := s[k].toNat_lt
        have hpos : 0 < s.size := by omega
        by_cases hge : 128 ≤ s[k].toNat
        · have HN : Hid (Vi.scan (9 - (k + 1)) (m * 128 + s[k].toNat % 128) (k + 1) (s.data.toList.drop (k + 1)) = Vi.scan 9 0 0 s.data.toList) := by
            show _ = _
            rw [← HSC.out, HD.out, HF.out, scan_up hge, show 9 - (k + 1) = f by have := HF.out; omega]
          have HB : Hid (m * 128 + s[k].toNat % 128 < 128 ^ (k + 1)) := by
            show _ < _
            have := HM.out
            rw [Nat.pow_succ]; omega
          go_wp2
          go_round
          case rel => exact ⟨k + 1, m * 128 + s[k].toNat % 128, by omega, by omega, by go_num, by go_num, HB.out, HN.out⟩
          case measure => simp [intOf]; omega
        · have HSE : Hid (Vi.scan 9 0 0 s.data.toList = (m * 128 + s[k].toNat % 128, k + 1, 0)) := by
            show _ = _
            rw [← HSC.out, HD.out, HF.out, scan_end hge]
          have hwo := wrap_odd' m s[k].toNat hm8
          have hev := even_half' m s[k].toNat
          have HH : Hid (Vi.head s.data.toList = s[0].toNat) := head_at s hpos
          generalize hU : Vi.unzig (m * 128 + s[k].toNat % 128) = U at hwo hev
          have HU := Lib.hid hU
          clear hU
          have fin1 : s[0].toNat = 128 ∨ Vi.inR U = false → Hid (rd3 s.data.toList = (0, 0, 11)) := fun h => by
            show _ = _
            refine rd3_of (rd_no HSE.out ?_)
            rw [HU.out, HH.out]; exact h
          have fin2 : ¬ s[0].toNat = 128 → Vi.inR U = true → Hid (rd3 s.data.toList = (U, ((k + 1 : Nat) : Int), 0)) := fun h h' => by
            show _ = _
            refine rd3_of ?_
            have e := rd_yes HSE.out (by rw [HH.out]; exact h) (by rw [HU.out]; exact h')
            rw [HU.out] at e
            exact e
          by_cases hodd : (m * 128 + s[k].toNat % 128) % 2 = 1
          · have hw := hwo hodd
            clear hwo hev HU HSE HSC HM HD HF HH
            by_cases hh : s[0].toNat = 128
            · have HR := fin1 (.inl hh)
              have hb0 : ((s[0].toNat : Int) == 128) = true := by rw [hh]; rfl
              clear fin1 fin2 hh
              go_wp2
              all_goals (go_ret3; exact ⟨three_i HR.out.symm, rfl⟩)
            · have hb0 : ((s[0].toNat : Int) == 128) = false := by rw [beq_eq_false_iff_ne]; omega
              by_cases hlo : U < -1152921504606846976
              · have HR := fin1 (.inr (by unfold Vi.inR Vi.big; simp; omega))
                clear fin1 fin2 hh
                go_wp2
                all_goals (go_ret3; exact ⟨three_i HR.out.symm, rfl⟩)
              · by_cases hhi : 1152921504606846976 < U
                · have HR := fin1 (.inr (by unfold Vi.inR Vi.big; simp; omega))
                  clear fin1 fin2 hh
                  go_wp2
                  all_goals (go_ret3; exact ⟨three_i HR.out.symm, rfl⟩)
                · have HR := fin2 hh (by rw [Vi.inR_iff]; unfold Vi.big; omega)
                  clear fin1 fin2 hh
                  go_wp2
                  all_goals (go_ret3; exact ⟨three_i HR.out.symm, rfl⟩)
          · have hw := hev hodd
            clear hwo hev HU HSE HSC HM HD HF HH
            by_cases hh : s[0].toNat = 128
            · have HR := fin1 (.inl hh)
              have hb0 : ((s[0].toNat : Int) == 128) = true := by rw [hh]; rfl
              clear fin1 fin2 hh
              go_wp2
              all_goals (go_ret3; exact ⟨three_i HR.out.symm, rfl⟩)
            · have hb0 : ((s[0].toNat : Int) == 128) = false := by rw [beq_eq_false_iff_ne]; omega
              by_cases hlo : U < -1152921504606846976
              · have HR := fin1 (.inr (by unfold Vi.inR Vi.big; simp; omega))
                clear fin1 fin2 hh
                go_wp2
                all_goals (go_ret3; exact ⟨three_i HR.out.symm, rfl⟩)
              · by_cases hhi : 1152921504606846976 < U
                · have HR := fin1 (.inr (by unfold Vi.inR Vi.big; simp; omega))
                  clear fin1 fin2 hh
                  go_wp2
                  all_goals (go_ret3; exact ⟨three_i HR.out.symm, rfl⟩)
                · have HR := fin2 hh (by rw [Vi.inR_iff]; unfold Vi.big; omega)
                  clear fin1 fin2 hh
                  go_wp2
                  all_goals (go_ret3; exact ⟨three_i HR.out.symm, rfl⟩)
    · obtain rfl : k = 9 := by omega
      have HR : Hid (rd3 s.data.toList = (0, 0, 11)) := by
        show _ = _
        exact rd3_of (rd_err' HSC.out.symm (by decide))
      go_wp2
      go_ret3
      exact ⟨three_i HR.out.symm, rfl⟩
end Go.Proofs.Ytlknjdfiedkhbaa
namespace Go.Proofs.Ytlknjdfiedkhbaa
open Go Go.RowKit

/-- block g is a reader of s at p that has noted er -/
def Rdr (w : World) (g : Nat) (s : ByteArray) (p er : Int) : Prop := Bk w g 119 #[.string s, .int .i64 p, .int .i64 er]
theorem Rdr.c0 {w : World} {g : Nat} {s : ByteArray} {p er : Int} (h : Rdr w g s p er) : w.cell? ⟨g, 0, none⟩ = some (.string s) := Bk.cell h 0
theorem Rdr.c1 {w : World} {g : Nat} {s : ByteArray} {p er : Int} (h : Rdr w g s p er) : w.cell? ⟨g, 1, none⟩ = some (.int .i64 p) := Bk.cell h 1
theorem Rdr.c2 {w : World} {g : Nat} {s : ByteArray} {p er : Int} (h : Rdr w g s p er) : w.cell? ⟨g, 2, none⟩ = some (.int .i64 er) := Bk.cell h 2
theorem Rdr.drewN {w : World} {g : Nat} {s : ByteArray} {p er : Int} (h : Rdr w g s p er) (n : Nat) : Rdr (w.drewN n) g s p er := Bk.drewN h n
theorem Rdr.err {w : World} {g : Nat} {s : ByteArray} {p er : Int} (h : Rdr w g s p er) (x : Int) : Rdr (w.setCell ⟨g, 2, none⟩ (.int .i64 x)) g s p x := Bk.put h 2 _
theorem Rdr.go {w : World} {g : Nat} {s : ByteArray} {p er : Int} (h : Rdr w g s p er) (x : Int) : Rdr (w.setCell ⟨g, 1, none⟩ (.int .i64 x)) g s x er := Bk.put h 1 _
theorem grown_drewN {w0 w : World} {g : Nat} (h : w0.grownBy w (some g)) (n : Nat) : w0.grownBy (w.drewN n) (some g) := ⟨h.os, h.tape, h.output, h.size, h.block⟩

set_option maxHeartbeats 1000000 in
theorem rest_any (g : Nat) (s : ByteArray) (p : Nat) (er : Int) (w : World) (hB : Rdr w g s p er) (hp : p ≤ s.size) (hs : s.size ≤ maxLen) :
    Calls Try.prog 80 #[.pointer (some ⟨g, 0, none⟩)] w fun e w' => e = .returned (.int .i64 ((s.size : Int) - p)) ∧ ∃ n, w' = w.drewN n := by
  unfold maxLen at hs
  have c0 := hB.c0
  have c1 := hB.c1
  clear hB
  go_enter Try.func80, Try.ntmps80
  go_wp2
  go_quiet (fail)
  go_wp2
  go_ret
  exact ⟨rfl, _, rfl⟩
set_option maxHeartbeats 1000000 in
theorem fail_any (g : Nat) (s : ByteArray) (p : Int) (x : Int) (w : World) (hB : Rdr w g s p 0) :
    Calls Try.prog 81 #[.pointer (some ⟨g, 0, none⟩), .int .i64 x] w fun e w' => e = .returned (.tuple #[]) ∧ w' = w.setCell ⟨g, 2, none⟩ (.int .i64 x) := by
  have c2 := hB.c2
  have cf : w.frozen? ⟨g, 2, none⟩ = false := Bk.free hB 2
  clear hB
  go_enter Try.func81, Try.ntmps81
  go_wp2
  go_end0
  exact ⟨rfl, rfl⟩
set_option maxHeartbeats 1000000 in
theorem fail_no (g : Nat) (s : ByteArray) (p er : Int) (x : Int) (w : World) (hB : Rdr w g s p er) (he : er ≠ 0) :
    Calls Try.prog 81 #[.pointer (some ⟨g, 0, none⟩), .int .i64 x] w fun e w' => e = .returned (.tuple #[]) ∧ w = w' := by
  have c2 := hB.c2
  have hb : (er == 0) = false := by rw [beq_eq_false_iff_ne]; exact he
  clear hB he
  go_enter Try.func81, Try.ntmps81
  go_wp2
  go_end0
  exact ⟨rfl, rfl⟩

/-- what reading an integer leaves -/
def RetRead (w : World) (g : Nat) (s : ByteArray) (p : Nat) (e : Ending) (w' : World) : Prop :=
  e = .returned (.int .i64 (Vi.rd (s.data.toList.drop p)).1) ∧ Rdr w' g s ((p + (Vi.rd (s.data.toList.drop p)).2.1 : Nat) : Int) (Vi.rd (s.data.toList.drop p)).2.2 ∧ w.grownBy w' (some g)
theorem retRead_of {w : World} {g : Nat} {s : ByteArray} {p : Nat} {n : Int} {k : Nat} {er : Int} {w' : World} (h : Vi.rd (s.data.toList.drop p) = (n, k, er)) {x : Int} (hx : x = n) (hR : Rdr w' g s ((p + k : Nat) : Int) er) (hg : w.grownBy w' (some g)) : RetRead w g s p (.returned (.int .i64 x)) w' := by
  unfold RetRead
  rw [h, hx]
  exact ⟨rfl, hR, hg⟩
theorem and127 (c : UInt8) : bits .and .u8 (c.toNat : Int) 127 = ((c.toNat % 128 : Nat) : Int) := by
  have h := and_spell c.toNat
  have e : ((c.toNat : Int) % 256) = (c.toNat : Int) := by have := c.toNat_lt; omega
  rw [e, UInt8.toNat_ofNat', show c.toNat % 128 % 2 ^ 8 = c.toNat % 128 by omega] at h
  exact h
theorem or128 (m c : Nat) (hm : m < 72057594037927936) : bits .or .i64 ((m : Int) * 128) ((c % 128 : Nat) : Int) = ((m * 128 + c % 128 : Nat) : Int) := by
  have e1 : (m : Int) * 128 = ((m * 128 : Nat) : Int) := by omega
  rw [e1]
  show IntKind.i64.wrap ((BitVec.ofInt 64 ((m * 128 : Nat) : Int) ||| BitVec.ofInt 64 ((c % 128 : Nat) : Int)).toNat : Int) = _
  rw [BitVec.toNat_or, BitVec.ofInt_natCast, BitVec.ofInt_natCast, BitVec.toNat_ofNat, BitVec.toNat_ofNat, Nat.mod_eq_of_lt (by omega), Nat.mod_eq_of_lt (by omega), show m * 128 = 2 ^ 7 * m by omega, ← Nat.two_pow_add_eq_or_of_lt (by omega)]
  rw [IntKind.wrap_i64]
  omega

theorem and_one (m : Nat) (hm : m < 9223372036854775808) : bits .and .i64 (m : Int) 1 = ((m % 2 : Nat) : Int) := by
  show IntKind.i64.wrap ((BitVec.ofInt 64 (m : Int) &&& BitVec.ofInt 64 ((1 : Nat) : Int)).toNat : Int) = _
  rw [BitVec.toNat_and, BitVec.ofInt_natCast, BitVec.ofInt_natCast, BitVec.toNat_ofNat, BitVec.toNat_ofNat, Nat.mod_eq_of_lt (by omega), show 1 % 2 ^ 64 = 2 ^ 1 - 1 from rfl, Nat.and_two_pow_sub_one_eq_mod]
  rw [IntKind.wrap_i64]
  omega

set_option maxRecDepth 100000 in
set_option maxHeartbeats 4000000 in
theorem integer_any (g : Nat) (s : ByteArray) (p : Nat) (w : World) (hB : Rdr w g s p 0) (hp : p ≤ s.size) (hs : s.size ≤ maxLen) :
    Calls Try.prog 78 #[.pointer (some ⟨g, 0, none⟩)] w (RetRead w g s p) := by
  have hsm := hs
  unfold maxLen at hs
  have c2 := hB.c2
  have HB := Lib.hid hB
  clear hB
  go_enter Try.func78, Try.ntmps78
  go_wp2
  clear c2
  go_loopw [3, 4, 5, 6] (fun x i la _ wr => ∃ (k m : Nat), i = .int .i64 k ∧ x = .int .i64 m ∧ Rdr wr g s p 0 ∧ w.grownBy wr (some g) ∧
    ((la = .bool false ∧ k ≤ 9 ∧ p + k ≤ s.size ∧ m < 128 ^ k ∧ Vi.scan (9 - k) m k (s.data.toList.drop (p + k)) = Vi.scan 9 0 0 (s.data.toList.drop p)) ∨
     (la = .bool true ∧ 1 ≤ k ∧ p + k ≤ s.size ∧ m < 9223372036854775808 ∧ Vi.scan 9 0 0 (s.data.toList.drop p) = (m, k, 0)))) (fun _ i la _ _ => match la with | .bool false => 10 - (intOf i).toNat | _ => 0)
  case atStart => exact ⟨0, 0, rfl, rfl, HB.out, World.grownBy.refl w _, .inl ⟨rfl, by omega, by omega, by decide, rfl⟩⟩
  case round =>
    obtain ⟨k, m, rfl, rfl, hR, hG, hor⟩ := hrel
    have HR := Lib.hid hR
    have HG := Lib.hid hG
    clear hR hG HB
    rcases hor with ⟨rfl, hk9, hpk, hm, hsc⟩ | ⟨rfl, hk1, hpk, hm, hsc⟩
    · have HSC := Lib.hid hsc
      have HM := Lib.hid hm
      clear hsc hm
      by_cases hk : k < 9
      · have h9b : ((k : Int) == 9) = false := by rw [beq_eq_false_iff_ne]; omega
        obtain ⟨f, hf⟩ : ∃ f, 9 - k = f + 1 := ⟨8 - k, by omega⟩
        have HF := Lib.hid hf
        clear hf
        have hm8 : m < 72057594037927936 := Nat.lt_of_lt_of_le HM.out (pow_mono8 (by omega))
        go_wp2_with fail
        refine (rest_any g s p 0 _ HR.out hp hsm).mono ?_
        rintro e w1 ⟨rfl, n1, rfl⟩
        by_cases hlen : s.size = p + k
        · have hlb : ((s.size : Int) - p == k) = true := by rw [beq_iff_eq]; omega
          have HRD : Hid (Vi.rd (s.data.toList.drop p) = (0, 0, 12)) := by
            show _ = _
            have e := HSC.out
            rw [HF.out, List.drop_eq_nil_of_le (by simp; omega), scan_none] at e
            exact rd_err' e.symm (by decide)
          clear hlen
          go_wp2_with fail
          refine (fail_any g s p 12 _ (HR.out.drewN n1)).mono ?_
          rintro e w2 ⟨rfl, rfl⟩
          go_wp2
          go_ret
          exact retRead_of HRD.out rfl ((HR.out.drewN n1).err 12) (grown_join (grown_drewN HG.out n1) (grown_put _ _ _ _))
        · have hlb : ((s.size : Int) - p == k) = false := by rw [beq_eq_false_iff_ne]; omega
          have hlt : p + k < s.size := by omega
          clear hlen
          have c0 := HR.out.c0
          have c1 := HR.out.c1
          have HD : Hid (s.data.toList.drop (p + k) = s[p + k] :: s.data.toList.drop (p + k + 1)) := drop_at s (p + k) hlt
          have ha := and127 s[p + k]
          have ho := or128 m s[p + k].toNat hm8
          have q1 : IntKind.i64.wrap ((p : Int) + (k : Int)) = (p : Int) + (k : Int) := IntWalk.i64_in _ (by omega)
          have q2 : (0 : Int) ≤ (p : Int) + (k : Int) := by omega
          have q3 : ((p : Int) + (k : Int)).toNat = p + k := by omega
          have q4 : (p : Int) + (k : Int) < (s.size : Int) := by omega
          go_wp2_with fail
          go_quiet (fail)
          generalize s[p + k] = c at ha ho HD ⊢
          clear q1 q2 q3 q4
          have hc := c.toNat_lt
          by_cases hge : 128 ≤ c.toNat
          · have HN : Hid (Vi.scan (9 - (k + 1)) (m * 128 + c.toNat % 128) (k + 1) (s.data.toList.drop (p + (k + 1))) = Vi.scan 9 0 0 (s.data.toList.drop p)) := by
              show _ = _
              rw [← HSC.out, HD.out, HF.out, scan_up hge, show 9 - (k + 1) = f by have := HF.out; omega]; rfl
            have HB1 : Hid (m * 128 + c.toNat % 128 < 128 ^ (k + 1)) := by
              show _ < _
              have := HM.out
              rw [Nat.pow_succ]; omega
            have hd : decide ((c.toNat : Int) < 128) = false := by simp; omega
            have HO : Hid (bits .or .i64 ((m : Int) * 128) ((c.toNat : Int) % 128) = ((m * 128 + c.toNat % 128 : Nat) : Int)) := ho
            clear ho
            have HD2 := Lib.hid hd
            clear hd
            go_wp2
            rw [HD2.out, HO.out]
            refine ⟨⟨k + 1, m * 128 + c.toNat % 128, by go_num, rfl, HR.out.drewN _, grown_drewN HG.out _, .inl ⟨rfl, by omega, by omega, HB1.out, HN.out⟩⟩, ?_⟩
            simp [intOf]; omega
          · have HN : Hid (Vi.scan 9 0 0 (s.data.toList.drop p) = (m * 128 + c.toNat % 128, k + 1, 0)) := by
              show _ = _
              rw [← HSC.out, HD.out, HF.out, scan_end hge]
            have hd : decide ((c.toNat : Int) < 128) = true := by simp; omega
            have HO : Hid (bits .or .i64 ((m : Int) * 128) ((c.toNat : Int) % 128) = ((m * 128 + c.toNat % 128 : Nat) : Int)) := ho
            clear ho
            have HD2 := Lib.hid hd
            clear hd
            go_wp2
            rw [HD2.out, HO.out]
            refine ⟨⟨k + 1, m * 128 + c.toNat % 128, by go_num, rfl, HR.out.drewN _, grown_drewN HG.out _, .inr ⟨rfl, by omega, by omega, by omega, HN.out⟩⟩, ?_⟩
            simp [intOf]; omega
      · obtain rfl : k = 9 := by omega
        have HRD : Hid (Vi.rd (s.data.toList.drop p) = (0, 0, 11)) := by
          show _ = _
          exact rd_err' HSC.out.symm (by decide)
        clear hk hk9
        go_wp2_with fail
        refine (fail_any g s p 11 _ HR.out).mono ?_
        rintro e w2 ⟨rfl, rfl⟩
        go_wp2
        go_ret
        exact retRead_of HRD.out rfl (HR.out.err 11) (grown_join HG.out (grown_put _ _ _ _))
    · have HSC := Lib.hid hsc
      have hlt : p < s.size := by omega
      have c0 := HR.out.c0
      have c1 := HR.out.c1
      have HH : Hid (Vi.head (s.data.toList.drop p) = s[p].toNat) := by
        show _ = _
        rw [drop_at s p hlt]; rfl
      clear hsc
      have q2 : (0 : Int) ≤ (p : Int) := by omega
      have q3 : ((p : Int)).toNat = p := by omega
      have q4 : (p : Int) < (s.size : Int) := by omega
      go_wp2_with fail
      go_quiet (fail)
      generalize s[p] = c at HH ⊢
      clear q2 q3 q4
      by_cases hh : c.toNat = 128
      · have HRD : Hid (Vi.rd (s.data.toList.drop p) = (0, 0, 11)) := by
          show _ = _
          exact rd_no HSC.out (.inl (by rw [HH.out]; exact hh))
        have hb0 : ((c.toNat : Int) == 128) = true := by rw [hh]; rfl
        clear hh
        go_wp2_with fail
        refine (fail_any g s p 11 _ (HR.out.drewN nq)).mono ?_
        rintro e w2 ⟨rfl, rfl⟩
        go_wp2
        go_ret
        exact retRead_of HRD.out rfl ((HR.out.drewN nq).err 11) (grown_join (grown_drewN HG.out nq) (grown_put _ _ _ _))
      · have hb0 : ((c.toNat : Int) == 128) = false := by rw [beq_eq_false_iff_ne]; omega
        have HHN : Hid (Vi.head (s.data.toList.drop p) ≠ 128) := by
          show _ ≠ _
          rw [HH.out]; exact hh
        clear hh
        by_cases hodd : m % 2 = 1
        · have hbo : (bits .and .i64 (m : Int) 1 == 1) = true := by rw [and_one m hm, hodd]; rfl
          have HU0 : Vi.unzig m = -((m : Int) / 2) - 1 := by unfold Vi.unzig; rw [if_pos hodd]; omega
          have HU := Lib.hid HU0
          clear HU0
          go_wp2_with fail
          refine (inRange_any _ _).mono ?_
          rintro e w2 ⟨rfl, rfl⟩
          cases hin : Vi.inR (-((m : Int) / 2) - 1) with
          | false =>
            have HRD : Hid (Vi.rd (s.data.toList.drop p) = (0, 0, 11)) := by
              show _ = _
              exact rd_no HSC.out (.inr (by rw [HU.out]; exact hin))
            clear hin
            go_wp2_with fail
            refine (fail_any g s p 11 _ (HR.out.drewN nq)).mono ?_
            rintro e w2 ⟨rfl, rfl⟩
            go_wp2
            go_ret
            exact retRead_of HRD.out rfl ((HR.out.drewN nq).err 11) (grown_join (grown_drewN HG.out nq) (grown_put _ _ _ _))
          | true =>
            have HRD : Hid (Vi.rd (s.data.toList.drop p) = (-((m : Int) / 2) - 1, k, 0)) := by
              show _ = _
              have e := rd_yes HSC.out HHN.out (by rw [HU.out]; exact hin)
              rw [HU.out] at e
              exact e
            have cf : wr.frozen? ⟨g, 1, none⟩ = false := Bk.free HR.out 1
            clear hin
            go_wp2
            go_ret
            exact retRead_of HRD.out rfl (by have h := (HR.out.drewN nq).go ((p : Int) + (k : Int)); rwa [← Int.natCast_add] at h) (grown_join (grown_drewN HG.out nq) (grown_put _ _ _ _))
        · have hbo : (bits .and .i64 (m : Int) 1 == 1) = false := by rw [and_one m hm]; rw [beq_eq_false_iff_ne]; omega
          have HU0 : Vi.unzig m = (m : Int) / 2 := by unfold Vi.unzig; rw [if_neg hodd]
          have HU := Lib.hid HU0
          clear HU0
          go_wp2_with fail
          refine (inRange_any _ _).mono ?_
          rintro e w2 ⟨rfl, rfl⟩
          cases hin : Vi.inR ((m : Int) / 2) with
          | false =>
            have HRD : Hid (Vi.rd (s.data.toList.drop p) = (0, 0, 11)) := by
              show _ = _
              exact rd_no HSC.out (.inr (by rw [HU.out]; exact hin))
            clear hin
            go_wp2_with fail
            refine (fail_any g s p 11 _ (HR.out.drewN nq)).mono ?_
            rintro e w2 ⟨rfl, rfl⟩
            go_wp2
            go_ret
            exact retRead_of HRD.out rfl ((HR.out.drewN nq).err 11) (grown_join (grown_drewN HG.out nq) (grown_put _ _ _ _))
          | true =>
            have HRD : Hid (Vi.rd (s.data.toList.drop p) = ((m : Int) / 2, k, 0)) := by
              show _ = _
              have e := rd_yes HSC.out HHN.out (by rw [HU.out]; exact hin)
              rw [HU.out] at e
              exact e
            have cf : wr.frozen? ⟨g, 1, none⟩ = false := Bk.free HR.out 1
            clear hin
            go_wp2
            go_ret
            exact retRead_of HRD.out rfl (by have h := (HR.out.drewN nq).go ((p : Int) + (k : Int)); rwa [← Int.natCast_add] at h) (grown_join (grown_drewN HG.out nq) (grown_put _ _ _ _))
end Go.Proofs.Ytlknjdfiedkhbaa
namespace Go.Proofs.Ytlknjdfiedkhbaa
open Go Go.RowKit

theorem rdr_new (w : World) (s : ByteArray) : Rdr (w.alloc (.cells #[.string s, .int .i64 0, .int .i64 0] 119)) w.heap.size s ((0 : Nat) : Int) 0 := Bk.new w _ _
theorem below_new {w w' : World} {o : Obj} (h : (w.alloc o).grownBy w' (some w.heap.size)) : Below w.heap.size w w' :=
  below_grown ((Below.refl _ _).alloc (Nat.le_refl _) o) h (Nat.le_refl _) (by rw [World.size_alloc]; omega)

set_option maxHeartbeats 1000000 in
theorem readInt_any (s : ByteArray) (hs : s.size ≤ maxLen) (w : World) :
    Calls Try.prog 71 #[.string s] w fun e w' => e = .returned (.tuple #[.int .i64 (rd3 s.data.toList).1, .int .i64 (rd3 s.data.toList).2.1, .int .i64 (rd3 s.data.toList).2.2]) ∧ Below w.heap.size w w' := by
  have hi := integer_any w.heap.size s 0 _ (rdr_new w s) (Nat.zero_le _) hs
  have HE : Hid ((Vi.rd s.data.toList).2.2 ≠ 0 → (Vi.rd s.data.toList).1 = 0 ∧ (Vi.rd s.data.toList).2.1 = 0) := Vi.rd_err
  unfold rd3
  unfold RetRead at hi
  rw [List.drop_zero, Nat.zero_add] at hi
  generalize Vi.rd s.data.toList = q at hi HE ⊢
  obtain ⟨n, k, er⟩ := q
  simp only at hi HE ⊢
  have HI := Lib.hid hi
  clear hi
  go_enter Try.func71, Try.ntmps71
  go_wp2_with fail
  refine HI.out.mono ?_
  rintro e w1 ⟨rfl, hR, hG⟩
  have HB := Lib.hid (below_new hG)
  clear hG HI
  have c1 := hR.c1
  have c2 := hR.c2
  clear hR
  by_cases he : er = 0
  · subst he
    go_wp2
    go_quiet (fail)
    go_wp2
    go_ret3
    exact ⟨by rfl, below_drawN HB.out _⟩
  · obtain ⟨h1, h2⟩ := HE.out he
    have heb : (er != 0) = true := by rw [bne_iff_ne]; exact he
    subst h1 h2
    have HE2 := Lib.hid he
    clear he HE
    go_wp2
    go_quiet (fail)
    go_wp2
    go_ret3
    exact ⟨by rfl, below_drawN HB.out _⟩
end Go.Proofs.Ytlknjdfiedkhbaa
namespace Go.Proofs.Ytlknjdfiedkhbaa
open Go Go.RowKit

/-- what a length is read as -/
def rlen3 (l : List UInt8) : Int × Int × Int := ((Vi.rlen l).1, ((Vi.rlen l).2.1 : Int), (Vi.rlen l).2.2)
theorem rlen3_ok {l : List UInt8} (h : (rd3 l).2.2 = 0) (h2 : 0 ≤ (rd3 l).1) (h3 : (rd3 l).1 ≤ 65536) : rlen3 l = ((rd3 l).1, (rd3 l).2.1, 0) := by
  unfold rd3 at *; unfold rlen3 Vi.rlen; rw [if_pos h, if_pos ⟨h2, h3⟩]
theorem rlen3_no {l : List UInt8} (h : (rd3 l).2.2 = 0) (h2 : ¬ (0 ≤ (rd3 l).1 ∧ (rd3 l).1 ≤ 65536)) : rlen3 l = (0, 0, 11) := by
  unfold rd3 at *; unfold rlen3 Vi.rlen; rw [if_pos h, if_neg h2]; rfl
theorem rlen3_err {l : List UInt8} (h : ¬ (rd3 l).2.2 = 0) : rlen3 l = (0, 0, (rd3 l).2.2) := by
  unfold rd3 at *; unfold rlen3 Vi.rlen; rw [if_neg h]; rfl

set_option maxHeartbeats 1000000 in
theorem lengthR_any (s : ByteArray) (hs : s.size ≤ maxLen) (w : World) :
    Calls Try.prog 74 #[.string s] w fun e w' => e = .returned (.tuple #[.int .i64 (rlen3 s.data.toList).1, .int .i64 (rlen3 s.data.toList).2.1, .int .i64 (rlen3 s.data.toList).2.2]) ∧ w = w' := by
  have r1 := @rlen3_ok s.data.toList
  have r2 := @rlen3_no s.data.toList
  have r3 := @rlen3_err s.data.toList
  by_cases he : (rd3 s.data.toList).2.2 = 0
  · have HE := Lib.hid he
    by_cases h0 : (rd3 s.data.toList).1 < 0
    · have HR := Lib.hid (r2 he (by omega))
      clear r1 r2 r3 he
      go_enter Try.func74, Try.ntmps74
      go_wp2_with fail
      refine (readIntR_any s hs _).mono ?_
      rintro e w' ⟨rfl, rfl⟩
      rw [HE.out]
      go_wp2
      go_ret3
      exact ⟨three_i HR.out.symm, rfl⟩
    · by_cases h1 : 65536 < (rd3 s.data.toList).1
      · have HR := Lib.hid (r2 he (by omega))
        clear r1 r2 r3 he
        go_enter Try.func74, Try.ntmps74
        go_wp2_with fail
        refine (readIntR_any s hs _).mono ?_
        rintro e w' ⟨rfl, rfl⟩
        rw [HE.out]
        go_wp2
        go_ret3
        exact ⟨three_i HR.out.symm, rfl⟩
      · have HR := Lib.hid (r1 he (by omega) (by omega))
        clear r1 r2 r3 he
        go_enter Try.func74, Try.ntmps74
        go_wp2_with fail
        refine (readIntR_any s hs _).mono ?_
        rintro e w' ⟨rfl, rfl⟩
        rw [HE.out]
        go_wp2
        go_ret3
        exact ⟨three_i HR.out.symm, rfl⟩
  · have hb : ((rd3 s.data.toList).2.2 != 0) = true := by rw [bne_iff_ne]; exact he
    have HR := Lib.hid (r3 he)
    clear r1 r2 r3 he
    go_enter Try.func74, Try.ntmps74
    go_wp2_with fail
    refine (readIntR_any s hs _).mono ?_
    rintro e w' ⟨rfl, rfl⟩
    go_wp2
    go_ret3
    exact ⟨three_i HR.out.symm, rfl⟩

theorem three_s {a a' : ByteArray} {b c b' c' : Int} (h : a = a') (h1 : b = b') (h2 : c = c') : Ending.returned (.tuple #[.string a, .int .i64 b, .int .i64 c]) = .returned (.tuple #[.string a', .int .i64 b', .int .i64 c']) := by rw [h, h1, h2]
/-- what ReadText hands back -/
def RetText (w : World) (l : List UInt8) (e : Ending) (w' : World) : Prop := e = .returned (.tuple #[.string (str (Vi.rtext l).1), .int .i64 ((Vi.rtext l).2.1 : Int), .int .i64 (Vi.rtext l).2.2]) ∧ Below w.heap.size w w'
theorem rtext_of {l : List UInt8} {x : List UInt8} {k : Nat} {e : Int} (h : Vi.rtext l = (x, k, e)) {a : ByteArray} {b c : Int} (ha : a = str x) (hb : b = (k : Int)) (hc : c = e) :
    Ending.returned (.tuple #[.string a, .int .i64 b, .int .i64 c]) = .returned (.tuple #[.string (str (Vi.rtext l).1), .int .i64 ((Vi.rtext l).2.1 : Int), .int .i64 (Vi.rtext l).2.2]) := by
  rw [h, ha, hb, hc]
theorem extract_list (s : ByteArray) (a b : Nat) : (s.extract a b).data.toList = (s.data.toList.drop a).take (b - a) := by
  simp [Array.toList_extract]
theorem extract_str (s : ByteArray) (a b : Nat) : s.extract a b = str ((s.data.toList.drop a).take (b - a)) := by
  rw [← extract_list, str_self]
theorem rlen_bounds {l : List UInt8} (h : (Vi.rlen l).2.2 = 0) : 0 ≤ (Vi.rlen l).1 ∧ (Vi.rlen l).1 ≤ 65536 ∧ 1 ≤ (Vi.rlen l).2.1 ∧ (Vi.rlen l).2.1 ≤ l.length := by
  obtain ⟨h1, h2, h3, h4⟩ := Vi.rlen_ok h
  obtain ⟨_, c2, c3, _⟩ := Vi.rd_range l h1
  rw [h2]
  exact ⟨h3, h4, c2, c3⟩
theorem rtext_short' {l : List UInt8} (h : (Vi.rlen l).2.2 = 0) (h2 : (l.length : Int) - (Vi.rlen l).2.1 < (Vi.rlen l).1) : Vi.rtext l = ([], 0, 12) := by unfold Vi.rtext; rw [if_pos h, if_pos h2]
theorem rtext_ok' {l : List UInt8} (h : (Vi.rlen l).2.2 = 0) (h2 : ¬ (l.length : Int) - (Vi.rlen l).2.1 < (Vi.rlen l).1) : Vi.rtext l = ((l.drop (Vi.rlen l).2.1).take (Vi.rlen l).1.toNat, (Vi.rlen l).2.1 + (Vi.rlen l).1.toNat, 0) := by unfold Vi.rtext; rw [if_pos h, if_neg h2]
theorem rtext_err' {l : List UInt8} (h : ¬ (Vi.rlen l).2.2 = 0) : Vi.rtext l = ([], 0, (Vi.rlen l).2.2) := by unfold Vi.rtext; rw [if_neg h]

set_option maxHeartbeats 1000000 in
theorem readTextR_any (s : ByteArray) (hs : s.size ≤ maxLen) (w : World) :
    Calls Try.prog 64 #[.string s] w (RetText w s.data.toList) := by
  have hm := hs
  unfold maxLen at hs
  have hl : s.data.toList.length = s.size := by simp
  have HLEN := Lib.hid (show ∀ (w : World), Calls Try.prog 74 #[.string s] w fun e w' => e = .returned (.tuple #[.int .i64 (Vi.rlen s.data.toList).1, .int .i64 ((Vi.rlen s.data.toList).2.1 : Int), .int .i64 (Vi.rlen s.data.toList).2.2]) ∧ w = w' from fun w => lengthR_any s hm w)
  have t1 := @rtext_short' s.data.toList
  have t2 := @rtext_ok' s.data.toList
  have t3 := @rtext_err' s.data.toList
  have tb := @rlen_bounds s.data.toList
  rw [hl] at t1 t2 tb
  clear hl
  generalize (Vi.rlen s.data.toList).1 = n at *
  generalize (Vi.rlen s.data.toList).2.1 = k at *
  generalize (Vi.rlen s.data.toList).2.2 = er at *
  by_cases he : er = 0
  · obtain ⟨b1, b2, b3, b4⟩ := tb he
    obtain ⟨n, rfl⟩ := Int.eq_ofNat_of_zero_le b1
    by_cases hsh : (s.size : Int) - k < (n : Int)
    · have HR := Lib.hid (t1 he hsh)
      have HE := Lib.hid he
      clear t1 t2 t3 he tb
      go_enter Try.func64, Try.ntmps64
      go_wp2_with fail
      refine (HLEN.out _).mono ?_
      rintro e w' ⟨rfl, rfl⟩
      rw [HE.out]
      go_wp2
      go_ret3
      exact ⟨rtext_of HR.out rfl rfl rfl, Below.refl _ _⟩
    · have HR := Lib.hid (t2 he hsh)
      have HE := Lib.hid he
      clear t1 t2 t3 he tb
      go_enter Try.func64, Try.ntmps64
      go_wp2_with fail
      refine (HLEN.out _).mono ?_
      rintro e w' ⟨rfl, rfl⟩
      rw [HE.out]
      go_wp2
      go_ret3
      refine ⟨rtext_of HR.out ?_ ?_ rfl, Below.refl _ _⟩
      · rw [Int.toNat_natCast, extract_str, Nat.add_sub_cancel_left]
      · rw [Int.toNat_natCast]; omega
  · have hb : (er != 0) = true := by rw [bne_iff_ne]; exact he
    have HR := Lib.hid (t3 he)
    clear t1 t2 t3 he tb
    go_enter Try.func64, Try.ntmps64
    go_wp2_with fail
    refine (HLEN.out _).mono ?_
    rintro e w' ⟨rfl, rfl⟩
    go_wp2
    go_ret3
    exact ⟨rtext_of HR.out rfl rfl rfl, Below.refl _ _⟩
end Go.Proofs.Ytlknjdfiedkhbaa
namespace Go.Proofs.Ytlknjdfiedkhbaa
open Go Go.RowKit

/-- what reading a length leaves -/
def RetLen (w : World) (g : Nat) (s : ByteArray) (p : Nat) (e : Ending) (w' : World) : Prop :=
  e = .returned (.int .i64 (Vi.rlen (s.data.toList.drop p)).1) ∧ w.grownBy w' (some g) ∧ ∃ q : Nat, q ≤ s.size ∧ Rdr w' g s (q : Int) (Vi.rlen (s.data.toList.drop p)).2.2 ∧ ((Vi.rlen (s.data.toList.drop p)).2.2 = 0 → q = p + (Vi.rlen (s.data.toList.drop p)).2.1)

theorem retLen_of {w : World} {g : Nat} {s : ByteArray} {p : Nat} {n : Int} {k : Nat} {er : Int} {w' : World} (h : Vi.rlen (s.data.toList.drop p) = (n, k, er)) {x : Int} (hx : x = n) (hg : w.grownBy w' (some g)) (q : Nat) (hq : q ≤ s.size) (hR : Rdr w' g s (q : Int) er) (he : er = 0 → q = p + k) : RetLen w g s p (.returned (.int .i64 x)) w' := by
  unfold RetLen
  rw [h, hx]
  exact ⟨rfl, hg, q, hq, hR, he⟩
theorem rlen_a {l : List UInt8} {n : Int} {k : Nat} (h : Vi.rd l = (n, k, 0)) (h1 : 0 ≤ n) (h2 : n ≤ 65536) : Vi.rlen l = (n, k, 0) := by
  unfold Vi.rlen
  rw [h]
  simp only [if_true]
  rw [if_pos ⟨h1, h2⟩]
theorem rlen_b {l : List UInt8} {n : Int} {k : Nat} (h : Vi.rd l = (n, k, 0)) (h1 : ¬ (0 ≤ n ∧ n ≤ 65536)) : Vi.rlen l = (0, 0, 11) := by
  unfold Vi.rlen
  rw [h]
  simp only [if_true]
  rw [if_neg h1]
theorem rlen_c {l : List UInt8} {n : Int} {k : Nat} {er : Int} (h : Vi.rd l = (n, k, er)) (h1 : er ≠ 0) : Vi.rlen l = (0, 0, er) := by
  unfold Vi.rlen
  rw [h]
  simp only
  rw [if_neg h1]

set_option maxHeartbeats 1000000 in
theorem length_any (g : Nat) (s : ByteArray) (p : Nat) (w : World) (hB : Rdr w g s p 0) (hp : p ≤ s.size) (hs : s.size ≤ maxLen) :
    Calls Try.prog 79 #[.pointer (some ⟨g, 0, none⟩)] w (RetLen w g s p) := by
  have hi := integer_any g s p _ hB hp hs
  have he := Vi.rd_err (l := s.data.toList.drop p)
  have hrg : (Vi.rd (s.data.toList.drop p)).2.2 = 0 → p + (Vi.rd (s.data.toList.drop p)).2.1 ≤ s.size := fun h => by
    have h3 := (Vi.rd_range _ h).2.2.1
    rw [List.length_drop] at h3
    have hl : s.data.toList.length = s.size := by simp
    omega
  clear hB
  unfold RetRead at hi
  generalize hrd : Vi.rd (s.data.toList.drop p) = q at hi he hrg
  obtain ⟨n, k, er⟩ := q
  simp only at hi he hrg
  have HI := Lib.hid hi
  have HE := Lib.hid he
  have HRG := Lib.hid hrg
  have HRD := Lib.hid hrd
  clear hi he hrg hrd
  go_enter Try.func79, Try.ntmps79
  go_wp2_with fail
  refine HI.out.mono ?_
  rintro e w1 ⟨rfl, hR, hG⟩
  have HR := Lib.hid hR
  have HG := Lib.hid hG
  clear hG HI hR
  by_cases he : er = 0
  · subst he
    have hq := HRG.out rfl
    by_cases h0 : n < 0
    · have HL := Lib.hid (rlen_b HRD.out (by omega))
      go_wp2_with fail
      refine (fail_any g s _ 11 _ HR.out).mono ?_
      rintro e w2 ⟨rfl, rfl⟩
      go_wp2
      go_ret
      exact retLen_of HL.out rfl (grown_join HG.out (grown_put _ _ _ _)) (p + k) hq (HR.out.err 11) (fun h => absurd h (by decide))
    · by_cases h1 : 65536 < n
      · have HL := Lib.hid (rlen_b HRD.out (by omega))
        go_wp2_with fail
        refine (fail_any g s _ 11 _ HR.out).mono ?_
        rintro e w2 ⟨rfl, rfl⟩
        go_wp2
        go_ret
        exact retLen_of HL.out rfl (grown_join HG.out (grown_put _ _ _ _)) (p + k) hq (HR.out.err 11) (fun h => absurd h (by decide))
      · have HL := Lib.hid (rlen_a HRD.out (by omega) (by omega))
        go_wp2
        go_ret
        exact retLen_of HL.out rfl HG.out (p + k) hq HR.out (fun _ => rfl)
  · obtain ⟨h1, h2⟩ := HE.out he
    subst h1 h2
    have HL := Lib.hid (rlen_c HRD.out he)
    have HE2 := Lib.hid he
    clear he HE
    go_wp2
    go_ret
    exact retLen_of HL.out rfl HG.out p hp HR.out (fun h => absurd h HE2.out)

set_option maxHeartbeats 1000000 in
theorem readText_any (s : ByteArray) (hs : s.size ≤ maxLen) (w : World) :
    Calls Try.prog 73 #[.string s] w (RetText w s.data.toList) := by
  have hm := hs
  unfold maxLen at hs
  have hl : s.data.toList.length = s.size := by simp
  have hi := length_any w.heap.size s 0 _ (rdr_new w s) (Nat.zero_le _) hm
  unfold RetLen at hi
  rw [List.drop_zero] at hi
  have t1 := @rtext_short' s.data.toList
  have t2 := @rtext_ok' s.data.toList
  have t3 := @rtext_err' s.data.toList
  have hbd := @rlen_bounds s.data.toList
  have hzr : (Vi.rlen s.data.toList).2.2 ≠ 0 → (Vi.rlen s.data.toList).1 = 0 := fun h => by
    unfold Vi.rlen at h ⊢
    split
    · rename_i h1
      rw [if_pos h1] at h
      split
      · rename_i h2; rw [if_pos h2] at h; exact absurd rfl h
      · rfl
    · rfl
  rw [hl] at t1 t2 hbd
  clear hl
  generalize Vi.rlen s.data.toList = r at hi t1 t2 t3 hbd hzr
  obtain ⟨n, k, er⟩ := r
  simp only [Nat.zero_add] at hi t1 t2 t3 hbd hzr
  have HI := Lib.hid hi
  clear hi
  have T1 := Lib.hid t1
  have T2 := Lib.hid t2
  have T3 := Lib.hid t3
  have HBD := Lib.hid hbd
  have HZR := Lib.hid hzr
  clear t1 t2 t3 hbd hzr
  go_enter Try.func73, Try.ntmps73
  go_wp2_with fail
  refine HI.out.mono ?_
  rintro e w1 ⟨rfl, hG, q, hq, hR, hqe⟩
  have HB := Lib.hid (below_new hG)
  have HR := Lib.hid hR
  clear hG HI hR
  by_cases he : er = 0
  · subst he
    obtain rfl := hqe rfl
    obtain ⟨b1, b2, b3, b4⟩ := HBD.out rfl
    obtain ⟨m, rfl⟩ := Int.eq_ofNat_of_zero_le b1
    clear hqe
    go_wp2_with fail
    refine (rest_any w.heap.size s q 0 _ HR.out hq hm).mono ?_
    rintro e w2 ⟨rfl, nd, rfl⟩
    have HR2 := Lib.hid (HR.out.drewN nd)
    have HB2 := Lib.hid (below_drawN HB.out nd)
    generalize w1.drewN nd = w2 at HR2 HB2 ⊢
    clear HR HB
    by_cases hsh : (s.size : Int) - q < m
    · have E := Lib.hid (T1.out trivial hsh)
      go_wp2_with fail
      refine (fail_any w.heap.size s _ 12 _ HR2.out).mono ?_
      rintro e w3 ⟨rfl, rfl⟩
      have HR3 := Lib.hid (HR2.out.err 12)
      have HB3 := Lib.hid (HB2.out.setCell (p := ⟨w.heap.size, 2, none⟩) (Nat.le_refl _) (.int .i64 12))
      generalize w2.setCell ⟨w.heap.size, 2, none⟩ (.int .i64 12) = w3 at HR3 HB3 ⊢
      have c2 := HR3.out.c2
      clear HR2 HB2
      go_wp2
      go_quiet (fail)
      go_wp2
      go_ret3
      exact ⟨rtext_of E.out rfl rfl rfl, below_drawN HB3.out _⟩
    · have E := Lib.hid (T2.out trivial (by omega))
      have c1 := HR2.out.c1
      have c2 := HR2.out.c2
      have hle : q + m ≤ s.size := by omega
      have hw : IntKind.i64.wrap ((q : Int) + (m : Int)) = (q : Int) + (m : Int) := by rw [IntKind.wrap_i64]; omega
      have hw2 : ((q : Int) + (m : Int)).toNat = q + m := by omega
      go_wp2
      go_quiet (fail)
      go_wp2
      go_ret3
      exact ⟨rtext_of E.out (by rw [extract_str, Nat.add_sub_cancel_left, Int.toNat_natCast]) (by simp) rfl, below_drawN HB2.out _⟩
  · have hz := HZR.out he
    subst hz
    have E := Lib.hid (T3.out he)
    have heb : (er != 0) = true := by rw [bne_iff_ne]; exact he
    have HE2 := Lib.hid he
    clear he hqe
    go_wp2_with fail
    refine (rest_any w.heap.size s q er _ HR.out hq hm).mono ?_
    rintro e w2 ⟨rfl, nd, rfl⟩
    have HR2 := Lib.hid (HR.out.drewN nd)
    have HB2 := Lib.hid (below_drawN HB.out nd)
    generalize w1.drewN nd = w2 at HR2 HB2 ⊢
    clear HR HB
    have c2 := HR2.out.c2
    have hnl : ¬ (s.size : Int) - q < 0 := by omega
    go_wp2
    go_quiet (fail)
    go_wp2
    go_ret3
    exact ⟨rtext_of E.out rfl rfl rfl, below_drawN HB2.out _⟩
end Go.Proofs.Ytlknjdfiedkhbaa
