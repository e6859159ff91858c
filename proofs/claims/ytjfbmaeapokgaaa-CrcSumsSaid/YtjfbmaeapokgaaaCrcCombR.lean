/- The reference's Combine, walked. No condition. -/
import Derived.Test.YtjfbmaeapokgaaaCrcComb
import Derived.Test.YtjfbmaeapokgaaaCrcMatR
namespace Go.Proofs.Ytjfbmaeapokgaaa
open Go Go.RowKit
open Crc (stepN step1 app)

theorem wrap64_small {n : Int} (h0 : 0 ≤ n) (h1 : n < 9223372036854775808) : wrap64 n = n := by unfold wrap64; omega
/-- what the reference's Combine keeps in its second loop -/
def CombR (A : Option Addr) (r : Nat) (w wr : World) (n res : Nat) : Prop :=
  ∃ j : Nat, IntsAt wr A (matL j) ∧ r < 4294967296 ∧ stepN (j * n) r = res ∧ Below w.heap.size w wr

set_option maxHeartbeats 4000000 in
set_option maxRecDepth 100000 in
theorem combineR_good (a b n : Nat) (ha : a < 4294967296) (hb : b < 4294967296) (hn : n ≤ 1152921504606846976) (w : World) :
    Calls Try.prog 18 #[.int .i64 (a : Int), .int .i64 (b : Int), .int .i64 (n : Int)] w fun e w' => e = .returned (.tuple #[.int .i64 ((Crc.combine a b n : Nat) : Int), .int .i64 0]) ∧ Below w.heap.size w w' := by
  obtain ⟨i0, hi0, hz0, hz1, hz2⟩ := info_parts infoI
  have hcb : Crc.combine a b n = stepN (8 * n) a ^^^ b := rfl
  rw [hcb]
  clear hcb
  have hres := Crc.stepN_lt (8 * n) a ha
  generalize hr0 : stepN (8 * n) a = res at hres ⊢
  have HR := Lib.hid hr0
  clear hr0
  have HC : Hid (∀ (k v : Nat), k < 32 → 2 ^ k = v → ∀ w, Calls Try.prog 26 #[.int .i64 (v : Int)] w fun e w' => e = .returned (.int .i64 ((stepN 1 (2 ^ k) : Nat) : Int)) ∧ w = w') := fun k v hk hv w => by
    subst hv
    exact stepR_any (2 ^ k) (pow_lt k hk) w
  generalize hF : (fun i : Nat => ((stepN 1 (2 ^ i) : Nat) : Int)) = F
  have HF := Lib.hid hF
  clear hF
  go_enter Try.func18, Try.ntmps18
  go_wp2
  have HI0 : Hid (RowK F w (w.alloc (.cells #[] 3)) (.slice (some ⟨w.heap.size, 0, none⟩) 0 0) 0) := ⟨World.ownsRow_made w #[] 0 (Nat.le_refl _) (by decide) rfl, (Below.refl _ _).alloc (Nat.le_refl _) _⟩
  generalize w.alloc (.cells #[] 3) = W at HI0 ⊢
  go_loopw [8, 9] (fun v i wr => ∃ k : Nat, k ≤ 32 ∧ i = .int .i64 k ∧ RowK F w wr v k) (fun _ i _ => 32 - (intOf i).toNat)
  case atStart => exact ⟨0, by omega, rfl, HI0.out⟩
  case round =>
    clear HI0
    obtain ⟨k, hk, rfl, hinv⟩ := hrel
    obtain ⟨Av, cv, rfl, hat⟩ := rowK_form hinv
    have HX := Lib.hid hinv
    have HT := Lib.hid hat
    clear hinv hat
    by_cases hlt : k < 32
    · obtain ⟨v, hv, hv32⟩ := shl32 k hlt
      have hsh : wrap64 ((2 : Int) ^ k) = (v : Int) := by
        rw [← hv]; rw [← hv] at hv32
        have h : ((2 ^ k : Nat) : Int) < 4294967296 := by omega
        have h0 : (0 : Int) ≤ ((2 ^ k : Nat) : Int) := by omega
        have e : (2 : Int) ^ k = ((2 ^ k : Nat) : Int) := by simp
        rw [e]
        exact wrap64_small h0 (by omega)
      have HCk := Lib.hid (HC.out k v hlt hv)
      have HFk := Lib.hid (congrFun HF.out k)
      generalize ((stepN 1 (2 ^ k) : Nat) : Int) = x at HCk HFk
      clear hv
      go_wp2_with fail
      refine (HCk.out _).mono ?_
      rintro e w2 ⟨rfl, rfl⟩
      clear hsh
      go_wp2_with (at_builtin; refine wpList_append_own _ rfl _ _ 52 rfl w.heap.size 3 i0 (.int .i64 0) 1 8 Try.underlying52 hi0 hz0 hz1 hz2 rfl (by decide) _ k (intV ((List.range k).map F)) rfl (HX.out.1.alloc _) ⟨wr.heap.size, 0, none⟩ 1 1 [.int .i64 x] rfl rfl ?c1 ?c2 ?c3 ?c4 ?c5 ?_)
      case c1 => exact cell_one_new _ _ _
      case c2 => simp [Value.oneCell']
      case c3 => unfold maxLen; omega
      case c4 => omega
      case c5 => have := HX.out.2.size; simp; omega
      intro v' w3 hown' hg3 _
      have HN := Lib.hid (rowK_next HFk.out.symm HX.out hown' hg3)
      clear hown' hg3
      go_wp2
      go_roundw
      case rel => exact ⟨k + 1, by omega, by go_num, HN.out⟩
      case measure => simp [intOf]; omega
    · have HK : Hid (k = 32) := by show k = 32; omega
      have hA1 : Hid (IntsAt wr Av (matL 1)) := by
        obtain ⟨A2, c2, h1, h2⟩ := rowK_form HX.out
        cases h1
        have e := HK.out
        subst e
        rw [← HF.out] at h2
        exact h2
      have HB := Lib.hid HX.out.2
      clear HX HT
      obtain rfl : k = 32 := HK.out
      go_wp2_with fail
      refine (squareR_any Av cv 1 _ hA1.out).mono ?_
      rintro e w1 ⟨A1, c1, rfl, hA, hb1⟩
      replace HB := Lib.hid (HB.out.trans (hb1.mono HB.out.size))
      replace hA1 := Lib.hid hA
      clear hb1 hA
      go_wp2_with fail
      refine (squareR_any A1 c1 (1 + 1) _ hA1.out).mono ?_
      rintro e w2 ⟨A2, c2, rfl, hA, hb1⟩
      replace HB := Lib.hid (HB.out.trans (hb1.mono HB.out.size))
      replace hA1 := Lib.hid hA
      clear hb1 hA
      go_wp2_with fail
      refine (squareR_any A2 c2 (1 + 1 + (1 + 1)) _ hA1.out).mono ?_
      rintro e w3 ⟨A3, c3, rfl, hA, hb1⟩
      replace HB := Lib.hid (HB.out.trans (hb1.mono HB.out.size))
      have HI : Hid (CombR A3 a w w3 n res) := ⟨8, hA, ha, HR.out, HB.out⟩
      clear hb1 hA HB hA1
      go_wp2
      go_loopw [0, 2, 8] (fun ra m v wr2 => ∃ (r n2 : Nat) (A : Option Addr) (c : Nat), ra = .int .i64 (r : Int) ∧ m = .int .i64 (n2 : Int) ∧ v = .slice A 32 c ∧ n2 ≤ 1152921504606846976 ∧ CombR A r w wr2 n2 res) (fun _ m _ _ => (intOf m).toNat)
      case atStart => exact ⟨a, n, _, _, rfl, rfl, rfl, hn, HI.out⟩
      case round =>
        clear HI
        obtain ⟨r, n2, A, c, rfl, rfl, rfl, hn2, hinv⟩ := hrel
        obtain ⟨j, h0, hr, he, hb4⟩ := hinv
        have HA0 := Lib.hid h0
        have HE := Lib.hid he
        have HB := Lib.hid hb4
        clear h0 he hb4
        by_cases hlt : 0 < n2
        · by_cases ho : n2 % 2 = 1
          · have hb1 : ((n2 : Int) % 2 == 1) = true := by rw [beq_iff_eq]; omega
            have HE2 := Lib.hid (steps_on HE.out)
            rw [if_pos ho] at HE2
            have hl2 := Crc.stepN_lt j r hr
            go_wp2_with fail
            refine (applyR_any A c j r hr _ HA0.out).mono ?_
            rintro e w4 ⟨rfl, rfl⟩
            generalize stepN j r = r2 at HE2 hl2 ⊢
            go_wp2_with fail
            refine (squareR_any A c j _ HA0.out).mono ?_
            rintro e w5 ⟨A5, c5, rfl, hA, hb5⟩
            have HN : Hid (CombR A5 r2 w w5 (n2 / 2) res) := ⟨_, hA, hl2, HE2.out, HB.out.trans (hb5.mono HB.out.size)⟩
            clear hb5 hA hl2
            go_wp2
            go_roundw
            case rel => exact ⟨r2, n2 / 2, A5, c5, rfl, by go_num, rfl, by omega, HN.out⟩
            case measure => simp [intOf]; omega
          · have hb1 : ((n2 : Int) % 2 == 1) = false := by rw [beq_eq_false_iff_ne]; omega
            have HE2 := Lib.hid (steps_on HE.out)
            rw [if_neg ho] at HE2
            go_wp2_with fail
            refine (squareR_any A c j _ HA0.out).mono ?_
            rintro e w5 ⟨A5, c5, rfl, hA, hb5⟩
            have HN : Hid (CombR A5 r w w5 (n2 / 2) res) := ⟨_, hA, hr, HE2.out, HB.out.trans (hb5.mono HB.out.size)⟩
            clear hb5 hA
            go_wp2
            go_roundw
            case rel => exact ⟨r, n2 / 2, A5, c5, rfl, by go_num, rfl, by omega, HN.out⟩
            case measure => simp [intOf]; omega
        · obtain rfl : n2 = 0 := by omega
          have hq : r = res := by have := HE.out; rwa [Nat.mul_zero] at this
          subst hq
          have hxor := xor64 r b hr hb
          go_wp2
          go_ret2
          exact ⟨rfl, HB.out⟩

set_option maxHeartbeats 4000000 in
theorem combineR_any (a b n : Int) (w : World) :
    Calls Try.prog 18 #[.int .i64 a, .int .i64 b, .int .i64 n] w fun e w' => e = .returned (.tuple #[.int .i64 (combV a b n), .int .i64 (combE a b n)]) ∧ Below w.heap.size w w' := by
  by_cases hin : combIn a b n
  · obtain ⟨h1, h2, h3, h4, h5, h6⟩ := hin
    obtain ⟨A, rfl⟩ := Int.eq_ofNat_of_zero_le h1
    obtain ⟨B, rfl⟩ := Int.eq_ofNat_of_zero_le h3
    obtain ⟨N, rfl⟩ := Int.eq_ofNat_of_zero_le h5
    have := comb_yes (a := A) (b := B) (n := N) (by omega) (by omega) (by omega)
    rw [this.1, this.2]
    exact combineR_good A B N (by omega) (by omega) (by omega) w
  · have HO := Lib.hid (comb_no hin)
    unfold combIn at hin
    generalize combV a b n = V at HO ⊢
    generalize combE a b n = E at HO ⊢
    by_cases c1 : a < 0
    · clear hin
      go_enter Try.func18, Try.ntmps18
      go_wp2
      go_ret2
      exact ⟨two_i HO.out.1.symm HO.out.2.symm, Below.refl _ _⟩
    by_cases c2 : 4294967295 < a
    · clear hin
      go_enter Try.func18, Try.ntmps18
      go_wp2
      go_ret2
      exact ⟨two_i HO.out.1.symm HO.out.2.symm, Below.refl _ _⟩
    by_cases c3 : b < 0
    · clear hin
      go_enter Try.func18, Try.ntmps18
      go_wp2
      go_ret2
      exact ⟨two_i HO.out.1.symm HO.out.2.symm, Below.refl _ _⟩
    by_cases c4 : 4294967295 < b
    · clear hin
      go_enter Try.func18, Try.ntmps18
      go_wp2
      go_ret2
      exact ⟨two_i HO.out.1.symm HO.out.2.symm, Below.refl _ _⟩
    by_cases c5 : n < 0
    · clear hin
      go_enter Try.func18, Try.ntmps18
      go_wp2
      go_ret2
      exact ⟨two_i HO.out.1.symm HO.out.2.symm, Below.refl _ _⟩
    have c6 : 1152921504606846976 < n := by omega
    clear hin
    go_enter Try.func18, Try.ntmps18
    go_wp2
    go_ret2
    exact ⟨two_i HO.out.1.symm HO.out.2.symm, Below.refl _ _⟩
end Go.Proofs.Ytjfbmaeapokgaaa
