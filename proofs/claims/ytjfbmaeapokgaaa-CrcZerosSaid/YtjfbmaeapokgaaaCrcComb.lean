/- Combine's closure, and Combine, walked. No condition. -/
import Derived.Test.YtjfbmaeapokgaaaCrcSquare
namespace Go.Proofs.Ytjfbmaeapokgaaa
open Go Go.RowKit
open Crc (stepN app)
attribute [-simp] Try.isAgg48 Try.sizeOf48 Try.typeInfo48

/-- what the closure leaves: the matrix's box, the number's box, all else below B as it was -/
def Comb1 (B gm gr : Nat) (M : Array Value) (r : Nat) (w : World) (e : Ending) (w' : World) : Prop :=
  (∃ v, e = .returned v) ∧ Bk w' gm 48 M ∧ Bk w' gr 41 #[.int .u32 (r : Int)] ∧ Below B w w'

set_option maxHeartbeats 2000000 in
set_option maxRecDepth 100000 in
theorem comb1_core (odd : Bool) (B gm gr : Nat) (M M' : Array Value) (r r' : Nat) (w : World) (hBm : B ≤ gm) (hBr : B ≤ gr) (hne : Hid (gm ≠ gr))
    (HM : Hid (M.size = 32)) (HM' : Hid (M'.size = 32)) (H1 : Hid (M'.all (·.oneCell') = true)) (HMb : Hid (Bk w gm 48 M)) (HRb : Hid (Bk w gr 41 #[.int .u32 (r : Int)]))
    (HA : Hid (∀ w, Calls Try.prog 29 #[.agg M, .int .u32 (r : Int)] w fun e w' => e = .returned (.int .u32 (r' : Int)) ∧ Below w.heap.size w w'))
    (HS : Hid (∀ w, Calls Try.prog 30 #[.agg M] w fun e w' => e = .returned (.agg M') ∧ Below w.heap.size w w')) :
    Calls Try.prog 28 #[.bool odd, .pointer (some ⟨gm, 0, none⟩), .pointer (some ⟨gr, 0, none⟩)] w (Comb1 B gm gr M' (if odd then r' else r) w) := by
  have hlc := loadCells_bk (P := Try.prog) HMb.out HM.out
  cases odd
  · have HBb := Lib.hid (Nat.le_trans hBm (Nat.le_of_lt HMb.out.lt))
    go_enter Try.func28, Try.ntmps28
    go_wp2_with fail
    simp only [Try.isAgg48, Try.sizeOf48, Result.andThen, ↓reduceIte, hlc]
    rw [Oper.upon_value]
    clear hlc
    go_wp2_with fail
    refine (HS.out _).mono ?_
    rintro e w1 ⟨rfl, hb1⟩
    have Nm := HMb.out.below hb1 HMb.out.lt
    have Nr := HRb.out.below hb1 HRb.out.lt
    have hsc := storeCells_bk (P := Try.prog) Nm (cs := M') (by rw [HM'.out]; exact sizeMat) (by rw [HM.out, HM'.out]) H1.out
    have HF : Hid (Comb1 B gm gr M' r w (.returned (.tuple #[])) (w1.setRow gm M')) :=
      ⟨⟨_, rfl⟩, Nm.row M', (setRow_other w1 gm gr M' hne.out.symm).trans Nr, below_row (hb1.mono HBb.out) hBm M'⟩
    clear hb1 Nm Nr
    have hsz := HM'.out
    go_wp2_with fail
    simp only [Try.sizeOf48, Result.andThen, ↓reduceIte, hsc]
    rw [Oper.upon_skip]
    go_wp2
    go_end0
    exact HF.out
  · have HBb := Lib.hid (Nat.le_trans hBm (Nat.le_of_lt HMb.out.lt))
    have hrc := (HRb.out.cell 0)
    have hrf := (HRb.out.free 0)
    go_enter Try.func28, Try.ntmps28
    go_wp2_with fail
    simp only [Try.isAgg48, Try.sizeOf48, Result.andThen, ↓reduceIte, hlc]
    rw [Oper.upon_value]
    clear hlc
    go_wp2_with fail
    refine (HA.out _).mono ?_
    rintro e w1 ⟨rfl, hb1⟩
    have Nm := HMb.out.below hb1 HMb.out.lt
    have Nr := HRb.out.below hb1 HRb.out.lt
    have hrc1 := (Nr.cell 0)
    have hrf1 := (Nr.free 0)
    have Nr2 := Nr.put 0 (.int .u32 (r' : Int))
    have Nm2 := Nm.other (p := ⟨gr, 0, none⟩) hne.out (.int .u32 (r' : Int))
    have HB2 := Lib.hid ((hb1.mono HBb.out).setCell (p := ⟨gr, 0, none⟩) hBr (.int .u32 (r' : Int)))
    have HNm := Lib.hid Nm2
    have HNr := Lib.hid Nr2
    have hlc := loadCells_bk (P := Try.prog) Nm2 HM.out
    clear hb1 Nm Nr Nm2 Nr2 hrc hrf
    go_wp2_with fail
    simp only [Try.isAgg48, Try.sizeOf48, Result.andThen, ↓reduceIte, hlc]
    rw [Oper.upon_value]
    clear hlc
    go_wp2_with fail
    refine (HS.out _).mono ?_
    rintro e w2 ⟨rfl, hb2⟩
    have Nm := HNm.out.below hb2 HNm.out.lt
    have Nr := HNr.out.below hb2 HNr.out.lt
    have hsc := storeCells_bk (P := Try.prog) Nm (cs := M') (by rw [HM'.out]; exact sizeMat) (by rw [HM.out, HM'.out]) H1.out
    have HF : Hid (Comb1 B gm gr M' r' w (.returned (.tuple #[])) (w2.setRow gm M')) :=
      ⟨⟨_, rfl⟩, Nm.row M', (setRow_other w2 gm gr M' hne.out.symm).trans Nr, below_row (HB2.out.trans (hb2.mono (Nat.le_trans HBb.out HB2.out.size))) hBm M'⟩
    clear hb2 Nm Nr
    have hsz := HM'.out
    go_wp2_with fail
    simp only [Try.sizeOf48, Result.andThen, ↓reduceIte, hsc]
    rw [Oper.upon_skip]
    go_wp2
    go_end0
    exact HF.out

theorem comb1_any (odd : Bool) (B gm gr j r : Nat) (w : World) (hBm : B ≤ gm) (hBr : B ≤ gr) (hne : gm ≠ gr) (hr : r < 4294967296) (hm : Bk w gm 48 (matV j)) (hrb : Bk w gr 41 #[.int .u32 (r : Int)]) :
    Calls Try.prog 28 #[.bool odd, .pointer (some ⟨gm, 0, none⟩), .pointer (some ⟨gr, 0, none⟩)] w (Comb1 B gm gr (matV (j + j)) (if odd then stepN j r else r) w) :=
  comb1_core odd B gm gr (matV j) (matV (j + j)) r (stepN j r) w hBm hBr (Lib.hid hne) (Lib.hid (matV_size j)) (Lib.hid (matV_size _)) (Lib.hid (matV_one _)) (Lib.hid hm) (Lib.hid hrb) (Lib.hid fun w => apply_any j r hr w) (Lib.hid fun w => square_any j w)

theorem shl32 (k : Nat) (hk : k < 32) : ∃ v : Nat, (2 : Nat) ^ k = v ∧ v < 4294967296 := ⟨_, rfl, by
  have : 2 ^ k ≤ 2 ^ 31 := Nat.pow_le_pow_right (by decide) (by omega)
  omega⟩
theorem steps_on {n r j res : Nat} (h : stepN (j * n) r = res) : stepN ((j + j) * (n / 2)) (if n % 2 = 1 then stepN j r else r) = res := by
  rw [Crc.steps_bits] at h
  rwa [show j + j = 2 * j by omega]
/-- what Combine keeps in its first loop -/
def CombA (Z : Nat → Array Value) (w wr : World) (k : Nat) : Prop := Bk wr w.heap.size 48 (Z k) ∧ Below w.heap.size w wr
theorem combA_put {Z : Nat → Array Value} {w wr : World} {k : Nat} {v : Value} (h : CombA Z w wr k) (hz : (Z k).setIfInBounds k v = Z (k + 1)) :
    CombA Z w (wr.setCell ⟨w.heap.size, k, none⟩ v) (k + 1) := by
  obtain ⟨h0, h1⟩ := h
  refine ⟨?_, h1.setCell (p := ⟨w.heap.size, k, none⟩) (Nat.le_refl _) v⟩
  have := h0.put k v
  rwa [hz] at this
/-- what Combine keeps in its second loop: the steps that are left lead to the result -/
def CombB (g : Nat) (w wr : World) (n res : Nat) : Prop :=
  ∃ r j : Nat, Bk wr w.heap.size 48 (matV j) ∧ Bk wr g 41 #[.int .u32 (r : Int)] ∧ r < 4294967296 ∧ stepN (j * n) r = res ∧ Below w.heap.size w wr

set_option maxHeartbeats 2000000 in
set_option maxRecDepth 100000 in
theorem combine_core (a b n : Nat) (ha : a < 4294967296) (hb : b < 4294967296) (hn : n ≤ 1152921504606846976) (res : Nat) (hres : res < 4294967296) (HR : Hid (stepN (8 * n) a = res)) (Z : Nat → Array Value) (z : Nat → Nat)
    (HS : Hid (∀ k : Nat, k < 32 → (Z k).setIfInBounds k (.int .u32 (z k : Int)) = Z (k + 1)))
    (HC : Hid (∀ (k v : Nat), k < 32 → 2 ^ k = v → ∀ w, Calls Try.prog 27 #[.int .u32 (v : Int)] w fun e w' => e = .returned (.int .u32 (z k : Int)) ∧ w = w'))
    (HV : Hid (∀ k : Nat, k < 32 → ∃ v, (Z k)[k]? = some v)) (HZ0 : Hid (Array.replicate 32 (.int .u32 0) = Z 0)) (HZ32 : Hid (Z 32 = matV 8)) (w : World) :
    Calls Try.prog 17 #[.int .i64 (a : Int), .int .i64 (b : Int), .int .i64 (n : Int)] w fun e w' => e = .returned (.tuple #[.int .i64 ((res ^^^ b : Nat) : Int), .int .i64 0]) ∧ Below w.heap.size w w' := by
  have hz := (zero_of_info infoMat).1
  rw [HZ0.out] at hz
  go_enter Try.func17, Try.ntmps17
  go_wp2
  have HI0 : Hid (CombA Z w (w.alloc (.cells (Z 0) 48)) 0) := ⟨Bk.new w _ _, (Below.refl _ _).alloc (Nat.le_refl _) _⟩
  generalize w.alloc (.cells (Z 0) 48) = W at HI0 ⊢
  clear hz
  go_loopw [9, 34] (fun _ i wr => ∃ k : Nat, k ≤ 32 ∧ i = .int .i64 k ∧ CombA Z w wr k) (fun _ i _ => 32 - (intOf i).toNat)
  case atStart => exact ⟨0, by omega, rfl, HI0.out⟩
  case round =>
    clear HI0
    obtain ⟨k, hk, rfl, hinv⟩ := hrel
    have HX := Lib.hid hinv
    clear hinv
    by_cases hlt : k < 32
    · obtain ⟨v, hv, hv32⟩ := shl32 k hlt
      have hsh : (2 : Int) ^ k % 4294967296 = (v : Int) := by
        rw [← hv]; rw [← hv] at hv32
        have : ((2 ^ k : Nat) : Int) < 4294967296 := by omega
        rw [Int.natCast_pow] at this ⊢
        exact Int.emod_eq_of_lt (Int.pow_nonneg (by decide)) this
      have HCk := Lib.hid (HC.out k v hlt hv)
      have HSk := Lib.hid (HS.out k hlt)
      obtain ⟨ov, hov⟩ := HV.out k hlt
      have hcell := (HX.out.1.cell k).trans hov
      have hfz := HX.out.1.free k
      have HN := Lib.hid (combA_put HX.out HSk.out)
      clear hv hov
      go_wp2_with fail
      refine (HCk.out _).mono ?_
      rintro e w1 ⟨rfl, rfl⟩
      go_wp2
      go_roundw
      case rel => exact ⟨k + 1, by omega, by go_num, HN.out⟩
      case measure => simp [intOf]; omega
    · have HK : Hid (k = 32) := by show k = 32; omega
      have hw : IntKind.u32.wrap (a : Int) = (a : Int) := by rw [IntKind.wrap_u32']; omega
      have hw2 : (a : Int) % 4294967296 = (a : Int) := by omega
      have hg : w.heap.size < wr.heap.size := HX.out.1.lt
      have HB1 : Hid (CombB wr.heap.size w (wr.alloc (.cells #[.int .u32 (a : Int)] 41)) n res) :=
        ⟨a, 8, by have := HX.out.1.alloc (.cells #[.int .u32 (a : Int)] 41); rwa [HK.out, HZ32.out] at this, Bk.new wr _ _, ha, HR.out, HX.out.2.alloc (Nat.le_of_lt hg) _⟩
      clear HX
      go_wp2
      generalize wr.alloc (.cells #[.int .u32 (a : Int)] 41) = W1 at HB1 ⊢
      generalize wr.heap.size = g at hg HB1 ⊢
      go_loopw [2] (fun m wr2 => ∃ n2 : Nat, m = .int .i64 (n2 : Int) ∧ n2 ≤ 1152921504606846976 ∧ CombB g w wr2 n2 res) (fun m _ => (intOf m).toNat)
      case atStart => exact ⟨n, rfl, hn, HB1.out⟩
      case round =>
        clear HB1 hw hw2
        obtain ⟨n2, rfl, hn2, hinv⟩ := hrel
        obtain ⟨r, j, h0, h1, hr, he, hb4⟩ := hinv
        have HR0 := Lib.hid h0
        have HR1 := Lib.hid h1
        have HE := Lib.hid he
        have HB4 := Lib.hid hb4
        clear h0 h1 he hb4
        by_cases hlt : 0 < n2
        · by_cases ho : n2 % 2 = 1
          · have hb1 : ((n2 : Int) % 2 == 1) = true := by rw [beq_iff_eq]; omega
            have HE2 := Lib.hid (steps_on HE.out)
            rw [if_pos ho] at HE2
            have hl2 := Crc.stepN_lt j r hr
            go_wp2_with fail
            refine (comb1_any true w.heap.size w.heap.size g j r _ (Nat.le_refl _) (Nat.le_of_lt hg) (by omega) hr HR0.out HR1.out).mono ?_
            rintro e w1 ⟨⟨v, rfl⟩, k0, k1, kb⟩
            have HN : Hid (CombB g w w1 (n2 / 2) res) := ⟨_, _, k0, k1, hl2, HE2.out, HB4.out.trans kb⟩
            clear k0 k1 kb hl2
            go_wp2
            go_roundw
            case rel => exact ⟨n2 / 2, by go_num, by omega, HN.out⟩
            case measure => simp [intOf]; omega
          · have hb1 : ((n2 : Int) % 2 == 1) = false := by rw [beq_eq_false_iff_ne]; omega
            have HE2 := Lib.hid (steps_on HE.out)
            rw [if_neg ho] at HE2
            have hl2 := hr
            go_wp2_with fail
            refine (comb1_any false w.heap.size w.heap.size g j r _ (Nat.le_refl _) (Nat.le_of_lt hg) (by omega) hr HR0.out HR1.out).mono ?_
            rintro e w1 ⟨⟨v, rfl⟩, k0, k1, kb⟩
            have HN : Hid (CombB g w w1 (n2 / 2) res) := ⟨_, _, k0, k1, hl2, HE2.out, HB4.out.trans kb⟩
            clear k0 k1 kb hl2
            go_wp2
            go_roundw
            case rel => exact ⟨n2 / 2, by go_num, by omega, HN.out⟩
            case measure => simp [intOf]; omega
        · obtain rfl : n2 = 0 := by omega
          have hq : r = res := by have := HE.out; rwa [Nat.mul_zero] at this
          subst hq
          have hc := HR1.out.cell 0
          have hxor := xor64 r b hr hb
          go_wp2
          go_ret2
          exact ⟨rfl, HB4.out⟩

theorem combine_good (a b n : Nat) (ha : a < 4294967296) (hb : b < 4294967296) (hn : n ≤ 1152921504606846976) (w : World) :
    Calls Try.prog 17 #[.int .i64 (a : Int), .int .i64 (b : Int), .int .i64 (n : Int)] w fun e w' => e = .returned (.tuple #[.int .i64 ((Crc.combine a b n : Nat) : Int), .int .i64 0]) ∧ Below w.heap.size w w' :=
  combine_core a b n ha hb hn (stepN (8 * n) a) (Crc.stepN_lt _ _ ha) (Lib.hid rfl) (matK 8) (fun k => stepN 8 (2 ^ k)) (Lib.hid fun k hk => matK_set 8 k)
    (Lib.hid fun k v hk hv w => by
      subst hv
      exact step_any (2 ^ k) (by obtain ⟨v, hv, h⟩ := shl32 k hk; rw [hv]; exact h) w)
    (Lib.hid fun k hk => matK_at 8 k k hk) (Lib.hid (matK_zero 8).symm) (Lib.hid (matK_all 8)) w

/-- what Combine answers -/
def combIn (a b n : Int) : Prop := 0 ≤ a ∧ a ≤ 4294967295 ∧ 0 ≤ b ∧ b ≤ 4294967295 ∧ 0 ≤ n ∧ n ≤ 1152921504606846976
instance (a b n : Int) : Decidable (combIn a b n) := by unfold combIn; infer_instance
def combV (a b n : Int) : Int := if combIn a b n then ((Crc.combine a.toNat b.toNat n.toNat : Nat) : Int) else 0
def combE (a b n : Int) : Int := if combIn a b n then 0 else 2
theorem comb_no {a b n : Int} (h : ¬ combIn a b n) : combV a b n = 0 ∧ combE a b n = 2 := by unfold combV combE; rw [if_neg h, if_neg h]; exact ⟨rfl, rfl⟩
theorem comb_yes {a b n : Nat} (ha : a < 4294967296) (hb : b < 4294967296) (hn : n ≤ 1152921504606846976) : combV a b n = ((Crc.combine a b n : Nat) : Int) ∧ combE a b n = 0 := by
  have h : combIn a b n := ⟨by omega, by omega, by omega, by omega, by omega, by omega⟩
  unfold combV combE; rw [if_pos h, if_pos h]; exact ⟨rfl, rfl⟩
theorem two_i {a a' b b' : Int} (h : a = a') (h' : b = b') : Ending.returned (.tuple #[.int .i64 a, .int .i64 b]) = .returned (.tuple #[.int .i64 a', .int .i64 b']) := by rw [h, h']

set_option maxHeartbeats 4000000 in
theorem combine_any (a b n : Int) (w : World) :
    Calls Try.prog 17 #[.int .i64 a, .int .i64 b, .int .i64 n] w fun e w' => e = .returned (.tuple #[.int .i64 (combV a b n), .int .i64 (combE a b n)]) ∧ Below w.heap.size w w' := by
  by_cases hin : combIn a b n
  · obtain ⟨h1, h2, h3, h4, h5, h6⟩ := hin
    obtain ⟨A, rfl⟩ := Int.eq_ofNat_of_zero_le h1
    obtain ⟨B, rfl⟩ := Int.eq_ofNat_of_zero_le h3
    obtain ⟨N, rfl⟩ := Int.eq_ofNat_of_zero_le h5
    have := comb_yes (a := A) (b := B) (n := N) (by omega) (by omega) (by omega)
    rw [this.1, this.2]
    exact combine_good A B N (by omega) (by omega) (by omega) w
  · have HO := Lib.hid (comb_no hin)
    unfold combIn at hin
    generalize combV a b n = V at HO ⊢
    generalize combE a b n = E at HO ⊢
    by_cases c1 : a < 0
    · clear hin
      go_enter Try.func17, Try.ntmps17
      go_wp2
      go_ret2
      exact ⟨two_i HO.out.1.symm HO.out.2.symm, Below.refl _ _⟩
    by_cases c2 : 4294967295 < a
    · clear hin
      go_enter Try.func17, Try.ntmps17
      go_wp2
      go_ret2
      exact ⟨two_i HO.out.1.symm HO.out.2.symm, Below.refl _ _⟩
    by_cases c3 : b < 0
    · clear hin
      go_enter Try.func17, Try.ntmps17
      go_wp2
      go_ret2
      exact ⟨two_i HO.out.1.symm HO.out.2.symm, Below.refl _ _⟩
    by_cases c4 : 4294967295 < b
    · clear hin
      go_enter Try.func17, Try.ntmps17
      go_wp2
      go_ret2
      exact ⟨two_i HO.out.1.symm HO.out.2.symm, Below.refl _ _⟩
    by_cases c5 : n < 0
    · clear hin
      go_enter Try.func17, Try.ntmps17
      go_wp2
      go_ret2
      exact ⟨two_i HO.out.1.symm HO.out.2.symm, Below.refl _ _⟩
    have c6 : 1152921504606846976 < n := by omega
    clear hin
    go_enter Try.func17, Try.ntmps17
    go_wp2
    go_ret2
    exact ⟨two_i HO.out.1.symm HO.out.2.symm, Below.refl _ _⟩
end Go.Proofs.Ytjfbmaeapokgaaa
