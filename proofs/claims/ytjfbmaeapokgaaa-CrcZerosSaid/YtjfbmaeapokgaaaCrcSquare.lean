/- A matrix made twice, walked: first over letters in the place of the arrays. No condition. -/
import Derived.Test.YtjfbmaeapokgaaaCrcApply
namespace Go.Proofs.Ytjfbmaeapokgaaa
open Go Go.RowKit
open Crc (stepN app)
attribute [-simp] Try.isAgg48 Try.sizeOf48 Try.typeInfo48

/-- the matrix of j steps with its first k entries written -/
def matK (j k : Nat) : Array Value := Array.ofFn (n := 32) fun i => if i.1 < k then .int .u32 ((stepN j (2 ^ i.1) : Nat) : Int) else .int .u32 0
theorem matK_size (j k : Nat) : (matK j k).size = 32 := by simp [matK]
theorem matK_zero (j : Nat) : matK j 0 = Array.replicate 32 (.int .u32 0) := by
  apply Array.ext
  · simp [matK]
  · intro i h1 h2; simp [matK]
theorem matK_all (j : Nat) : matK j 32 = matV j := by
  apply Array.ext
  · simp [matK, matV]
  · intro i h1 h2
    simp [matK, matV]
theorem matK_at (j k i : Nat) (hi : i < 32) : ∃ v, (matK j k)[i]? = some v := ⟨_, Array.getElem?_eq_getElem (by rw [matK_size]; exact hi)⟩
theorem matK_set (j k : Nat) : (matK j k).setIfInBounds k (.int .u32 ((stepN j (2 ^ k) : Nat) : Int)) = matK j (k + 1) := by
  apply Array.ext
  · simp [matK]
  · intro i h1 h2
    have hi : i < 32 := by simpa [matK] using h2
    rw [Array.getElem_setIfInBounds]
    · by_cases e : k = i
      · subst e; rw [if_pos rfl]; simp [matK]
      · rw [if_neg e]
        have : (i < k + 1) = (i < k) := by apply propext; omega
        simp [matK, this]
    · rw [matK_size]; exact hi
theorem matV_one (j : Nat) : (matV j).all (·.oneCell') = true := by
  rw [Array.all_eq_true]
  intro i hi
  simp only [matV, Array.getElem_ofFn]
  rfl
theorem infoMat : (Try.prog.info? 48).map (fun i => (i.zero, i.size)) = some (some (.agg (Array.replicate 32 (.int .u32 0))), 32) := by kernel_rfl
theorem sizeMat : (Try.prog.info? 48).map (·.size) = some 32 := by kernel_rfl

/-- the relation of the loop -/
def SqInv (M Z0 : Array Value) (Z : Nat → Array Value) (w wr : World) (k : Nat) : Prop :=
  Bk wr w.heap.size 48 M ∧ Bk wr (w.heap.size + 1) 48 Z0 ∧ Bk wr (w.heap.size + 1 + 1) 48 (Z k) ∧ Below w.heap.size w wr

theorem sqInv_put {M Z0 : Array Value} {Z : Nat → Array Value} {w wr w1 : World} {k : Nat} {v : Value} (h : SqInv M Z0 Z w wr k) (hb : Below wr.heap.size wr w1) (hz : (Z k).setIfInBounds k v = Z (k + 1)) :
    SqInv M Z0 Z w (w1.setCell ⟨w.heap.size + 1 + 1, k, none⟩ v) (k + 1) := by
  obtain ⟨h0, h1, h2, h3⟩ := h
  refine ⟨(h0.below hb h0.lt).other (p := ⟨w.heap.size + 1 + 1, k, none⟩) (by show w.heap.size ≠ w.heap.size + 1 + 1; omega) v, (h1.below hb h1.lt).other (p := ⟨w.heap.size + 1 + 1, k, none⟩) (by show w.heap.size + 1 ≠ w.heap.size + 1 + 1; omega) v, ?_, (h3.trans (hb.mono h3.size)).setCell (p := ⟨w.heap.size + 1 + 1, k, none⟩) (by show w.heap.size ≤ w.heap.size + 1 + 1; omega) v⟩
  have := (h2.below hb h2.lt).put k v
  rwa [hz] at this

set_option maxHeartbeats 2000000 in
set_option maxRecDepth 100000 in
theorem square_core (M : Array Value) (Z : Nat → Array Value) (y : Nat → Int) (z : Nat → Int) (w : World)
    (HM : Hid (M.size = 32)) (HZ : Hid (∀ k, (Z k).size = 32)) (HI : Hid (∀ k : Nat, k < 32 → ∀ w, (Instr.index 48 (.agg M) (.int .i64 (k : Int))).run Try.prog w = .ok (.int .u32 (y k)) w))
    (HA : Hid (∀ k : Nat, k < 32 → ∀ w, Calls Try.prog 29 #[.agg M, .int .u32 (y k)] w fun e w' => e = .returned (.int .u32 (z k)) ∧ Below w.heap.size w w'))
    (HS : Hid (∀ k : Nat, k < 32 → (Z k).setIfInBounds k (.int .u32 (z k)) = Z (k + 1)))
    (HV : Hid (∀ k : Nat, k < 32 → ∃ v, (Z k)[k]? = some v))
    (H1 : Hid ((Z 32).all (·.oneCell') = true)) (HZ0 : Hid (Array.replicate 32 (.int .u32 0) = Z 0)) :
    Calls Try.prog 30 #[.agg M] w fun e w' => e = .returned (.agg (Z 32)) ∧ Below w.heap.size w w' := by
  have hz := (zero_of_info infoMat).1
  rw [HZ0.out] at hz
  go_enter Try.func30, Try.ntmps30
  go_wp2
  have S1 := World.size_alloc w (.cells M 48)
  have S2 := World.size_alloc (w.alloc (.cells M 48)) (.cells (Z 0) 48)
  have B0 := ((Bk.new w 48 M).alloc (.cells (Z 0) 48)).alloc (.cells (Z 0) 48)
  have B1 := (Bk.new (w.alloc (.cells M 48)) 48 (Z 0)).alloc (.cells (Z 0) 48)
  have B2 := Bk.new ((w.alloc (.cells M 48)).alloc (.cells (Z 0) 48)) 48 (Z 0)
  have B3 : Below w.heap.size w (((w.alloc (.cells M 48)).alloc (.cells (Z 0) 48)).alloc (.cells (Z 0) 48)) := (((Below.refl _ _).alloc (Nat.le_refl _) _).alloc (by simp) _).alloc (by simp; omega) _
  rw [S1] at B1
  rw [S2, S1] at B2
  generalize ((w.alloc (.cells M 48)).alloc (.cells (Z 0) 48)).alloc (.cells (Z 0) 48) = W at B0 B1 B2 B3 ⊢
  clear S1 S2
  have hlc := loadCells_bk (P := Try.prog) B0 HM.out
  have HI0 : Hid (SqInv M (Z 0) Z w W 0) := ⟨B0, B1, B2, B3⟩
  clear B0 B1 B2 B3
  simp only [Try.isAgg48, Try.sizeOf48, Result.andThen, ↓reduceIte, hlc]
  rw [Oper.upon_value]
  clear hlc hz
  go_wp2
  go_loopw [4, 5, 7] (fun _ _ i wr => ∃ k : Nat, k ≤ 32 ∧ i = .int .i64 k ∧ SqInv M (Z 0) Z w wr k) (fun _ _ i _ => 32 - (intOf i).toNat)
  case atStart => exact ⟨0, by omega, rfl, HI0.out⟩
  case round =>
    clear HI0
    obtain ⟨k, hk, rfl, hinv⟩ := hrel
    have HX := Lib.hid hinv
    clear hinv
    by_cases hlt : k < 32
    · have hidx := HI.out k hlt
      have hlc := loadCells_bk (P := Try.prog) HX.out.1 HM.out
      have HAk := Lib.hid (HA.out k hlt)
      have HSk := Lib.hid (HS.out k hlt)
      obtain ⟨ov, hov⟩ := HV.out k hlt
      have HVk := Lib.hid hov
      clear hov
      go_wp2_with fail
      simp only [Try.isAgg48, Try.sizeOf48, Result.andThen, ↓reduceIte, hlc]
      rw [Oper.upon_value]
      clear hlc hidx
      go_wp2_with fail
      refine (HAk.out _).mono ?_
      rintro e w1 ⟨rfl, hb1⟩
      have HN := Lib.hid (sqInv_put HX.out hb1 HSk.out)
      have H2 := HX.out.2.2.1.below hb1 HX.out.2.2.1.lt
      have hcell := (H2.cell k).trans HVk.out
      have hfz := H2.free k
      clear hb1 H2
      go_wp2
      go_roundw
      case rel => exact ⟨k + 1, by omega, by go_num, HN.out⟩
      case measure => simp [intOf]; omega
    · obtain rfl : k = 32 := by omega
      have hlc := loadCells_bk (P := Try.prog) HX.out.2.2.1 (HZ.out 32)
      have hsc := storeCells_bk (P := Try.prog) HX.out.2.1 (cs := Z 32) (by rw [HZ.out]; exact sizeMat) (by rw [HZ.out, HZ.out]) H1.out
      have hsz := HZ.out 32
      have N1 := HX.out.2.1.row (Z 32)
      have N3 := below_row HX.out.2.2.2 (Nat.le_succ _) (Z 32)
      go_wp2
      simp only [Try.isAgg48, Try.sizeOf48, Result.andThen, ↓reduceIte, hlc]
      rw [Oper.upon_value]
      go_wp2
      simp only [Try.sizeOf48, Result.andThen, ↓reduceIte, hsc]
      rw [Oper.upon_skip]
      go_wp2
      (try simp only [Exit.inBlock, Exit.then])
      refine bodyPost_ret (v := .agg (Z 32)) ?_ rfl ⟨rfl, N3⟩
      rw [results_cell rfl]
      have hld := run_loadVar_row (P := Try.prog) _ _ 48 48 (Z 32) (0, 0) _ N1 Try.underlying48 rfl (by rw [HZ.out]; exact sizeMat)
      simp [asAddr, Act.put, Result.andThen, hld]

theorem square_any (j : Nat) (w : World) :
    Calls Try.prog 30 #[.agg (matV j)] w fun e w' => e = .returned (.agg (matV (j + j))) ∧ Below w.heap.size w w' := by
  have hm : ∀ k : Nat, k < 32 → stepN j (2 ^ k) < 4294967296 := fun k hk => Crc.stepN_lt j (2 ^ k) (by
    have : 2 ^ k ≤ 2 ^ 31 := Nat.pow_le_pow_right (by decide) (by omega)
    omega)
  have h := square_core (matV j) (matK (j + j)) (fun k => ((stepN j (2 ^ k) : Nat) : Int)) (fun k => ((stepN (j + j) (2 ^ k) : Nat) : Int)) w
    (Lib.hid (matV_size j)) (Lib.hid (matK_size (j + j))) (Lib.hid (fun k hk w => index_mat j k hk w))
    (Lib.hid (fun k hk w => by have := apply_any j (stepN j (2 ^ k)) (hm k hk) w; rwa [← Crc.stepN_add] at this))
    (Lib.hid (fun k hk => matK_set (j + j) k)) (Lib.hid (fun k hk => matK_at (j + j) k k hk))
    (Lib.hid (by rw [matK_all]; exact matV_one _)) (Lib.hid (matK_zero _).symm)
  rwa [matK_all] at h
end Go.Proofs.Ytjfbmaeapokgaaa
