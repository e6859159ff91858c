/- The examples of the chapter, walked: the call answers true. No condition. -/
import Derived.Test.YtmpcjhfhhphioaaViRead2
namespace Go.Proofs.Ytmpcjhfhhphioaa
open Go Go.RowKit

theorem ex0 : Vi.intL 0 = [0] ∧ Vi.intE 0 = 0 ∧ rd3 [0] = (0, 1, 0) := by decide +kernel
theorem ex1 : Vi.intL (-1) = [1] ∧ Vi.intE (-1) = 0 ∧ rd3 [1] = (-1, 1, 0) := by decide +kernel
theorem ex2 : Vi.intL 1 = [2] ∧ Vi.intE 1 = 0 ∧ rd3 [2] = (1, 1, 0) := by decide +kernel
theorem ex3 : Vi.intL 64 = [129, 0] ∧ Vi.intE 64 = 0 ∧ rd3 [129, 0] = (64, 2, 0) := by decide +kernel
theorem ex4 : Vi.intL (-64) = [127] ∧ Vi.intE (-64) = 0 ∧ rd3 [127] = (-64, 1, 0) := by decide +kernel
theorem ex5 : Vi.textL [97, 98] = [4, 97, 98] ∧ Vi.textE [97, 98] = 0 := by decide +kernel
theorem ex6 : Vi.listL [1, -1] = [4, 2, 1] ∧ Vi.listE [1, -1] = 0 := by decide +kernel
theorem below_box {w w' : World} {o : Obj} (h : Below (w.alloc o).heap.size (w.alloc o) w') : Below w.heap.size w w' :=
  ((Below.refl _ _).alloc (Nat.le_refl _) o).trans (h.mono (by simp))
def exV : Array Value := #[.string ⟨#[0]⟩, .string ⟨#[1]⟩, .string ⟨#[2]⟩, .string ⟨#[129, 0]⟩, .string ⟨#[127]⟩]
theorem intsPair (w : World) : IntsAt (w.alloc (.cells #[.int .i64 1, .int .i64 (-1)] 3)) (some ⟨w.heap.size, 0, none⟩) [1, -1] := by
  intro k x hk
  refine ⟨w.heap.size, 0, rfl, ?_⟩
  rw [Nat.zero_add, (Bk.new w 3 #[.int .i64 1, .int .i64 (-1)]).cell k]
  match k, hk with
  | 0, hk => cases hk; rfl
  | 1, hk => cases hk; rfl

set_option maxHeartbeats 4000000 in
set_option maxRecDepth 100000 in
theorem awake_any (w : World) :
    Calls Try.prog 10 #[] w fun e w' => e = .returned (.bool true) ∧ Below w.heap.size w w' := by
  go_enter Try.func10, Try.ntmps10
  go_wp2
  have B0 : Bk (w.alloc (.cells #[.string ⟨#[0]⟩, .string ⟨#[1]⟩, .string ⟨#[2]⟩, .string ⟨#[129, 0]⟩, .string ⟨#[127]⟩] 9)) w.heap.size 9 exV := Bk.new w 9 exV
  have B1 : Below w.heap.size w (w.alloc (.cells #[.string ⟨#[0]⟩, .string ⟨#[1]⟩, .string ⟨#[2]⟩, .string ⟨#[129, 0]⟩, .string ⟨#[127]⟩] 9)) := (Below.refl _ _).alloc (Nat.le_refl _) _
  generalize w.alloc (.cells #[.string ⟨#[0]⟩, .string ⟨#[1]⟩, .string ⟨#[2]⟩, .string ⟨#[129, 0]⟩, .string ⟨#[127]⟩] 9) = W at B0 B1 ⊢
  go_loopw [1, 2, 3, 4, 5, 6, 7, 8, 15] (fun _ _ _ _ _ _ _ _ i wr => ∃ k : Nat, k ≤ 5 ∧ i = .int .i64 k ∧ Bk wr w.heap.size 9 exV ∧ Below w.heap.size w wr) (fun _ _ _ _ _ _ _ _ i _ => 5 - (intOf i).toNat)
  case atStart => exact ⟨0, by omega, rfl, B0, B1⟩
  case round =>
    clear B0 B1
    obtain ⟨k, hk, rfl, hB, hbw⟩ := hrel
    have HX := Lib.hid hB
    have HB := Lib.hid hbw
    clear hB hbw
    match k, hk with
    | 0, _ =>
      have hc : wr.cell? ⟨w.heap.size, 0, none⟩ = some (.string ⟨#[0]⟩) := HX.out.cell 0
      go_wp2_with fail
      refine (int_any 0 _).mono ?_
      rintro e w1 ⟨rfl, hb1⟩
      rw [ex0.1, ex0.2.1, show str [0] = ⟨#[0]⟩ from rfl]
      have hb1' := below_box hb1
      replace HX := Lib.hid (HX.out.below hb1' HX.out.lt)
      replace HB := Lib.hid (HB.out.trans (hb1'.mono HB.out.size))
      clear hb1 hb1' hc
      go_wp2_with fail
      refine (readInt_any ⟨#[0]⟩ (by decide) _).mono ?_
      rintro e w2 ⟨rfl, hb2⟩
      rw [show (ByteArray.mk #[0]).data.toList = [0] from rfl, ex0.2.2]
      replace HX := Lib.hid (HX.out.below hb2 HX.out.lt)
      replace HB := Lib.hid (HB.out.trans (hb2.mono HB.out.size))
      clear hb2
      go_wp2
      go_roundw
      case rel => exact ⟨1, by omega, by go_num, HX.out, HB.out⟩
      case measure => simp [intOf]
    | 1, _ =>
      have hc : wr.cell? ⟨w.heap.size, 1, none⟩ = some (.string ⟨#[1]⟩) := HX.out.cell 1
      go_wp2_with fail
      refine (int_any (-1) _).mono ?_
      rintro e w1 ⟨rfl, hb1⟩
      rw [ex1.1, ex1.2.1, show str [1] = ⟨#[1]⟩ from rfl]
      have hb1' := below_box hb1
      replace HX := Lib.hid (HX.out.below hb1' HX.out.lt)
      replace HB := Lib.hid (HB.out.trans (hb1'.mono HB.out.size))
      clear hb1 hb1' hc
      go_wp2_with fail
      refine (readInt_any ⟨#[1]⟩ (by decide) _).mono ?_
      rintro e w2 ⟨rfl, hb2⟩
      rw [show (ByteArray.mk #[1]).data.toList = [1] from rfl, ex1.2.2]
      replace HX := Lib.hid (HX.out.below hb2 HX.out.lt)
      replace HB := Lib.hid (HB.out.trans (hb2.mono HB.out.size))
      clear hb2
      go_wp2
      go_roundw
      case rel => exact ⟨2, by omega, by go_num, HX.out, HB.out⟩
      case measure => simp [intOf]
    | 2, _ =>
      have hc : wr.cell? ⟨w.heap.size, 2, none⟩ = some (.string ⟨#[2]⟩) := HX.out.cell 2
      go_wp2_with fail
      refine (int_any 1 _).mono ?_
      rintro e w1 ⟨rfl, hb1⟩
      rw [ex2.1, ex2.2.1, show str [2] = ⟨#[2]⟩ from rfl]
      have hb1' := below_box hb1
      replace HX := Lib.hid (HX.out.below hb1' HX.out.lt)
      replace HB := Lib.hid (HB.out.trans (hb1'.mono HB.out.size))
      clear hb1 hb1' hc
      go_wp2_with fail
      refine (readInt_any ⟨#[2]⟩ (by decide) _).mono ?_
      rintro e w2 ⟨rfl, hb2⟩
      rw [show (ByteArray.mk #[2]).data.toList = [2] from rfl, ex2.2.2]
      replace HX := Lib.hid (HX.out.below hb2 HX.out.lt)
      replace HB := Lib.hid (HB.out.trans (hb2.mono HB.out.size))
      clear hb2
      go_wp2
      go_roundw
      case rel => exact ⟨3, by omega, by go_num, HX.out, HB.out⟩
      case measure => simp [intOf]
    | 3, _ =>
      have hc : wr.cell? ⟨w.heap.size, 3, none⟩ = some (.string ⟨#[129, 0]⟩) := HX.out.cell 3
      go_wp2_with fail
      refine (int_any 64 _).mono ?_
      rintro e w1 ⟨rfl, hb1⟩
      rw [ex3.1, ex3.2.1, show str [129, 0] = ⟨#[129, 0]⟩ from rfl]
      have hb1' := below_box hb1
      replace HX := Lib.hid (HX.out.below hb1' HX.out.lt)
      replace HB := Lib.hid (HB.out.trans (hb1'.mono HB.out.size))
      clear hb1 hb1' hc
      go_wp2_with fail
      refine (readInt_any ⟨#[129, 0]⟩ (by decide) _).mono ?_
      rintro e w2 ⟨rfl, hb2⟩
      rw [show (ByteArray.mk #[129, 0]).data.toList = [129, 0] from rfl, ex3.2.2]
      replace HX := Lib.hid (HX.out.below hb2 HX.out.lt)
      replace HB := Lib.hid (HB.out.trans (hb2.mono HB.out.size))
      clear hb2
      go_wp2
      go_roundw
      case rel => exact ⟨4, by omega, by go_num, HX.out, HB.out⟩
      case measure => simp [intOf]
    | 4, _ =>
      have hc : wr.cell? ⟨w.heap.size, 4, none⟩ = some (.string ⟨#[127]⟩) := HX.out.cell 4
      go_wp2_with fail
      refine (int_any (-64) _).mono ?_
      rintro e w1 ⟨rfl, hb1⟩
      rw [ex4.1, ex4.2.1, show str [127] = ⟨#[127]⟩ from rfl]
      have hb1' := below_box hb1
      replace HX := Lib.hid (HX.out.below hb1' HX.out.lt)
      replace HB := Lib.hid (HB.out.trans (hb1'.mono HB.out.size))
      clear hb1 hb1' hc
      go_wp2_with fail
      refine (readInt_any ⟨#[127]⟩ (by decide) _).mono ?_
      rintro e w2 ⟨rfl, hb2⟩
      rw [show (ByteArray.mk #[127]).data.toList = [127] from rfl, ex4.2.2]
      replace HX := Lib.hid (HX.out.below hb2 HX.out.lt)
      replace HB := Lib.hid (HB.out.trans (hb2.mono HB.out.size))
      clear hb2
      go_wp2
      go_roundw
      case rel => exact ⟨5, by omega, by go_num, HX.out, HB.out⟩
      case measure => simp [intOf]
    | 5, _ =>
      go_wp2_with fail
      refine (text_any ⟨#[97, 98]⟩ (by decide) _).mono ?_
      rintro e w1 ⟨rfl, hb1⟩
      rw [show (ByteArray.mk #[97, 98]).data.toList = [97, 98] from rfl, ex5.1, ex5.2, show str [4, 97, 98] = ⟨#[4, 97, 98]⟩ from rfl]
      replace HB := Lib.hid (HB.out.trans (hb1.mono HB.out.size))
      clear hb1
      go_wp2_with fail
      refine (list_any _ _ [1, -1] _ (intsPair w1) (by decide)).mono ?_
      rintro e w2 ⟨rfl, hb2⟩
      rw [ex6.1, ex6.2, show str [4, 2, 1] = ⟨#[4, 2, 1]⟩ from rfl]
      replace HB := Lib.hid (HB.out.trans ((below_box hb2).mono HB.out.size))
      clear hb2
      go_wp2
      go_ret
      exact ⟨rfl, HB.out⟩
end Go.Proofs.Ytmpcjhfhhphioaa
