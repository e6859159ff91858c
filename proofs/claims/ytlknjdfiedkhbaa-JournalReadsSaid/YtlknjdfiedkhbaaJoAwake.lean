/- The examples of the chapter, walked: the call answers true. No condition. -/
import Derived.Test.YtlknjdfiedkhbaaJoCompact
import Derived.Test.YtlknjdfiedkhbaaJoApp
import Derived.Test.YtlknjdfiedkhbaaJoRecs2
import Derived.Test.YtlknjdfiedkhbaaShelf
namespace Go.Proofs.Ytlknjdfiedkhbaa
open Go Go.RowKit
open Jo (RId Itm Rec wi vId ckI ck zId zIt idA itA rcA rcL idL)
attribute [-simp] Try.isAgg34 Try.sizeOf34 Try.typeInfo34

def awR : Rec := ⟨2, zIt, ⟨1, 2, 3, 0, 0⟩, 0, 5⟩
def awX : Itm := ⟨0, ⟨1, 0, 0, 0, 0⟩, 0, 9, 0, false, ⟨#[120]⟩⟩
def awY : Itm := ⟨0, ⟨2, 0, 0, 0, 0⟩, 0, 9, 0, false, ⟨#[121]⟩⟩
def awL : List Rec := [⟨1, awX, zId, 0, 0⟩, ⟨4, zIt, awX.id, 9, 0⟩, ⟨1, awY, zId, 0, 0⟩]
def awM : List Rec := [⟨1, { awX with tick := 9 }, zId, 0, 0⟩, ⟨1, awY, zId, 0, 0⟩]
theorem jaw_e : recE awR = 0 := by kernel_rfl
theorem jaw_n : (str (recL awR)).size = 12 := by kernel_rfl
theorem jaw_p : Lib.hasPrefix (str (recL awR)).data.toList [14, 4, 10, 2, 4, 6, 0, 0] = true := by kernel_rfl
theorem jaw_f : errK awL = 0 := by kernel_rfl
theorem jaw_m : cmpL awL = awM := by kernel_rfl

theorem recs_new (w : World) (l : List Rec) : RecsAt (w.alloc (.cells (l.flatMap rcL).toArray 34)) (some ⟨w.heap.size, 0, none⟩) l := fun k r hk => ⟨w.heap.size, 0, rfl, fun j v hv => by
  rw [World.cell?_alloc_new, Nat.zero_add, List.getElem?_toArray]
  exact flat_get l k r hk j v hv⟩
open Jo (itL)

set_option maxHeartbeats 4000000 in
set_option maxRecDepth 100000 in
theorem jawake_any (w : World) : Calls Try.prog 10 #[] w fun e w' => e = .returned (.bool true) ∧ Below w.heap.size w w' := by
  go_enter Try.func10, Try.ntmps10
  go_wp2_with fail
  refine (encode_any awR (by decide) w).mono ?_
  rintro e w1 ⟨rfl, hb1⟩
  rw [jaw_e]
  obtain ⟨E, hE⟩ : ∃ E, str (recL awR) = E := ⟨_, rfl⟩
  have HE := Lib.hid hE
  rw [hE]
  clear hE
  have HB := Lib.hid hb1
  clear hb1
  go_wp2_with fail
  refine upon_as (Result.ok (.value (.slice (some ⟨((w1.alloc (.cells (itA awX) 32)).alloc (.cells (itA awY) 32)).heap.size, 0, none⟩) 3 3)) (((w1.alloc (.cells (itA awX) 32)).alloc (.cells (itA awY) 32)).alloc (.cells (awL.flatMap rcL).toArray 34))) (by kernel_rfl) ?_
  rw [Oper.upon_value]
  have HY : Hid (∀ j v, (itL awY)[j]? = some v → ((w1.alloc (.cells (itA awX) 32)).alloc (.cells (itA awY) 32)).cell? ⟨w1.heap.size + 1, j, none⟩ = some v) := fun j v hv => by
    have := World.cell?_alloc_new (w := w1.alloc (.cells (itA awX) 32)) (itA awY) 32 j
    rw [World.size_alloc] at this
    rw [this]
    simpa [itA] using hv
  have HB2 : Hid (Below w.heap.size w ((w1.alloc (.cells (itA awX) 32)).alloc (.cells (itA awY) 32)) ∧ w1.heap.size + 1 < ((w1.alloc (.cells (itA awX) 32)).alloc (.cells (itA awY) 32)).heap.size) := ⟨(HB.out.alloc HB.out.size _).alloc (by have := HB.out.size; simp; omega) _, by simp⟩
  generalize (w1.alloc (.cells (itA awX) 32)).alloc (.cells (itA awY) 32) = W2 at HY HB2 ⊢
  generalize w1.heap.size + 1 = py at HY HB2 ⊢
  have HR := Lib.hid (recs_new W2 awL)
  have HB3 : Hid (Below w.heap.size w (W2.alloc (.cells (awL.flatMap rcL).toArray 34))) := HB2.out.1.alloc HB2.out.1.size _
  have HY3 : Hid (∀ j v, (itL awY)[j]? = some v → (W2.alloc (.cells (awL.flatMap rcL).toArray 34)).cell? ⟨py, j, none⟩ = some v) := fun j v hv => (((Below.refl W2.heap.size W2).alloc (Nat.le_refl _) _).cell (p := ⟨py, j, none⟩) HB2.out.2).trans (HY.out j v hv)
  have HLT : Hid (py < (W2.alloc (.cells (awL.flatMap rcL).toArray 34)).heap.size) := Nat.lt_of_lt_of_le HB2.out.2 (by simp)
  generalize W2.alloc (.cells (awL.flatMap rcL).toArray 34) = W3 at HR HB3 HY3 HLT ⊢
  generalize W2.heap.size = n2 at HR ⊢
  clear HY HB2 HB
  go_wp2_with fail
  refine (compact_any (some ⟨n2, 0, none⟩) 3 awL W3 (by decide) (by decide) HR.out).mono ?_
  rintro e w4 ⟨A', c', rfl, hr4, hb4⟩
  rw [jaw_m] at hr4 ⊢
  rw [jaw_f, show awM.length = 2 from rfl]
  have HR4 := Lib.hid hr4
  have HB4 := Lib.hid (HB3.out.trans (hb4.mono HB3.out.size))
  have HY4 : Hid (∀ j v, (itL awY)[j]? = some v → w4.cell? ⟨py, j, none⟩ = some v) := fun j v hv => (hb4.cell (p := ⟨py, j, none⟩) HLT.out).trans (HY3.out j v hv)
  clear hr4 hb4 HR HB3 HY3 HLT
  have hE12 : (E.size : Int) = 12 := by rw [← HE.out]; exact congrArg Int.ofNat jaw_n
  have HPF : Hid (∀ w, Calls Try.prog 28 #[.string E, .string ⟨#[14, 4, 10, 2, 4, 6, 0, 0]⟩] w fun e w' => e = .returned (.bool true) ∧ w' = w) := fun w => by
    have h := Try.strings_HasPrefix E ⟨#[14, 4, 10, 2, 4, 6, 0, 0]⟩ w
    rw [← HE.out] at h ⊢
    have e : (ByteArray.mk #[14, 4, 10, 2, 4, 6, 0, 0]).data.toList = [14, 4, 10, 2, 4, 6, 0, 0] := rfl
    rw [e, jaw_p] at h
    exact h
  obtain ⟨b, off, rfl, hr⟩ := HR4.out.one (by decide)
  have t9 : w4.cell? ⟨b, off + 1, none⟩ = some (.int .i64 9) := hr 0 _ rfl 1 _ rfl
  obtain ⟨o1, ho1⟩ : ∃ o1, off + 19 = o1 := ⟨_, rfl⟩
  have hr1 : ∀ j v, (itL awY)[j]? = some v → w4.cell? ⟨b, o1 + 1 + j, none⟩ = some v := fun j v hv => by
    have h := hr 1 _ rfl (j + 1) v (by
      have e : rcL ⟨1, awY, zId, 0, 0⟩ = .int .i64 1 :: (itL awY ++ [.int .i64 0, .int .i64 0, .int .i64 0, .int .i64 0, .int .i64 0, .int .i64 0, .int .i64 0]) := rfl
      rw [e, List.getElem?_cons_succ, List.getElem?_append_left (List.getElem?_eq_some_iff.1 hv).1]
      exact hv)
    rw [← ho1, show off + 19 + 1 + j = off + 1 * 19 + (j + 1) by omega]
    exact h
  have hi0 : ∀ w, Sem.run Try.prog (Instr.indexAt 22 (.slice (some ⟨b, off, none⟩) 2 c') (.int .i64 0)) w = .ok (.pointer (some ⟨b, off, none⟩)) w := fun w => by
    have h := ix_rec b off 2 c' 0 (by omega) w
    rw [Nat.zero_mul, Nat.add_zero] at h
    exact h
  have hi1 : ∀ w, Sem.run Try.prog (Instr.indexAt 22 (.slice (some ⟨b, off, none⟩) 2 c') (.int .i64 1)) w = .ok (.pointer (some ⟨b, o1, none⟩)) w := fun w => by
    have h := ix_rec b off 2 c' 1 (by omega) w
    rw [Nat.one_mul, ho1] at h
    exact h
  have y0 := HY4.out 0 _ rfl
  have y1 := HY4.out 1 _ rfl
  have y2 := HY4.out 2 _ rfl
  have y3 := HY4.out 3 _ rfl
  have y4 := HY4.out 4 _ rfl
  have y5 := HY4.out 5 _ rfl
  have y6 := HY4.out 6 _ rfl
  have y7 := HY4.out 7 _ rfl
  have y8 := HY4.out 8 _ rfl
  have y9 := HY4.out 9 _ rfl
  have y10 := HY4.out 10 _ rfl
  have z0 := hr1 0 _ rfl
  have z1 := hr1 1 _ rfl
  have z2 := hr1 2 _ rfl
  have z3 := hr1 3 _ rfl
  have z4 := hr1 4 _ rfl
  have z5 := hr1 5 _ rfl
  have z6 := hr1 6 _ rfl
  have z7 := hr1 7 _ rfl
  have z8 := hr1 8 _ rfl
  have z9 := hr1 9 _ rfl
  have z10 := hr1 10 _ rfl
  clear hr hr1 ho1
  go_wp2_with fail
  go_quiet ((go_at_call 28; exact Calls.quiet_of_same (HPF.out _)))
  go_wp2
  go_ret
  exact ⟨rfl, ⟨HB4.out.os, HB4.out.tape, HB4.out.output, HB4.out.size, HB4.out.block⟩⟩
end Go.Proofs.Ytlknjdfiedkhbaa
