/- The reference's step, walked: a record that tells a ticket. Conditions: at most 16 items in each list; the lists lie in memory. -/
import Derived.Test.YtlknjdfiedkhbaaJoStepA
namespace Go.Proofs.Ytlknjdfiedkhbaa
open Go Go.RowKit
open Jo (RId Itm Rec rcA rcL itA itL idA idL)
attribute [-simp] Try.isAgg30 Try.sizeOf30 Try.typeInfo30
attribute [-simp] Try.isAgg32 Try.sizeOf32 Try.typeInfo32
attribute [-simp] Try.isAgg34 Try.sizeOf34 Try.typeInfo34
attribute [local go_sem ↓] bs0_item bs1_item
set_option maxHeartbeats 4000000 in
set_option maxRecDepth 100000 in
theorem step4_any (a b : Addr) (cA cB : Nat) (L M : List Itm) (r : Rec) (w : World) (hA : ItmsAt w (some a) L) (hB : ItmsAt w (some b) M) (hl : L.length ≤ 16) (_hm : M.length ≤ 16) (hca : L.length ≤ cA) (hcb : M.length ≤ cB) (hk : r.kind = 4) :
    Calls Try.prog 33 #[.slice (some a) L.length cA, .slice (some b) M.length cB, .agg (rcA r)] w (StepPost w (stE r L M)) := by
  have HK := Lib.hid (Bk.new w 34 (rcA r))
  have HB0 : Hid (Below w.heap.size w (w.alloc (.cells (rcA r) 34))) := (Below.refl _ _).alloc (Nat.le_refl _) _
  have HA := Lib.hid hA
  have HB := Lib.hid hB
  have HKK := Lib.hid hk
  obtain ⟨N5, hN5⟩ : ∃ N : Nat, N = 5 := ⟨5, rfl⟩
  obtain ⟨N11, hN11⟩ : ∃ N : Nat, N = 11 := ⟨11, rfl⟩
  have H5 := Lib.hid hN5
  have H11 := Lib.hid hN11
  have hn5 : ¬ N5 = 0 := by omega
  have hn11 : ¬ N11 = 0 := by omega
  have hag5 : ∀ w, Sem.run Try.prog (isAgg 30) w = .ok true w := fun w => Try.isAgg30 w
  have hag11 : ∀ w, Sem.run Try.prog (isAgg 32) w = .ok true w := fun w => Try.isAgg32 w
  have hso5 : ∀ w, Sem.run Try.prog (sizeOf 30) w = .ok N5 w := fun w => by rw [H5.out]; exact Try.sizeOf30 w
  have hso11 : ∀ w, Sem.run Try.prog (sizeOf 32) w = .ok N11 w := fun w => by rw [H11.out]; exact Try.sizeOf32 w
  clear hA hB hN5 hN11 hk
  have hlc := bk_part HK.out 12 5 N5 (rc_id r) rfl H5.out
  go_enter Try.func33, Try.ntmps33
  go_wp2_with fail
  generalize hg : w.heap.size = g at HK hlc ⊢
  refine (findR_any (some a) cA L r.id _ (HA.out.below (hg ▸ HB0.out)) (by unfold maxLen; omega)).mono ?_
  rintro e w1 ⟨rfl, hb1⟩
  have HB1 := Lib.hid (HB0.out.trans (hb1.mono HB0.out.size))
  have HK1 := Lib.hid (HK.out.below hb1 HK.out.lt)
  have HG := Lib.hid hg
  clear hlc hb1 HK HB0 hg
  have c0 : w1.cell? ⟨g, 0, none⟩ = some (.int .i64 4) := by have := HK1.out.cell 0; rw [this, ← HKK.out]; rfl
  cases hf : fidx L r.id with
  | none =>
    have HST : Hid (stE r L M = (L, M)) := by
      show _ = _
      unfold stE
      rw [if_neg (fun c => absurd (HKK.out.symm.trans c.1) (by decide)), if_neg (fun c => absurd (HKK.out.symm.trans c.1) (by decide)), hf]
    rw [findZ_none hf]
    clear hf
    go_wp2
    go_ret2
    exact stepPost_of HST.out rfl rfl (HA.out.below HB1.out) (HB.out.below HB1.out) hca hcb HB1.out
  | some i =>
    have hi := fidx_lt hf
    have HST : Hid (stE r L M = (L.modify i (tickI r.tick), M)) := by
      show _ = _
      unfold stE
      rw [if_neg (fun c => absurd (HKK.out.symm.trans c.1) (by decide)), if_neg (fun c => absurd (HKK.out.symm.trans c.1) (by decide)), hf]
      simp only
      rw [if_neg (fun c => absurd (HKK.out.symm.trans c) (by decide)), if_pos HKK.out]
      rfl
    rw [findZ_some hf]
    clear hf
    have HA1 := Lib.hid (HA.out.below HB1.out)
    have HBB1 := Lib.hid (HB.out.below HB1.out)
    clear hso11 hag11 hn11
    have hso11 : ∀ w, Sem.run Try.prog (sizeOf 32) w = .ok 11 w := fun w => Try.sizeOf32 w
    have hi' : (i : Int) < (L.length : Int) := by omega
    obtain ⟨y, hy⟩ : ∃ y, L[i]? = some y := ⟨_, List.getElem?_eq_getElem hi⟩
    have HY := Lib.hid hy
    clear hy
    go_wp2_with (at_builtin; refine list_app rfl _ _ rfl w1.heap.size (.slice (some ⟨w1.heap.size, 0, none⟩) 0 0) [] rfl (own0 w1 _ (Nat.le_refl _)) a L cA rfl (HA1.out.alloc _) (by simp; omega) (by simp) ?_; intro v4 w4 hap4; obtain ⟨g4, d4, rfl, hg4, hd4⟩ := hap4.1.form; have HB4 := Lib.hid (hap4.below (own0 w1 _ (Nat.le_refl _)) ((Below.refl _ _).alloc (Nat.le_refl _) _)); have HO4 := Lib.hid hap4.1; have HG4 := Lib.hid hg4; have HD4 := Lib.hid hd4; clear hap4 hg4 hd4; rw [List.nil_append] at HO4 HD4 ⊢; have c17 : w4.cell? ⟨g, 17, none⟩ = some (.int .i64 r.tick) := (HK1.out.below HB4.out HK1.out.lt).cell 17; have ci : w4.cell? ⟨g4, i * 11, none⟩ = some (.int .i64 y.tick) := HO4.out.tickAt HY.out; have fi : w4.frozen? ⟨g4, i * 11, none⟩ = false := HO4.out.free _)
    have HO5 := Lib.hid (HO4.out.tick hi r.tick)
    have HB5 : Hid (Below w1.heap.size w1 (w4.setCell ⟨g4, i * 11, none⟩ (.int .i64 r.tick))) := HB4.out.setCell (p := ⟨g4, i * 11, none⟩) HG4.out _
    obtain ⟨a6, c6, e6, hi6, _⟩ := HO5.out.itms
    simp only [Value.slice.injEq, Option.some.injEq] at e6
    obtain ⟨e7, _, _⟩ := e6
    subst e7
    go_ret2
    exact stepPost_of HST.out (by rw [List.length_modify]) rfl hi6 (HBB1.out.below HB5.out) (by rw [List.length_modify]; exact HD4.out) hcb (HB1.out.trans (HB5.out.mono HB1.out.size))

end Go.Proofs.Ytlknjdfiedkhbaa
