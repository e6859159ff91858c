/- The reference's step, walked: a record that removes. Conditions: at most 16 items in each list; the lists lie in memory. -/
import Derived.Test.YtlknjdfiedkhbaaJoStepA
namespace Go.Proofs.Ytlknjdfiedkhbaa
open Go Go.RowKit
open Jo (RId Itm Rec rcA rcL itA itL idA idL)
attribute [-simp] Try.isAgg30 Try.sizeOf30 Try.typeInfo30
attribute [-simp] Try.isAgg32 Try.sizeOf32 Try.typeInfo32
attribute [-simp] Try.isAgg34 Try.sizeOf34 Try.typeInfo34
attribute [local go_sem ↓] bs0_item bs1_item
set_option maxHeartbeats 4000000 in
set_option maxRecDepth 100000 in
theorem step2_any (a b : Addr) (cA cB : Nat) (L M : List Itm) (r : Rec) (w : World) (hA : ItmsAt w (some a) L) (hB : ItmsAt w (some b) M) (hl : L.length ≤ 16) (_hm : M.length ≤ 16) (hca : L.length ≤ cA) (hcb : M.length ≤ cB) (hk : r.kind = 2) :
    Calls Try.prog 33 #[.slice (some a) L.length cA, .slice (some b) M.length cB, .agg (rcA r)] w (StepPost w (stE r L M)) := by
  have HK := Lib.hid (Bk.new w 34 (rcA r))
  have HB0 : Hid (Below w.heap.size w (w.alloc (.cells (rcA r) 34))) := (Below.refl _ _).alloc (Nat.le_refl _) _
  have HA := Lib.hid hA
  have HB := Lib.hid hB
  have HKK := Lib.hid hk
  obtain ⟨N5, hN5⟩ : ∃ N : Nat, N = 5 := ⟨5, rfl⟩
  obtain ⟨N11, hN11⟩ : ∃ N : Nat, N = 11 := ⟨11, rfl⟩
  have H5 := Lib.hid hN5
  have H11 := Lib.hid hN11
  have hn5 : ¬ N5 = 0 := by omega
  have hn11 : ¬ N11 = 0 := by omega
  have hag5 : ∀ w, Sem.run Try.prog (isAgg 30) w = .ok true w := fun w => Try.isAgg30 w
  have hag11 : ∀ w, Sem.run Try.prog (isAgg 32) w = .ok true w := fun w => Try.isAgg32 w
  have hso5 : ∀ w, Sem.run Try.prog (sizeOf 30) w = .ok N5 w := fun w => by rw [H5.out]; exact Try.sizeOf30 w
  have hso11 : ∀ w, Sem.run Try.prog (sizeOf 32) w = .ok N11 w := fun w => by rw [H11.out]; exact Try.sizeOf32 w
  clear hA hB hN5 hN11 hk
  have hlc := bk_part HK.out 12 5 N5 (rc_id r) rfl H5.out
  go_enter Try.func33, Try.ntmps33
  go_wp2_with fail
  generalize hg : w.heap.size = g at HK hlc ⊢
  refine (findR_any (some a) cA L r.id _ (HA.out.below (hg ▸ HB0.out)) (by unfold maxLen; omega)).mono ?_
  rintro e w1 ⟨rfl, hb1⟩
  have HB1 := Lib.hid (HB0.out.trans (hb1.mono HB0.out.size))
  have HK1 := Lib.hid (HK.out.below hb1 HK.out.lt)
  have HG := Lib.hid hg
  clear hlc hb1 HK HB0 hg
  have c0 : w1.cell? ⟨g, 0, none⟩ = some (.int .i64 2) := by have := HK1.out.cell 0; rw [this, ← HKK.out]; rfl
  cases hf : fidx L r.id with
  | none =>
    have HST : Hid (stE r L M = (L, M)) := by
      show _ = _
      unfold stE
      rw [if_neg (fun c => absurd (HKK.out.symm.trans c.1) (by decide)), if_neg (fun c => absurd (HKK.out.symm.trans c.1) (by decide)), hf]
    rw [findZ_none hf]
    clear hf
    go_wp2
    go_ret2
    exact stepPost_of HST.out rfl rfl (HA.out.below HB1.out) (HB.out.below HB1.out) hca hcb HB1.out
  | some i =>
    have hi := fidx_lt hf
    have HST : Hid (stE r L M = (L.take i ++ L.drop (i + 1), M)) := by
      show _ = _
      unfold stE
      rw [if_neg (fun c => absurd (HKK.out.symm.trans c.1) (by decide)), if_neg (fun c => absurd (HKK.out.symm.trans c.1) (by decide)), hf]
      simp only
      rw [if_pos HKK.out]
    rw [findZ_some hf]
    clear hf
    have HA1 := Lib.hid (HA.out.below HB1.out)
    have HBB1 := Lib.hid (HB.out.below HB1.out)
    obtain ⟨a5, hr5, hi5⟩ := itms_head a cA L i (by omega) hca
    obtain ⟨a6, c6, hr6, hi6⟩ := itms_tail a cA L (i + 1) (by omega) hca
    have e1 : ((i + 1 : Nat) : Int) = (i : Int) + 1 := by omega
    rw [e1] at hr6
    clear e1
    have HI5 := Lib.hid (hi5 _ HA1.out)
    have HI6 := Lib.hid (hi6 _ HA1.out)
    have hll : (L.take i).length ≤ 16 ∧ (L.drop (i + 1)).length ≤ 16 := by rw [List.length_take, List.length_drop]; omega
    clear hi5 hi6
    generalize L.take i = L5 at hr5 HI5 hll HST
    generalize L.drop (i + 1) = L6 at hr6 HI6 hll HST
    obtain ⟨hll5, hll6⟩ := hll
    go_wp2_with fail
    have HBW : Hid (Below w1.heap.size w1 w1.drew) := (Below.refl _ _).drew
    have q1 : IntKind.i64.wrap ((i : Int) + 1) = (i : Int) + 1 := IntWalk.i64_in _ (by omega)
    go_region_held3 (fun w' => Hid (Below w1.heap.size w1 w')) ((first | exact HBW | exact kA (by assumption) | assumption))
      (first
        | (refine step_app2 (w0 := w1) ?_ (.tmp 59) (.tmp 62) ?_ (.slice (some ⟨w1.heap.size, 0, none⟩) 0 0) [] ?_ ?_ ?_ a5 L5 cA ?_ ?_ ?_ ?_
           · rfl
           · rfl
           · rfl
           · assumption
           · exact (own0' (w := w1) rfl (Nat.le_refl _)).drew
           · rfl
           · exact HI5.out.below (Hid.out (by assumption))
           · simp
             omega
           intro v3 w3 hown3 hbw3 hgr3)
        | (refine step_app2 (w0 := w1) ?_ (.tmp 63) (.tmp 67) ?_ v3 L5 ?_ ?_ ?_ a6 L6 c6 ?_ ?_ ?_ ?_
           · rfl
           · rfl
           · rfl
           · assumption
           · exact hown3
           · rfl
           · exact HI6.out.below (Hid.out (by assumption))
           · omega
           intro v4 w4 hown4 hbw4 hgr4))
    all_goals
      clear hgr3 hgr4 hown3 hbw3 hr5 hr6 q1
      obtain ⟨a4, d4, rfl, hi4, hd4⟩ := hown4.itms
      have HI4 := Lib.hid hi4
      have HW4 := Lib.hid (HB1.out.trans (hbw4.out.mono HB1.out.size))
      have HM4 := Lib.hid (HBB1.out.below hbw4.out)
      clear hi4 hown4 hbw4
      go_wp2
      go_ret2
      exact stepPost_of HST.out (by simp) rfl HI4.out HM4.out hd4 hcb HW4.out

end Go.Proofs.Ytlknjdfiedkhbaa
