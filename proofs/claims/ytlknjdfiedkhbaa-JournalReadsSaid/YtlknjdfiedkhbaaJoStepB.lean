/- The reference's step, walked: a record that delivers. Conditions: at most 16 items in each list; the lists lie in memory. -/
import Derived.Test.YtlknjdfiedkhbaaJoStepA
namespace Go.Proofs.Ytlknjdfiedkhbaa
open Go Go.RowKit
open Jo (RId Itm Rec rcA rcL itA itL idA idL)
attribute [-simp] Try.isAgg30 Try.sizeOf30 Try.typeInfo30
attribute [-simp] Try.isAgg32 Try.sizeOf32 Try.typeInfo32
attribute [-simp] Try.isAgg34 Try.sizeOf34 Try.typeInfo34
attribute [local go_sem ↓] bs0_item bs1_item
set_option maxHeartbeats 4000000 in
set_option maxRecDepth 100000 in
theorem step3_any (a b : Addr) (cA cB : Nat) (L M : List Itm) (r : Rec) (w : World) (hA : ItmsAt w (some a) L) (hB : ItmsAt w (some b) M) (hl : L.length ≤ 16) (hm : M.length ≤ 16) (hca : L.length ≤ cA) (hcb : M.length ≤ cB) (hk : r.kind = 3) :
    Calls Try.prog 33 #[.slice (some a) L.length cA, .slice (some b) M.length cB, .agg (rcA r)] w (StepPost w (stE r L M)) := by
  have HK := Lib.hid (Bk.new w 34 (rcA r))
  have HB0 : Hid (Below w.heap.size w (w.alloc (.cells (rcA r) 34))) := (Below.refl _ _).alloc (Nat.le_refl _) _
  have HA := Lib.hid hA
  have HB := Lib.hid hB
  have HKK := Lib.hid hk
  obtain ⟨N5, hN5⟩ : ∃ N : Nat, N = 5 := ⟨5, rfl⟩
  obtain ⟨N11, hN11⟩ : ∃ N : Nat, N = 11 := ⟨11, rfl⟩
  have H5 := Lib.hid hN5
  have H11 := Lib.hid hN11
  have hn5 : ¬ N5 = 0 := by omega
  have hn11 : ¬ N11 = 0 := by omega
  have hag5 : ∀ w, Sem.run Try.prog (isAgg 30) w = .ok true w := fun w => Try.isAgg30 w
  have hag11 : ∀ w, Sem.run Try.prog (isAgg 32) w = .ok true w := fun w => Try.isAgg32 w
  have hso5 : ∀ w, Sem.run Try.prog (sizeOf 30) w = .ok N5 w := fun w => by rw [H5.out]; exact Try.sizeOf30 w
  have hso11 : ∀ w, Sem.run Try.prog (sizeOf 32) w = .ok N11 w := fun w => by rw [H11.out]; exact Try.sizeOf32 w
  clear hA hB hN5 hN11 hk
  have hlc := bk_part HK.out 12 5 N5 (rc_id r) rfl H5.out
  go_enter Try.func33, Try.ntmps33
  go_wp2_with fail
  generalize hg : w.heap.size = g at HK hlc ⊢
  refine (findR_any (some a) cA L r.id _ (HA.out.below (hg ▸ HB0.out)) (by unfold maxLen; omega)).mono ?_
  rintro e w1 ⟨rfl, hb1⟩
  have HB1 := Lib.hid (HB0.out.trans (hb1.mono HB0.out.size))
  have HK1 := Lib.hid (HK.out.below hb1 HK.out.lt)
  have HG := Lib.hid hg
  clear hlc hb1 HK HB0 hg
  have c0 : w1.cell? ⟨g, 0, none⟩ = some (.int .i64 3) := by have := HK1.out.cell 0; rw [this, ← HKK.out]; rfl
  generalize findZ L r.id = z
  have hlc := bk_part HK1.out 2 5 N5 (rc_iid r) rfl H5.out
  go_wp2_with fail
  refine (findR_any (some b) cB M r.item.id _ (HB.out.below HB1.out) (by unfold maxLen; omega)).mono ?_
  rintro e w2 ⟨rfl, hb2⟩
  have HB2 := Lib.hid (HB1.out.trans (hb2.mono HB1.out.size))
  have HK2 := Lib.hid (HK1.out.below hb2 HK1.out.lt)
  clear hb2 HB1 HK1 hlc c0
  have HA2 := Lib.hid (HA.out.below HB2.out)
  have HBB2 := Lib.hid (HB.out.below HB2.out)
  cases hf : fidx M r.item.id with
  | none =>
    rw [findZ_none hf]
    have HST : Hid (stE r L M = (L, M ++ [r.item])) := by show _ = _; unfold stE; rw [if_neg (fun c => absurd (HKK.out.symm.trans c.1) (by decide)), if_pos ⟨HKK.out, hf⟩]
    clear hf
    have HLD : Hid (∀ w', Below w2.heap.size w2 w' → Sem.run Try.prog (loadCellsFrom ⟨g, 1, none⟩ 0 N11 #[]) w' = .ok (itL r.item).toArray w') := fun w' hb => bk_part (HK2.out.below hb HK2.out.lt) 1 11 N11 (rc_item r) rfl H11.out
    go_wp2_with fail
    have HBW : Hid (Below w2.heap.size w2 w2.drew) := (Below.refl _ _).drew
    have hLN : (itL r.item).length = N11 := by rw [H11.out]; rfl
    have hN1 : ¬ 16777216 < N11 := by rw [H11.out]; decide
    have HFO : Hid (∀ F : Array Value, F = foldI N11 r.item → F = itA r.item) := fun F h => by rw [h, H11.out]; exact fold_item _
    go_region_held3 (fun w' => Sem.run Try.prog (loadCellsFrom ⟨g, 1, none⟩ 0 N11 #[]) w' = .ok (itL r.item).toArray w' ∧ Hid (Below w2.heap.size w2 w')) (((try go_split_ands); first | exact kS HLD HBW.out | exact kS HLD (kA (by assumption)) | exact kS HLD (Hid.out (by assumption))))
      (first
        | (refine step_app2 (w0 := w2) ?_ (.tmp 44) (.tmp 45) ?_ (.slice (some ⟨w2.heap.size, 0, none⟩) 0 0) [] ?_ ?_ ?_ b M cB ?_ ?_ ?_ ?_
           · rfl
           · rfl
           · rfl
           · (try go_split_ands)
             assumption
           · exact (own0' (w := w2) rfl (Nat.le_refl _)).drew
           · rfl
           · exact HBB2.out.below (Hid.out (by (try go_split_ands); assumption))
           · simp
             omega
           intro v3 w3 hown3 hbw3 hgr3)
        | (refine step_app2 (w0 := w2) ?_ (.tmp 44) (.tmp 45) ?_ (.slice (some ⟨w2.heap.size, 0, none⟩) 0 0) [] ?_ ?_ ?_ b M cB ?_ ?_ ?_ ?_
           · rfl
           · rfl
           · rfl
           · (try go_split_ands)
             assumption
           · exact ((own0' (w := w2) rfl (Nat.le_refl _)).alloc _).drew
           · rfl
           · exact HBB2.out.below (Hid.out (by (try go_split_ands); assumption))
           · simp
             omega
           intro v3 w3 hown3 hbw3 hgr3)
        | (refine step_app2 (w0 := w2) ?_ (.tmp 44) (.tmp 45) ?_ (.slice (some ⟨w2.heap.size + 1, 0, none⟩) 0 0) [] ?_ ?_ ?_ b M cB ?_ ?_ ?_ ?_
           · rfl
           · rfl
           · rfl
           · (try go_split_ands)
             assumption
           · exact (own0' (by simp) (by simp)).drew
           · rfl
           · exact HBB2.out.below (Hid.out (by (try go_split_ands); assumption))
           · simp
             omega
           intro v3 w3 hown3 hbw3 hgr3)
        | (refine step_app2 (w0 := w2) ?_ (.tmp 46) (.tmp 49) ?_ (v3) M ?_ ?_ ?_ ⟨w3.heap.size, 0, none⟩ [r.item] 1 ?_ ?_ ?_ ?_
           · rfl
           · rfl
           · rfl
           · (try go_split_ands)
             assumption
           · exact hown3.alloc _
           · rfl
           · exact itms_eq HFO.out rfl
           · simp
             omega
           intro v4 w4 hown4 hbw4 hgr4)
        | (refine step_app2 (w0 := w2) ?_ (.tmp 46) (.tmp 49) ?_ (v3) M ?_ ?_ ?_ ⟨w2.heap.size + 1, 0, none⟩ [r.item] 1 ?_ ?_ ?_ ?_
           · rfl
           · rfl
           · rfl
           · (try go_split_ands)
             assumption
           · exact hown3
           · rfl
           · exact (itms_eq HFO.out (by simp)).drew.grown hgr3 (by simp [Value.ownBlock])
           · simp
             omega
           intro v4 w4 hown4 hbw4 hgr4)
        | (refine step_app2 (w0 := w2) ?_ (.tmp 46) (.tmp 49) ?_ (v3) M ?_ ?_ ?_ ⟨w2.heap.size, 0, none⟩ [r.item] 1 ?_ ?_ ?_ ?_
           · rfl
           · rfl
           · rfl
           · (try go_split_ands)
             assumption
           · exact hown3
           · rfl
           · exact ((itms_eq HFO.out rfl).alloc _).drew.grown hgr3 (by simp [Value.ownBlock])
           · simp
             omega
           intro v4 w4 hown4 hbw4 hgr4))
    all_goals
      clear hLN hN1 hgr3 hgr4 hown3 hbw3
      obtain ⟨a4, d4, rfl, hi4, hd4⟩ := hown4.itms
      have HI4 := Lib.hid hi4
      have HW4 := Lib.hid (HB2.out.trans (hbw4.out.mono HB2.out.size))
      have HM4 := Lib.hid (HA2.out.below hbw4.out)
      clear hi4 hown4 hbw4
      go_wp2
      go_ret2
      exact stepPost_of HST.out rfl (by simp) HM4.out HI4.out hca hd4 HW4.out
  | some i =>
    have HST : Hid (stE r L M = (L, M)) := by
      show _ = _
      unfold stE
      rw [if_neg (fun c => absurd (HKK.out.symm.trans c.1) (by decide)), if_neg (fun c => by rw [hf] at c; exact absurd c.2 (by simp))]
      cases fidx L r.id with
      | none => rfl
      | some j => simp only; rw [if_neg (fun c => absurd (HKK.out.symm.trans c) (by decide)), if_neg (fun c => absurd (HKK.out.symm.trans c) (by decide))]
    rw [findZ_some hf]
    clear hf
    have c0 : w2.cell? ⟨g, 0, none⟩ = some (.int .i64 3) := by have := HK2.out.cell 0; rw [this, ← HKK.out]; rfl
    go_wp2
    go_ret2
    exact stepPost_of HST.out rfl rfl HA2.out HBB2.out hca hcb HB2.out
end Go.Proofs.Ytlknjdfiedkhbaa
