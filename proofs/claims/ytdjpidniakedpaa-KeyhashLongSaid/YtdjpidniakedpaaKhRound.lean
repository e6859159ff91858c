/- The round of the hash's state in memory, walked region by region. Condition: the state lies in one block of four words. -/
import Derived.Test.YtdjpidniakedpaaKhLeaf
import Derived.StillTailTactics
namespace Go.Proofs.Ytdjpidniakedpaa
open Go Go.RowKit

theorem rotate_still (x : Nat) (k : Int) (h1 : 1 ≤ k) (h2 : k ≤ 63) (w : World) :
    Calls Try.prog 47 #[.int .u64 (x : Int), .int .i64 k] w fun e w' => e = .returned (.int .u64 ((Kh.rot x k.toNat : Nat) : Int)) ∧ w' = w := (rotate_any x k h1 h2 w).mono fun _ _ ⟨h, h'⟩ => ⟨h, h'.symm⟩

def quadv (s : Kh.St) : Array Value := #[.int .u64 s.a, .int .u64 s.b, .int .u64 s.c, .int .u64 s.d]

theorem quad_cells {w : World} {g : Nat} {t : TypeId} {a b c d : Nat} (hB : Bk w g t (quadv ⟨a, b, c, d⟩)) :
    w.cell? ⟨g, 0, none⟩ = some (.int .u64 (a : Int)) ∧ w.cell? ⟨g, 1, none⟩ = some (.int .u64 (b : Int)) ∧ w.cell? ⟨g, 2, none⟩ = some (.int .u64 (c : Int)) ∧ w.cell? ⟨g, 3, none⟩ = some (.int .u64 (d : Int)) :=
  ⟨hB.cell 0, hB.cell 1, hB.cell 2, hB.cell 3⟩

/-- One store: what the block is then. -/
theorem quad_put {w : World} {g : Nat} {t : TypeId} {s s' : Kh.St} (i : Nat) (v : Nat) (hB : Bk w g t (quadv s)) (hv : quadv s' = (quadv s).setIfInBounds i (.int .u64 (v : Int))) :
    Bk (w.setCell ⟨g, i, none⟩ (.int .u64 (v : Int))).drew g t (quadv s') := by rw [hv]; exact (hB.put i _).drew
theorem quad_grown {w0 w : World} {g : Nat} (i : Nat) (v : Value) (h : w0.grownBy w (some g)) : w0.grownBy (w.setCell ⟨g, i, none⟩ v).drew (some g) :=
  grown_join h ⟨rfl, rfl, rfl, by simp [World.setCell], fun k _ hne => Below.heap_setCell _ _ _ _ (fun e => hne (by rw [e]))⟩

set_option maxHeartbeats 2000000 in
theorem round_any (g : Nat) (t : TypeId) (a b c d : Nat) (w : World) (hB : Bk w g t (quadv ⟨a, b, c, d⟩)) :
    Calls Try.prog 37 #[.pointer (some ⟨g, 0, none⟩)] w fun e w' => e = .returned (.tuple #[]) ∧ Bk w' g t (quadv (Kh.rnd ⟨a, b, c, d⟩)) ∧ w.grownBy w' (some g) := by
  have hx := Kh.xor_spell
  have ha := Kh.add_spell
  have G0 : w.grownBy w (some g) := World.grownBy.refl w _
  obtain ⟨c0, c1, c2, c3⟩ := quad_cells hB
  have hf : ∀ i, w.frozen? ⟨g, i, none⟩ = false := hB.free
  go_enter Try.func37, Try.ntmps37
  go_wp2
  refine wp_region_still_tail 11 (by kernel_rfl) (by kernel_rfl) ?_
  simp only [List.take_succ_cons, List.take_zero, List.drop_succ_cons, List.drop_zero]
  repeat still_step
  refine wpStill_nil ?_
  go_wp2
  have B1 := quad_put (s' := ⟨(Kh.addm a b), b, c, d⟩) 0 (Kh.addm a b) hB rfl
  have G1 := quad_grown 0 (.int .u64 ((Kh.addm a b) : Int)) G0
  generalize (w.setCell ⟨g, 0, none⟩ (.int .u64 ((Kh.addm a b) : Int))).drew = w1 at B1 G1 ⊢
  clear c0 c1 c2 c3 hf hB G0
  obtain ⟨c0, c1, c2, c3⟩ := quad_cells B1
  have hf : ∀ i, w1.frozen? ⟨g, i, none⟩ = false := B1.free
  go_wp2
  refine wp_region_still_tail 13 (by kernel_rfl) (by kernel_rfl) ?_
  simp only [List.take_succ_cons, List.take_zero, List.drop_succ_cons, List.drop_zero]
  repeat still_step
  still_call (rotate_still _ _ (by omega) (by omega) _)
  repeat still_step
  refine wpStill_nil ?_
  go_wp2
  have B2 := quad_put (s' := ⟨(Kh.addm a b), (Kh.xorm (Kh.rot b 13) (Kh.addm a b)), c, d⟩) 1 (Kh.xorm (Kh.rot b 13) (Kh.addm a b)) B1 rfl
  have G2 := quad_grown 1 (.int .u64 ((Kh.xorm (Kh.rot b 13) (Kh.addm a b)) : Int)) G1
  generalize (w1.setCell ⟨g, 1, none⟩ (.int .u64 ((Kh.xorm (Kh.rot b 13) (Kh.addm a b)) : Int))).drew = w2 at B2 G2 ⊢
  clear c0 c1 c2 c3 hf B1 G1
  obtain ⟨c0, c1, c2, c3⟩ := quad_cells B2
  have hf : ∀ i, w2.frozen? ⟨g, i, none⟩ = false := B2.free
  go_wp2
  refine wp_region_still_tail 8 (by kernel_rfl) (by kernel_rfl) ?_
  simp only [List.take_succ_cons, List.take_zero, List.drop_succ_cons, List.drop_zero]
  repeat still_step
  still_call (rotate_still _ _ (by omega) (by omega) _)
  repeat still_step
  refine wpStill_nil ?_
  go_wp2
  have B3 := quad_put (s' := ⟨(Kh.rot (Kh.addm a b) 32), (Kh.xorm (Kh.rot b 13) (Kh.addm a b)), c, d⟩) 0 (Kh.rot (Kh.addm a b) 32) B2 rfl
  have G3 := quad_grown 0 (.int .u64 ((Kh.rot (Kh.addm a b) 32) : Int)) G2
  generalize (w2.setCell ⟨g, 0, none⟩ (.int .u64 ((Kh.rot (Kh.addm a b) 32) : Int))).drew = w3 at B3 G3 ⊢
  clear c0 c1 c2 c3 hf B2 G2
  obtain ⟨c0, c1, c2, c3⟩ := quad_cells B3
  have hf : ∀ i, w3.frozen? ⟨g, i, none⟩ = false := B3.free
  go_wp2
  refine wp_region_still_tail 11 (by kernel_rfl) (by kernel_rfl) ?_
  simp only [List.take_succ_cons, List.take_zero, List.drop_succ_cons, List.drop_zero]
  repeat still_step
  refine wpStill_nil ?_
  go_wp2
  have B4 := quad_put (s' := ⟨(Kh.rot (Kh.addm a b) 32), (Kh.xorm (Kh.rot b 13) (Kh.addm a b)), (Kh.addm c d), d⟩) 2 (Kh.addm c d) B3 rfl
  have G4 := quad_grown 2 (.int .u64 ((Kh.addm c d) : Int)) G3
  generalize (w3.setCell ⟨g, 2, none⟩ (.int .u64 ((Kh.addm c d) : Int))).drew = w4 at B4 G4 ⊢
  clear c0 c1 c2 c3 hf B3 G3
  obtain ⟨c0, c1, c2, c3⟩ := quad_cells B4
  have hf : ∀ i, w4.frozen? ⟨g, i, none⟩ = false := B4.free
  go_wp2
  refine wp_region_still_tail 13 (by kernel_rfl) (by kernel_rfl) ?_
  simp only [List.take_succ_cons, List.take_zero, List.drop_succ_cons, List.drop_zero]
  repeat still_step
  still_call (rotate_still _ _ (by omega) (by omega) _)
  repeat still_step
  refine wpStill_nil ?_
  go_wp2
  have B5 := quad_put (s' := ⟨(Kh.rot (Kh.addm a b) 32), (Kh.xorm (Kh.rot b 13) (Kh.addm a b)), (Kh.addm c d), (Kh.xorm (Kh.rot d 16) (Kh.addm c d))⟩) 3 (Kh.xorm (Kh.rot d 16) (Kh.addm c d)) B4 rfl
  have G5 := quad_grown 3 (.int .u64 ((Kh.xorm (Kh.rot d 16) (Kh.addm c d)) : Int)) G4
  generalize (w4.setCell ⟨g, 3, none⟩ (.int .u64 ((Kh.xorm (Kh.rot d 16) (Kh.addm c d)) : Int))).drew = w5 at B5 G5 ⊢
  clear c0 c1 c2 c3 hf B4 G4
  obtain ⟨c0, c1, c2, c3⟩ := quad_cells B5
  have hf : ∀ i, w5.frozen? ⟨g, i, none⟩ = false := B5.free
  go_wp2
  refine wp_region_still_tail 11 (by kernel_rfl) (by kernel_rfl) ?_
  simp only [List.take_succ_cons, List.take_zero, List.drop_succ_cons, List.drop_zero]
  repeat still_step
  refine wpStill_nil ?_
  go_wp2
  have B6 := quad_put (s' := ⟨(Kh.addm (Kh.rot (Kh.addm a b) 32) (Kh.xorm (Kh.rot d 16) (Kh.addm c d))), (Kh.xorm (Kh.rot b 13) (Kh.addm a b)), (Kh.addm c d), (Kh.xorm (Kh.rot d 16) (Kh.addm c d))⟩) 0 (Kh.addm (Kh.rot (Kh.addm a b) 32) (Kh.xorm (Kh.rot d 16) (Kh.addm c d))) B5 rfl
  have G6 := quad_grown 0 (.int .u64 ((Kh.addm (Kh.rot (Kh.addm a b) 32) (Kh.xorm (Kh.rot d 16) (Kh.addm c d))) : Int)) G5
  generalize (w5.setCell ⟨g, 0, none⟩ (.int .u64 ((Kh.addm (Kh.rot (Kh.addm a b) 32) (Kh.xorm (Kh.rot d 16) (Kh.addm c d))) : Int))).drew = w6 at B6 G6 ⊢
  clear c0 c1 c2 c3 hf B5 G5
  obtain ⟨c0, c1, c2, c3⟩ := quad_cells B6
  have hf : ∀ i, w6.frozen? ⟨g, i, none⟩ = false := B6.free
  go_wp2
  refine wp_region_still_tail 13 (by kernel_rfl) (by kernel_rfl) ?_
  simp only [List.take_succ_cons, List.take_zero, List.drop_succ_cons, List.drop_zero]
  repeat still_step
  still_call (rotate_still _ _ (by omega) (by omega) _)
  repeat still_step
  refine wpStill_nil ?_
  go_wp2
  have B7 := quad_put (s' := ⟨(Kh.addm (Kh.rot (Kh.addm a b) 32) (Kh.xorm (Kh.rot d 16) (Kh.addm c d))), (Kh.xorm (Kh.rot b 13) (Kh.addm a b)), (Kh.addm c d), (Kh.xorm (Kh.rot (Kh.xorm (Kh.rot d 16) (Kh.addm c d)) 21) (Kh.addm (Kh.rot (Kh.addm a b) 32) (Kh.xorm (Kh.rot d 16) (Kh.addm c d))))⟩) 3 (Kh.xorm (Kh.rot (Kh.xorm (Kh.rot d 16) (Kh.addm c d)) 21) (Kh.addm (Kh.rot (Kh.addm a b) 32) (Kh.xorm (Kh.rot d 16) (Kh.addm c d)))) B6 rfl
  have G7 := quad_grown 3 (.int .u64 ((Kh.xorm (Kh.rot (Kh.xorm (Kh.rot d 16) (Kh.addm c d)) 21) (Kh.addm (Kh.rot (Kh.addm a b) 32) (Kh.xorm (Kh.rot d 16) (Kh.addm c d)))) : Int)) G6
  generalize (w6.setCell ⟨g, 3, none⟩ (.int .u64 ((Kh.xorm (Kh.rot (Kh.xorm (Kh.rot d 16) (Kh.addm c d)) 21) (Kh.addm (Kh.rot (Kh.addm a b) 32) (Kh.xorm (Kh.rot d 16) (Kh.addm c d)))) : Int))).drew = w7 at B7 G7 ⊢
  clear c0 c1 c2 c3 hf B6 G6
  obtain ⟨c0, c1, c2, c3⟩ := quad_cells B7
  have hf : ∀ i, w7.frozen? ⟨g, i, none⟩ = false := B7.free
  go_wp2
  refine wp_region_still_tail 11 (by kernel_rfl) (by kernel_rfl) ?_
  simp only [List.take_succ_cons, List.take_zero, List.drop_succ_cons, List.drop_zero]
  repeat still_step
  refine wpStill_nil ?_
  go_wp2
  have B8 := quad_put (s' := ⟨(Kh.addm (Kh.rot (Kh.addm a b) 32) (Kh.xorm (Kh.rot d 16) (Kh.addm c d))), (Kh.xorm (Kh.rot b 13) (Kh.addm a b)), (Kh.addm (Kh.addm c d) (Kh.xorm (Kh.rot b 13) (Kh.addm a b))), (Kh.xorm (Kh.rot (Kh.xorm (Kh.rot d 16) (Kh.addm c d)) 21) (Kh.addm (Kh.rot (Kh.addm a b) 32) (Kh.xorm (Kh.rot d 16) (Kh.addm c d))))⟩) 2 (Kh.addm (Kh.addm c d) (Kh.xorm (Kh.rot b 13) (Kh.addm a b))) B7 rfl
  have G8 := quad_grown 2 (.int .u64 ((Kh.addm (Kh.addm c d) (Kh.xorm (Kh.rot b 13) (Kh.addm a b))) : Int)) G7
  generalize (w7.setCell ⟨g, 2, none⟩ (.int .u64 ((Kh.addm (Kh.addm c d) (Kh.xorm (Kh.rot b 13) (Kh.addm a b))) : Int))).drew = w8 at B8 G8 ⊢
  clear c0 c1 c2 c3 hf B7 G7
  obtain ⟨c0, c1, c2, c3⟩ := quad_cells B8
  have hf : ∀ i, w8.frozen? ⟨g, i, none⟩ = false := B8.free
  go_wp2
  refine wp_region_still_tail 13 (by kernel_rfl) (by kernel_rfl) ?_
  simp only [List.take_succ_cons, List.take_zero, List.drop_succ_cons, List.drop_zero]
  repeat still_step
  still_call (rotate_still _ _ (by omega) (by omega) _)
  repeat still_step
  refine wpStill_nil ?_
  go_wp2
  have B9 := quad_put (s' := ⟨(Kh.addm (Kh.rot (Kh.addm a b) 32) (Kh.xorm (Kh.rot d 16) (Kh.addm c d))), (Kh.xorm (Kh.rot (Kh.xorm (Kh.rot b 13) (Kh.addm a b)) 17) (Kh.addm (Kh.addm c d) (Kh.xorm (Kh.rot b 13) (Kh.addm a b)))), (Kh.addm (Kh.addm c d) (Kh.xorm (Kh.rot b 13) (Kh.addm a b))), (Kh.xorm (Kh.rot (Kh.xorm (Kh.rot d 16) (Kh.addm c d)) 21) (Kh.addm (Kh.rot (Kh.addm a b) 32) (Kh.xorm (Kh.rot d 16) (Kh.addm c d))))⟩) 1 (Kh.xorm (Kh.rot (Kh.xorm (Kh.rot b 13) (Kh.addm a b)) 17) (Kh.addm (Kh.addm c d) (Kh.xorm (Kh.rot b 13) (Kh.addm a b)))) B8 rfl
  have G9 := quad_grown 1 (.int .u64 ((Kh.xorm (Kh.rot (Kh.xorm (Kh.rot b 13) (Kh.addm a b)) 17) (Kh.addm (Kh.addm c d) (Kh.xorm (Kh.rot b 13) (Kh.addm a b)))) : Int)) G8
  generalize (w8.setCell ⟨g, 1, none⟩ (.int .u64 ((Kh.xorm (Kh.rot (Kh.xorm (Kh.rot b 13) (Kh.addm a b)) 17) (Kh.addm (Kh.addm c d) (Kh.xorm (Kh.rot b 13) (Kh.addm a b)))) : Int))).drew = w9 at B9 G9 ⊢
  clear c0 c1 c2 c3 hf B8 G8
  obtain ⟨c0, c1, c2, c3⟩ := quad_cells B9
  have hf : ∀ i, w9.frozen? ⟨g, i, none⟩ = false := B9.free
  go_wp2
  refine wp_region_still_tail 8 (by kernel_rfl) (by kernel_rfl) ?_
  simp only [List.take_succ_cons, List.take_zero, List.drop_succ_cons, List.drop_zero]
  repeat still_step
  still_call (rotate_still _ _ (by omega) (by omega) _)
  repeat still_step
  refine wpStill_nil ?_
  go_wp2
  have B10 := quad_put (s' := ⟨(Kh.addm (Kh.rot (Kh.addm a b) 32) (Kh.xorm (Kh.rot d 16) (Kh.addm c d))), (Kh.xorm (Kh.rot (Kh.xorm (Kh.rot b 13) (Kh.addm a b)) 17) (Kh.addm (Kh.addm c d) (Kh.xorm (Kh.rot b 13) (Kh.addm a b)))), (Kh.rot (Kh.addm (Kh.addm c d) (Kh.xorm (Kh.rot b 13) (Kh.addm a b))) 32), (Kh.xorm (Kh.rot (Kh.xorm (Kh.rot d 16) (Kh.addm c d)) 21) (Kh.addm (Kh.rot (Kh.addm a b) 32) (Kh.xorm (Kh.rot d 16) (Kh.addm c d))))⟩) 2 (Kh.rot (Kh.addm (Kh.addm c d) (Kh.xorm (Kh.rot b 13) (Kh.addm a b))) 32) B9 rfl
  have G10 := quad_grown 2 (.int .u64 ((Kh.rot (Kh.addm (Kh.addm c d) (Kh.xorm (Kh.rot b 13) (Kh.addm a b))) 32) : Int)) G9
  generalize (w9.setCell ⟨g, 2, none⟩ (.int .u64 ((Kh.rot (Kh.addm (Kh.addm c d) (Kh.xorm (Kh.rot b 13) (Kh.addm a b))) 32) : Int))).drew = w10 at B10 G10 ⊢
  clear c0 c1 c2 c3 hf B9 G9
  obtain ⟨c0, c1, c2, c3⟩ := quad_cells B10
  have hf : ∀ i, w10.frozen? ⟨g, i, none⟩ = false := B10.free
  go_returns
  exact ⟨rfl, B10, G10⟩
end Go.Proofs.Ytdjpidniakedpaa
