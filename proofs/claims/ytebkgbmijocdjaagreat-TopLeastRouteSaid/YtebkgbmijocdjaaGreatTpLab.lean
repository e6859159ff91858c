/- search.compare of the program, walked. No condition. -/
import Derived.Test.YtebkgbmijocdjaaGreatTpVal
namespace Go.Proofs.YtebkgbmijocdjaaGreat.Tp
open Go Go.RowKit

/-- the four cells of a label's box -/
abbrev lbA (x : Lab) : Array Value := #[.int .i64 x.node, .int .i64 x.frm, .int .i64 x.til, .int .i64 x.time]
/-- how labels compare -/
def lbC (a b : Lab) : Int := orL [cmpI a.time b.time, cmpI a.node b.node, cmpI a.frm b.frm]
set_option maxHeartbeats 4000000 in
set_option maxRecDepth 100000 in
theorem lbCompare_any (a b : Lab) (w : World) : Calls Tryz.prog 66 #[.agg #[.int .i64 a.node, .int .i64 a.frm, .int .i64 a.til, .int .i64 a.time], .agg #[.int .i64 b.node, .int .i64 b.frm, .int .i64 b.til, .int .i64 b.time]] w fun e w' => e = .returned (.int .i64 (lbC a b)) ∧ Below w.heap.size w w' := by
  have HB0 : Hid (Below w.heap.size w ((w.alloc (.cells (lbA a) 81)).alloc (.cells (lbA b) 81))) := ((Below.refl _ _).alloc (Nat.le_refl _) _).alloc (by simp) _
  have HK := Lib.hid ((Bk.new w 81 (lbA a)).alloc (.cells (lbA b) 81))
  have HL : Hid (Bk ((w.alloc (.cells (lbA a) 81)).alloc (.cells (lbA b) 81)) (w.heap.size + 1) 81 (lbA b)) := by
    have h := Bk.new (w.alloc (.cells (lbA a) 81)) 81 (lbA b)
    rwa [World.size_alloc] at h
  go_enter Tryz.func66, Tryz.ntmps66
  go_wp2_with fail
  generalize (w.alloc (.cells (lbA a) 81)).alloc (.cells (lbA b) 81) = W at HB0 HK HL ⊢
  generalize w.heap.size = g at HK HL ⊢
  have HD : Hid (∀ w', Below W.heap.size W w' → (w'.cell? ⟨g, 0, none⟩ = some (.int .i64 a.node) ∧ w'.cell? ⟨g, 1, none⟩ = some (.int .i64 a.frm) ∧ w'.cell? ⟨g, 2, none⟩ = some (.int .i64 a.til) ∧ w'.cell? ⟨g, 3, none⟩ = some (.int .i64 a.time)) ∧ w'.cell? ⟨g + 1, 0, none⟩ = some (.int .i64 b.node) ∧ w'.cell? ⟨g + 1, 1, none⟩ = some (.int .i64 b.frm) ∧ w'.cell? ⟨g + 1, 2, none⟩ = some (.int .i64 b.til) ∧ w'.cell? ⟨g + 1, 3, none⟩ = some (.int .i64 b.time)) := fun w' hb => by
    have h1 := HK.out.below hb HK.out.lt
    have h2 := HL.out.below hb HL.out.lt
    exact ⟨⟨h1.cell 0, h1.cell 1, h1.cell 2, h1.cell 3⟩, h2.cell 0, h2.cell 1, h2.cell 2, h2.cell 3⟩
  go_region_held3 (fun w' => ((w'.cell? ⟨g, 0, none⟩ = some (.int .i64 a.node) ∧ w'.cell? ⟨g, 1, none⟩ = some (.int .i64 a.frm) ∧ w'.cell? ⟨g, 2, none⟩ = some (.int .i64 a.til) ∧ w'.cell? ⟨g, 3, none⟩ = some (.int .i64 a.time)) ∧ w'.cell? ⟨g + 1, 0, none⟩ = some (.int .i64 b.node) ∧ w'.cell? ⟨g + 1, 1, none⟩ = some (.int .i64 b.frm) ∧ w'.cell? ⟨g + 1, 2, none⟩ = some (.int .i64 b.til) ∧ w'.cell? ⟨g + 1, 3, none⟩ = some (.int .i64 b.time)) ∧ Hid (Below W.heap.size W w')) (((try go_split_ands); first | exact held_start HD (Below.refl _ _).drew | exact held_step HD (by assumption) hb4 | exact held_start HD (heldA (by assumption))))
    ((first
      | (go_at_call 84
         refine (compare_any _ _ _).mono ?_
         rintro e w4 ⟨rfl, hw4⟩
         have hb4 := below_sameC hw4
         clear hw4)
      | (go_at_call 83
         refine (or_any _ _ [cmpI a.time b.time, cmpI a.node b.node, cmpI a.frm b.frm] _ rfl (by simp) ?_).mono ?_
         · exact new_ints _ [cmpI a.time b.time, cmpI a.node b.node, cmpI a.frm b.frm] _
         rintro e w4 ⟨rfl, hw4⟩
         have hb4 := below_sameC hw4
         clear hw4)))
  have HBF : Hid (Below W.heap.size W w4) := by (try go_split_ands); assumption
  go_wp2
  go_ret
  exact ⟨rfl, below_next HB0.out HBF.out⟩
end Go.Proofs.YtebkgbmijocdjaaGreat.Tp
