/- The examples of the chapter, walked: the call answers true. Condition: the program's table holds what its initialiser lays. -/
import Derived.Test.YtolohghpiccbaaaDoorVerTick
namespace Go.Proofs.YtolohghpiccbaaaDoor
open Go Go.RowKit
open Ver (at' chk okn fit cov tickE tickL)

theorem IntsAt.alloc {w : World} {A : Option Addr} {l : List Int} (h : IntsAt w A l) (o : Obj) : IntsAt (w.alloc o) A l := h.below ((Below.refl _ _).alloc (Nat.le_refl _) o)
theorem Tab.alloc {w : World} (h : Tab w) (o : Obj) : Tab (w.alloc o) := h.below ((Below.refl _ _).alloc (Nat.le_refl _) o)
theorem below_box {w w' : World} {o : Obj} (h : Below (w.alloc o).heap.size (w.alloc o) w') : Below w.heap.size w w' :=
  ((Below.refl _ _).alloc (Nat.le_refl _) o).trans (h.mono (by simp))
theorem ints_new (w : World) (l : List Int) (t : TypeId) : IntsAt (w.alloc (.cells (vals l).toArray t)) (some ⟨w.heap.size, 0, none⟩) l :=
  IntsAt.mk (fun k hk => by
    have h := (Bk.new w t (vals l).toArray).cell k
    rw [Nat.zero_add, h, List.getElem?_toArray, vals_at l k hk])
theorem ints_new2 (w : World) (o : Obj) (l : List Int) (t : TypeId) : IntsAt ((w.alloc o).alloc (.cells (vals l).toArray t)) (some ⟨w.heap.size + 1, 0, none⟩) l := by
  have h := ints_new (w.alloc o) l t
  rwa [World.size_alloc] at h

set_option maxHeartbeats 1000000 in
theorem sameV_any (A B : Option Addr) (cA cB : Nat) (a b : List Int) (w : World) (hA : IntsAt w A a) (hB : IntsAt w B b) (ha : a.length ≤ maxLen) (hb : b.length ≤ maxLen) :
    Calls Tryd.prog 19 #[.slice A a.length cA, .slice B b.length cB] w fun e w' => e = .returned (.bool (decide (a = b))) ∧ Below w.heap.size w w' := by
  have HA := Lib.hid hA
  have HB := Lib.hid hB
  clear hA hB
  go_enter Tryd.func19, Tryd.ntmps19
  go_wp2_with fail
  refine (same_any A B cA cB a b _ HA.out HB.out ha hb).mono ?_
  rintro e w1 ⟨rfl, hb1⟩
  go_wp2
  go_ret
  exact ⟨rfl, hb1⟩

theorem aw_j : Ver.joinL [1, 0, 2] [0, 3, 2] = [1, 3, 2] := by decide
theorem aw_m : Ver.meetL [1, 0, 2] [0, 3, 2] = [0, 0, 2] := by decide
theorem aw_f : fit [1, 0, 2] [0, 3, 2] = 0 := by decide
theorem aw_c : Ver.cmpV [1, 0, 2] [0, 3, 2] = 3 := by decide
theorem aw_t : tickL [1, 0, 2] 1 = [1, 1, 2] := by decide
theorem aw_te : tickE [1, 0, 2] 1 = 0 := by decide
theorem aw_c2 : Ver.cmpV [1, 0, 2] [1, 1, 2] = 1 := by decide
theorem aw_f2 : fit [1, 0, 2] [1, 1, 2] = 0 := by decide

set_option maxHeartbeats 4000000 in
set_option maxRecDepth 100000 in
theorem awake_any (w : World) (hT : Tab w) :
    Calls Tryd.prog 12 #[] w fun e w' => e = .returned (.bool true) ∧ Below w.heap.size w w' := by
  have HT := Lib.hid hT
  clear hT
  have HB : Hid (Below w.heap.size w w) := Below.refl _ _
  go_enter Tryd.func12, Tryd.ntmps12
  go_wp2_with fail
  have Ia := Lib.hid ((ints_new w [1, 0, 2] 3).alloc (.cells (vals [0, 3, 2]).toArray 3))
  have Ib := Lib.hid (ints_new2 w (.cells (vals [1, 0, 2]).toArray 3) [0, 3, 2] 3)
  replace HT := Lib.hid ((HT.out.alloc (.cells (vals [1, 0, 2]).toArray 3)).alloc (.cells (vals [0, 3, 2]).toArray 3))
  replace HB := Lib.hid ((HB.out.alloc (Nat.le_refl _) (.cells (vals [1, 0, 2]).toArray 3)).alloc (by simp) (.cells (vals [0, 3, 2]).toArray 3))
  change Calls _ _ _ ((w.alloc (.cells (vals [1, 0, 2]).toArray 3)).alloc (.cells (vals [0, 3, 2]).toArray 3)) _
  generalize (w.alloc (.cells (vals [1, 0, 2]).toArray 3)).alloc (.cells (vals [0, 3, 2]).toArray 3) = W at Ia Ib HT HB ⊢
  refine (join_any (some ⟨w.heap.size, 0, none⟩) (some ⟨w.heap.size + 1, 0, none⟩) 3 3 [1, 0, 2] [0, 3, 2] _ Ia.out Ib.out (by decide) (by decide)).mono ?_
  rintro e w1 ⟨A1, c1, rfl, hi1, hb1⟩
  rw [aw_j]
  rw [aw_f]
  try rw [aw_j] at hi1
  try rw [aw_f] at hi1
  have I1 := Lib.hid hi1
  clear hi1
  replace HT := Lib.hid (HT.out.below hb1)
  replace Ia := Lib.hid (Ia.out.below hb1)
  replace Ib := Lib.hid (Ib.out.below hb1)
  replace HB := Lib.hid (HB.out.trans (hb1.mono HB.out.size))
  clear hb1
  go_wp2_with fail
  refine (meet_any (some ⟨w.heap.size, 0, none⟩) (some ⟨w.heap.size + 1, 0, none⟩) 3 3 [1, 0, 2] [0, 3, 2] _ Ia.out Ib.out (by decide) (by decide)).mono ?_
  rintro e w2 ⟨A2, c2, rfl, hi2, hb2⟩
  rw [aw_m]
  rw [aw_f]
  try rw [aw_m] at hi2
  try rw [aw_f] at hi2
  have I2 := Lib.hid hi2
  clear hi2
  replace HT := Lib.hid (HT.out.below hb2)
  replace Ia := Lib.hid (Ia.out.below hb2)
  replace Ib := Lib.hid (Ib.out.below hb2)
  replace I1 := Lib.hid (I1.out.below hb2)
  replace HB := Lib.hid (HB.out.trans (hb2.mono HB.out.size))
  clear hb2
  go_wp2_with fail
  refine (compare_any (some ⟨w.heap.size, 0, none⟩) (some ⟨w.heap.size + 1, 0, none⟩) 3 3 [1, 0, 2] [0, 3, 2] _ Ia.out Ib.out HT.out (by decide) (by decide)).mono ?_
  rintro e w3 ⟨rfl, hb3⟩
  rw [aw_c]
  rw [aw_f]
  replace HT := Lib.hid (HT.out.below hb3)
  replace Ia := Lib.hid (Ia.out.below hb3)
  replace Ib := Lib.hid (Ib.out.below hb3)
  replace I1 := Lib.hid (I1.out.below hb3)
  replace I2 := Lib.hid (I2.out.below hb3)
  replace HB := Lib.hid (HB.out.trans (hb3.mono HB.out.size))
  clear hb3
  go_wp2_with fail
  refine (tick_any (some ⟨w.heap.size, 0, none⟩) 3 [1, 0, 2] 1 _ Ia.out (by decide)).mono ?_
  rintro e w4 ⟨A4, c4, rfl, hi4, hb4⟩
  rw [aw_t]
  rw [aw_te]
  try rw [aw_t] at hi4
  try rw [aw_te] at hi4
  have I4 := Lib.hid hi4
  clear hi4
  replace HT := Lib.hid (HT.out.below hb4)
  replace Ia := Lib.hid (Ia.out.below hb4)
  replace Ib := Lib.hid (Ib.out.below hb4)
  replace I1 := Lib.hid (I1.out.below hb4)
  replace I2 := Lib.hid (I2.out.below hb4)
  replace HB := Lib.hid (HB.out.trans (hb4.mono HB.out.size))
  clear hb4
  go_wp2_with fail
  refine (compare_any (some ⟨w.heap.size, 0, none⟩) _ 3 _ [1, 0, 2] [1, 1, 2] _ Ia.out I4.out HT.out (by decide) (by decide)).mono ?_
  rintro e w5 ⟨rfl, hb5⟩
  rw [aw_c2]
  rw [aw_f2]
  replace HT := Lib.hid (HT.out.below hb5)
  replace Ia := Lib.hid (Ia.out.below hb5)
  replace Ib := Lib.hid (Ib.out.below hb5)
  replace I1 := Lib.hid (I1.out.below hb5)
  replace I2 := Lib.hid (I2.out.below hb5)
  replace I4 := Lib.hid (I4.out.below hb5)
  replace HB := Lib.hid (HB.out.trans (hb5.mono HB.out.size))
  clear hb5
  go_wp2_with fail
  refine (sameV_any _ _ _ _ [1, 3, 2] [1, 3, 2] _ (I1.out.alloc _) (ints_new _ [1, 3, 2] _) (by decide) (by decide)).mono ?_
  rintro e w6 ⟨rfl, hb6⟩
  rw [decide_eq_true rfl]
  replace hb6 := below_box hb6
  replace HT := Lib.hid (HT.out.below hb6)
  replace Ia := Lib.hid (Ia.out.below hb6)
  replace Ib := Lib.hid (Ib.out.below hb6)
  replace I1 := Lib.hid (I1.out.below hb6)
  replace I2 := Lib.hid (I2.out.below hb6)
  replace I4 := Lib.hid (I4.out.below hb6)
  replace HB := Lib.hid (HB.out.trans (hb6.mono HB.out.size))
  clear hb6
  go_wp2_with fail
  refine (sameV_any _ _ _ _ [0, 0, 2] [0, 0, 2] _ (I2.out.alloc _) (ints_new _ [0, 0, 2] _) (by decide) (by decide)).mono ?_
  rintro e w7 ⟨rfl, hb7⟩
  rw [decide_eq_true rfl]
  replace hb7 := below_box hb7
  replace HT := Lib.hid (HT.out.below hb7)
  replace Ia := Lib.hid (Ia.out.below hb7)
  replace Ib := Lib.hid (Ib.out.below hb7)
  replace I1 := Lib.hid (I1.out.below hb7)
  replace I2 := Lib.hid (I2.out.below hb7)
  replace I4 := Lib.hid (I4.out.below hb7)
  replace HB := Lib.hid (HB.out.trans (hb7.mono HB.out.size))
  clear hb7
  go_wp2_with fail
  refine (sameV_any _ _ _ _ [1, 1, 2] [1, 1, 2] _ (I4.out.alloc _) (ints_new _ [1, 1, 2] _) (by decide) (by decide)).mono ?_
  rintro e w8 ⟨rfl, hb8⟩
  rw [decide_eq_true rfl]
  replace hb8 := below_box hb8
  replace HT := Lib.hid (HT.out.below hb8)
  replace Ia := Lib.hid (Ia.out.below hb8)
  replace Ib := Lib.hid (Ib.out.below hb8)
  replace I1 := Lib.hid (I1.out.below hb8)
  replace I2 := Lib.hid (I2.out.below hb8)
  replace I4 := Lib.hid (I4.out.below hb8)
  replace HB := Lib.hid (HB.out.trans (hb8.mono HB.out.size))
  clear hb8
  go_wp2
  go_ret
  exact ⟨rfl, HB.out⟩

/-- a slice of vectors: their lengths -/
def VecsAt (w : World) (g : Nat) (ns : List Nat) : Prop := ∀ j n, ns[j]? = some n → ∃ A c, w.cell? ⟨g, j, none⟩ = some (.slice A n c)

set_option maxHeartbeats 1000000 in
theorem great_any (g : Nat) (ns : List Nat) (w : World) (h : VecsAt w g ns) (hl : ns.length ≤ 10) (hn : ∀ n ∈ ns, n ≤ maxLen) :
    Calls Tryd.prog 11 #[.slice (some ⟨g, 0, none⟩) ns.length ns.length] w fun e w' => e = .returned (.bool (ns.any (40 < ·))) ∧ w = w' := by
  have H := Lib.hid h
  have HN := Lib.hid hn
  clear h hn
  go_enter Tryd.func11, Tryd.ntmps11
  go_wp2
  go_loop [4, 7] (fun _ i => ∃ k : Nat, k ≤ ns.length ∧ i = .int .i64 k ∧ (ns.take k).any (40 < ·) = false) (fun _ i => ns.length - (intOf i).toNat)
  case atStart => exact ⟨0, by omega, rfl, rfl⟩
  case round =>
    obtain ⟨k, hk, rfl, hj⟩ := hrel
    have HJ := Lib.hid hj
    clear hj
    by_cases hlt : k < ns.length
    · obtain ⟨A, c, hc⟩ := H.out k _ (List.getElem?_eq_getElem hlt)
      have hm := HN.out _ (List.getElem_mem hlt)
      have HS : Hid ((ns.take (k + 1)).any (40 < ·) = ((ns.take k).any (40 < ·) || decide (40 < ns[k]))) := by show _ = _; rw [List.take_succ_eq_append_getElem hlt, List.any_append]; simp
      have HA : Hid (40 < ns[k] → ns.any (40 < ·) = true) := fun h => List.any_eq_true.2 ⟨_, List.getElem_mem hlt, by simpa using h⟩
      generalize ns[k] = n at hc hm HS HA
      unfold maxLen at hm
      by_cases h40 : 40 < n
      · go_wp2
        go_ret
        exact ⟨ret_b (HA.out h40).symm, rfl⟩
      · go_wp2
        go_round
        case rel => exact ⟨k + 1, by omega, by go_num, by rw [HS.out, HJ.out]; simpa using h40⟩
        case measure => simp [intOf]; omega
    · go_wp2
      go_ret
      have e : (ns.take k).any (40 < ·) = false := HJ.out
      rw [List.take_of_length_le (by omega)] at e
      exact ⟨ret_b e.symm, rfl⟩
theorem vecs_one (w : World) (t : TypeId) (A : Option Addr) (n c : Nat) : VecsAt (w.alloc (.cells #[.slice A n c] t)) w.heap.size [n] := by
  intro j x hj
  match j, hj with
  | 0, hj => cases hj; exact ⟨A, c, (Bk.new w t #[.slice A n c]).cell 0⟩
theorem vecs_two (w : World) (t : TypeId) (A B : Option Addr) (n c m d : Nat) : VecsAt (w.alloc (.cells #[.slice A n c, .slice B m d] t)) w.heap.size [n, m] := by
  intro j x hj
  match j, hj with
  | 0, hj => cases hj; exact ⟨A, c, (Bk.new w t #[.slice A n c, .slice B m d]).cell 0⟩
  | 1, hj => cases hj; exact ⟨B, d, (Bk.new w t #[.slice A n c, .slice B m d]).cell 1⟩
theorem vecs_three (w : World) (t : TypeId) (A B C : Option Addr) (n c m d p q : Nat) : VecsAt (w.alloc (.cells #[.slice A n c, .slice B m d, .slice C p q] t)) w.heap.size [n, m, p] := by
  intro j x hj
  match j, hj with
  | 0, hj => cases hj; exact ⟨A, c, (Bk.new w t #[.slice A n c, .slice B m d, .slice C p q]).cell 0⟩
  | 1, hj => cases hj; exact ⟨B, d, (Bk.new w t #[.slice A n c, .slice B m d, .slice C p q]).cell 1⟩
  | 2, hj => cases hj; exact ⟨C, q, (Bk.new w t #[.slice A n c, .slice B m d, .slice C p q]).cell 2⟩
end Go.Proofs.YtolohghpiccbaaaDoor
