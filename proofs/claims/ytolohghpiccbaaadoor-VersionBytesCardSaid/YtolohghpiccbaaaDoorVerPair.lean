/- Join and Meet, of the program and of the reference, walked. Conditions: the lists lie in memory; lengths below the model's greatest. -/
import Derived.Test.YtolohghpiccbaaaDoorVerLeaf
import Derived.StillTailTactics
import Derived.OwnWalk
import Derived.Deep.RegionHeld3
namespace Go.Proofs.YtolohghpiccbaaaDoor
open Go Go.RowKit
open Ver (at' chk okn fit)

def vals (l : List Int) : List Value := l.map (Value.int .i64)
theorem vals_at (l : List Int) (j : Nat) (h : j < l.length) : (vals l)[j]? = some (.int .i64 (elt l j)) := by
  rw [vals, List.getElem?_map, elt, List.getElem?_eq_getElem h]; rfl
theorem infoInt : (Tryd.prog.info? 3).map (fun i => (i.zero, i.size, i.bytes)) = some (some (.int .i64 0), 1, 8) := by kernel_rfl
theorem fit_zero {a b : List Int} (h : fit a b = 0) : Ver.Vec a.length a ∧ Ver.Vec a.length b := by
  unfold fit at h
  split at h
  · rename_i h1
    split at h
    · rename_i h2
      refine ⟨(Ver.chk_iff a).1 h1.1, ?_⟩
      have := (Ver.chk_iff b).1 h1.2
      rwa [← h2] at this
    · exact absurd h (by decide)
  · exact absurd h (by decide)

/-- what a function that hands back a vector and an error number leaves -/
def RetVec (w : World) (l : List Int) (er : Int) (e : Ending) (w' : World) : Prop := ∃ A c, e = .returned (.tuple #[.slice A l.length c, .int .i64 er]) ∧ IntsAt w' A l ∧ Below w.heap.size w w'

/-- the row after k rounds -/
def mixK (f : Int → Int → Int) (a b z : List Int) (k : Nat) : List Int := (List.zipWith f a b).take k ++ z.drop k
theorem mix_len (f : Int → Int → Int) (a b z : List Int) (k : Nat) (hk : k ≤ a.length) (hb : a.length = b.length) (hz : z.length = a.length) : (mixK f a b z k).length = a.length := by
  simp [mixK]; omega
theorem mix_zero (f : Int → Int → Int) (a b z : List Int) : mixK f a b z 0 = z := by simp [mixK]
theorem mix_all (f : Int → Int → Int) (a b z : List Int) (hb : a.length = b.length) (hz : z.length = a.length) : mixK f a b z a.length = List.zipWith f a b := by
  unfold mixK
  rw [List.take_of_length_le (by simp; omega), List.drop_of_length_le (by omega), List.append_nil]
theorem mix_set (f : Int → Int → Int) (a b z : List Int) (k : Nat) (hk : k < a.length) (hb : a.length = b.length) (hz : z.length = a.length) : (mixK f a b z k).set k (f (elt a k) (elt b k)) = mixK f a b z (k + 1) := by
  have hl : ((List.zipWith f a b).take k).length = k := by simp; omega
  unfold mixK
  rw [List.set_append_right _ _ (by omega), hl, Nat.sub_self, List.drop_eq_getElem_cons (by omega), List.set_cons_zero, List.take_succ_eq_append_getElem (by simp; omega)]
  simp [elt, List.getElem?_eq_getElem hk, List.getElem?_eq_getElem (show k < b.length by omega)]
theorem mix_here (f : Int → Int → Int) (a b z : List Int) (k : Nat) (hk : k < a.length) (hb : a.length = b.length) (hz : z.length = a.length) : elt (mixK f a b z k) k = elt z k := by
  have hl : ((List.zipWith f a b).take k).length = k := by simp; omega
  unfold mixK elt
  rw [List.getElem?_append_right (by omega), hl, Nat.sub_self, List.getElem?_drop, Nat.add_zero]
theorem vals_set (l : List Int) (k : Nat) (x : Int) : (vals l).set k (.int .i64 x) = vals (l.set k x) := by rw [vals, vals, List.map_set]
theorem vals_len (l : List Int) : (vals l).length = l.length := by simp [vals]
/-- the call's own row, read as a list -/
theorem own_ints {w : World} {base g n cap : Nat} {l : List Int} (h : w.ownsRow base 3 1 (.slice (some ⟨g, 0, none⟩) n cap) n (vals l)) (hl : l.length = n) : IntsAt w (some ⟨g, 0, none⟩) l :=
  IntsAt.mk (fun k hk => by rw [Nat.zero_add, h.cellAt k (by omega), vals_at l k hk])

theorem src_cells {w : World} {b off : Nat} {l : List Int} (o : Obj) (hb : b < w.heap.size) (h : ∀ k, k < l.length → w.cell? ⟨b, off + k, none⟩ = some (.int .i64 (elt l k))) :
    ∀ j u, (vals l)[j]? = some u → (w.alloc o).cell? ((⟨b, off, none⟩ : Addr).add j) = some u := by
  intro j u hj
  have hjl : j < l.length := by
    have := (List.getElem?_eq_some_iff.1 hj).1
    rwa [vals_len] at this
  have e : (⟨b, off, none⟩ : Addr).add j = ⟨b, off + j, none⟩ := by
    unfold Addr.add
    split
    · rename_i h0; subst h0; rfl
    · rfl
  rw [e, World.cell?_alloc_lt _ _ _ hb, h j hjl, ← hj, vals_at l j hjl]
theorem max_spell (x y : Int) : max x y = if x < y then y else x := by split <;> omega
theorem min_spell (x y : Int) : min x y = if y < x then y else x := by split <;> omega
theorem own_pos {w : World} {base n : Nat} {e : TypeId} {v : Value} {xs : List Value} (h : w.ownsRow base e 1 v n xs) (hn : 1 ≤ n) : ∃ g cap, v = .slice (some ⟨g, 0, none⟩) n cap ∧ base ≤ g := by
  rcases h.2 with ⟨_, hn0⟩ | ⟨g, cap, cur, hv, hb, _⟩
  · omega
  · exact ⟨g, cap, hv, hb⟩

set_option maxHeartbeats 1000000 in
theorem pair_any (A B : Option Addr) (cA cB : Nat) (a b : List Int) (w : World) (hA : IntsAt w A a) (hB : IntsAt w B b) (ha : a.length ≤ maxLen) (hb : b.length ≤ maxLen) :
    Calls Tryd.prog 39 #[.slice A a.length cA, .slice B b.length cB] w fun e w' => e = .returned (.int .i64 (fit a b)) ∧ w = w' := by
  have HA := Lib.hid hA
  have HB := Lib.hid hB
  have hma := ha
  have hmb := hb
  unfold maxLen at ha hb
  clear hA hB
  by_cases h1 : chk a = 0
  · by_cases h2 : chk b = 0
    · have H1 := Lib.hid h1
      have H2 := Lib.hid h2
      clear h1 h2
      by_cases h3 : a.length = b.length
      · have H3 := Lib.hid h3
        have h3b : ((a.length : Int) != (b.length : Int)) = false := by rw [h3]; simp
        clear h3
        go_enter Tryd.func39, Tryd.ntmps39
        go_wp2_with fail
        refine (check_any A cA a _ HA.out hma).mono ?_
        rintro e w' ⟨rfl, rfl⟩
        rw [H1.out]
        go_wp2_with fail
        refine (check_any B cB b _ HB.out hmb).mono ?_
        rintro e w' ⟨rfl, rfl⟩
        rw [H2.out]
        go_wp2
        go_ret
        exact ⟨ret_i (by unfold fit; rw [if_pos ⟨H1.out, H2.out⟩, if_pos H3.out]), rfl⟩
      · have h3b : ((a.length : Int) != (b.length : Int)) = true := by rw [bne_iff_ne]; omega
        have H3 := Lib.hid h3
        clear h3
        go_enter Tryd.func39, Tryd.ntmps39
        go_wp2_with fail
        refine (check_any A cA a _ HA.out hma).mono ?_
        rintro e w' ⟨rfl, rfl⟩
        rw [H1.out]
        go_wp2_with fail
        refine (check_any B cB b _ HB.out hmb).mono ?_
        rintro e w' ⟨rfl, rfl⟩
        rw [H2.out]
        go_wp2
        go_ret
        exact ⟨ret_i (by unfold fit; rw [if_pos ⟨H1.out, H2.out⟩, if_neg H3.out]), rfl⟩
    · have h2b : (chk b != 0) = true := by rw [bne_iff_ne]; exact h2
      have H1 := Lib.hid h1
      have H2 := Lib.hid h2
      clear h1 h2
      go_enter Tryd.func39, Tryd.ntmps39
      go_wp2_with fail
      refine (check_any A cA a _ HA.out hma).mono ?_
      rintro e w' ⟨rfl, rfl⟩
      rw [H1.out]
      go_wp2_with fail
      refine (check_any B cB b _ HB.out hmb).mono ?_
      rintro e w' ⟨rfl, rfl⟩
      go_wp2
      go_ret
      exact ⟨ret_i (by unfold fit; rw [if_neg (fun h => H2.out h.2)]), rfl⟩
  · have h1b : (chk a != 0) = true := by rw [bne_iff_ne]; exact h1
    have H1 := Lib.hid h1
    clear h1
    go_enter Tryd.func39, Tryd.ntmps39
    go_wp2_with fail
    refine (check_any A cA a _ HA.out hma).mono ?_
    rintro e w' ⟨rfl, rfl⟩
    go_wp2
    go_ret
    exact ⟨ret_i (by unfold fit; rw [if_neg (fun h => H1.out h.1)]), rfl⟩

set_option maxHeartbeats 1000000 in
theorem fitR_any (A B : Option Addr) (cA cB : Nat) (a b : List Int) (w : World) (hA : IntsAt w A a) (hB : IntsAt w B b) (ha : a.length ≤ maxLen) (hb : b.length ≤ maxLen) :
    Calls Tryd.prog 37 #[.slice A a.length cA, .slice B b.length cB] w fun e w' => e = .returned (.int .i64 (fit a b)) ∧ w = w' := by
  have HA := Lib.hid hA
  have HB := Lib.hid hB
  have hma := ha
  have hmb := hb
  unfold maxLen at ha hb
  clear hA hB
  by_cases h1 : chk a = 0
  · by_cases h2 : chk b = 0
    · have H1 := Lib.hid h1
      have H2 := Lib.hid h2
      clear h1 h2
      by_cases h3 : a.length = b.length
      · have H3 := Lib.hid h3
        have h3b : ((a.length : Int) != (b.length : Int)) = false := by rw [h3]; simp
        clear h3
        go_enter Tryd.func37, Tryd.ntmps37
        go_wp2_with fail
        refine (checkR_any A cA a _ HA.out hma).mono ?_
        rintro e w' ⟨rfl, rfl⟩
        rw [H1.out]
        go_wp2_with fail
        refine (checkR_any B cB b _ HB.out hmb).mono ?_
        rintro e w' ⟨rfl, rfl⟩
        rw [H2.out]
        go_wp2
        go_ret
        exact ⟨ret_i (by unfold fit; rw [if_pos ⟨H1.out, H2.out⟩, if_pos H3.out]), rfl⟩
      · have h3b : ((a.length : Int) != (b.length : Int)) = true := by rw [bne_iff_ne]; omega
        have H3 := Lib.hid h3
        clear h3
        go_enter Tryd.func37, Tryd.ntmps37
        go_wp2_with fail
        refine (checkR_any A cA a _ HA.out hma).mono ?_
        rintro e w' ⟨rfl, rfl⟩
        rw [H1.out]
        go_wp2_with fail
        refine (checkR_any B cB b _ HB.out hmb).mono ?_
        rintro e w' ⟨rfl, rfl⟩
        rw [H2.out]
        go_wp2
        go_ret
        exact ⟨ret_i (by unfold fit; rw [if_pos ⟨H1.out, H2.out⟩, if_neg H3.out]), rfl⟩
    · have h2b : (chk b != 0) = true := by rw [bne_iff_ne]; exact h2
      have H1 := Lib.hid h1
      have H2 := Lib.hid h2
      clear h1 h2
      go_enter Tryd.func37, Tryd.ntmps37
      go_wp2_with fail
      refine (checkR_any A cA a _ HA.out hma).mono ?_
      rintro e w' ⟨rfl, rfl⟩
      rw [H1.out]
      go_wp2_with fail
      refine (checkR_any B cB b _ HB.out hmb).mono ?_
      rintro e w' ⟨rfl, rfl⟩
      go_wp2
      go_ret
      exact ⟨ret_i (by unfold fit; rw [if_neg (fun h => H2.out h.2)]), rfl⟩
  · have h1b : (chk a != 0) = true := by rw [bne_iff_ne]; exact h1
    have H1 := Lib.hid h1
    clear h1
    go_enter Tryd.func37, Tryd.ntmps37
    go_wp2_with fail
    refine (checkR_any A cA a _ HA.out hma).mono ?_
    rintro e w' ⟨rfl, rfl⟩
    go_wp2
    go_ret
    exact ⟨ret_i (by unfold fit; rw [if_neg (fun h => H1.out h.1)]), rfl⟩

theorem max_any (x y : Int) (w : World) :
    Calls Tryd.prog 36 #[.int .i64 x, .int .i64 y] w fun e w' => e = .returned (.int .i64 (max x y)) ∧ w' = w := by
  go_enter Tryd.func36, Tryd.ntmps36
  go_wp2
  all_goals (go_ret; exact ⟨ret_i (by omega), rfl⟩)

set_option maxHeartbeats 2000000 in
theorem combinemax_any (A B : Option Addr) (cA cB : Nat) (a b : List Int) (w : World) (hA : IntsAt w A a) (hB : IntsAt w B b) (ha : a.length ≤ maxLen) (hb : b.length ≤ maxLen) :
    Calls Tryd.prog 35 #[.slice A a.length cA, .slice B b.length cB, .func (.func 36) #[] #[]] w (RetVec w (Ver.joinL a b) (fit a b)) := by
  have HA := Lib.hid hA
  have HB := Lib.hid hB
  clear hA hB
  by_cases hf : fit a b = 0
  · have HF := Lib.hid hf
    obtain ⟨va, vb⟩ := fit_zero hf
    have HVA := Lib.hid va
    have HVB := Lib.hid vb
    have HL : Hid (a.length = b.length) := vb.1.symm
    have l1 : 1 ≤ a.length := va.2.1
    have l2 : a.length ≤ 16 := va.2.2.1
    obtain ⟨i0, hi, hz0, hz1, hz2⟩ := info_parts infoInt
    clear hf va vb
    go_enter Tryd.func35, Tryd.ntmps35
    go_wp2_with fail
    refine (pair_any A B cA cB a b _ HA.out HB.out ha hb).mono ?_
    rintro e w' ⟨rfl, rfl⟩
    rw [HF.out]
    go_wp2_with (at_make; refine wpList_make_full _ rfl _ _ 23 rfl w.heap.size 3 i0 (.int .i64 0) 1 Tryd.underlying23 hi hz0 hz1 .i64 .i64 _ _ a.length rfl rfl ?c1 ?c2 ?c3 ?c4 ?c5 ?_)
    case c1 => rfl
    case c2 => rfl
    case c3 => rw [hz2]; omega
    case c4 => unfold maxLen; omega
    case c5 => exact Nat.le_refl _
    intro w1 hown hg1
    have HO : Hid (w1.ownsRow w.heap.size 3 1 (.slice (some ⟨w.heap.size, 0, none⟩) a.length a.length) a.length (vals (mixK max a b (List.replicate a.length 0) 0))) := by
      rw [mix_zero]
      have e : vals (List.replicate a.length 0) = (madeCells #[.int .i64 0] a.length).toList := by rw [toList_madeCells_one, vals, List.map_replicate]
      rw [e]; exact hown
    have HB1 : Hid (Below w.heap.size w w1) := (Below.refl _ _).grown hg1 (Nat.le_refl _) (fun g e => by cases e)
    clear hown hg1
    go_wp2
    go_loopw [10, 22] (fun _ i wr => ∃ k : Nat, k ≤ a.length ∧ i = .int .i64 k ∧ wr.ownsRow w.heap.size 3 1 (.slice (some ⟨w.heap.size, 0, none⟩) a.length a.length) a.length (vals (mixK max a b (List.replicate a.length 0) k)) ∧ Below w.heap.size w wr) (fun _ i _ => a.length - (intOf i).toNat)
    case atStart => exact ⟨0, by omega, rfl, HO.out, HB1.out⟩
    case round =>
      obtain ⟨k, hk, rfl, ho, hbw⟩ := hrel
      by_cases hlt : k < a.length
      · have HO1 := Lib.hid ho
        have HBW := Lib.hid hbw
        have hlt2 : k < b.length := by rw [← HL.out]; exact hlt
        obtain ⟨ba, oa, rfl, _, ca⟩ := (HA.out.below hbw).opened (by omega)
        obtain ⟨bb, ob, rfl, _, cb⟩ := (HB.out.below hbw).opened (by omega)
        have c1 := ca k hlt
        have c2 := cb k hlt2
        have co : ∃ u, wr.cell? ⟨w.heap.size, k, none⟩ = some u := by
          rw [ho.cellAt k (by omega), vals_at _ _ (by rw [mix_len max a b _ k hk HL.out (by simp)]; exact hlt)]; exact ⟨_, rfl⟩
        obtain ⟨u, co⟩ := co
        have cf := ho.frozenAt k
        have hst := ho.stored k (.int .i64 (max (elt a k) (elt b k)))
        rw [vals_set, mix_set max a b _ k hlt HL.out (by simp)] at hst
        have HST := Lib.hid hst
        clear ca cb ho hbw hst
        go_wp2
        refine wp_region_still_tail 13 (by kernel_rfl) (by kernel_rfl) ?_
        simp only [List.take_succ_cons, List.take_zero, List.drop_succ_cons, List.drop_zero]
        repeat still_step
        still_call (max_any _ _ _)
        repeat still_step
        refine wpStill_nil ?_
        go_wp2
        go_roundw
        case rel => exact ⟨k + 1, by omega, by go_num, HST.out.1.drew, (HBW.out.setCell (p := ⟨w.heap.size, k, none⟩) (Nat.le_refl _) _).drew⟩
        case measure => simp [intOf]; omega
      · obtain rfl : k = a.length := by omega
        have ez : mixK max a b (List.replicate a.length 0) a.length = Ver.joinL a b := by
          rw [mix_all max a b _ HL.out (by simp), Ver.Vec.joinE HVA.out HVB.out]
        have el : (Ver.joinL a b).length = a.length := by rw [← ez, mix_len max a b _ _ (Nat.le_refl _) HL.out (by simp)]
        rw [ez] at ho
        have HO1 := Lib.hid ho
        have HBW := Lib.hid hbw
        have EL := Lib.hid el
        clear ho hbw ez el
        go_wp2
        go_ret2
        exact ⟨some ⟨w.heap.size, 0, none⟩, a.length, by rw [EL.out, HF.out]; rfl, own_ints HO1.out EL.out, HBW.out⟩
  · have hfb : (fit a b != 0) = true := by rw [bne_iff_ne]; exact hf
    have HF := Lib.hid hf
    clear hf
    go_enter Tryd.func35, Tryd.ntmps35
    go_wp2_with fail
    refine (pair_any A B cA cB a b _ HA.out HB.out ha hb).mono ?_
    rintro e w' ⟨rfl, rfl⟩
    go_wp2
    go_ret2
    have e : Ver.joinL a b = [] := by unfold Ver.joinL; rw [if_neg HF.out]
    rw [e]
    exact ⟨none, 0, rfl, IntsAt.nil _ _, Below.refl _ _⟩

set_option maxHeartbeats 1000000 in
theorem join_any (A B : Option Addr) (cA cB : Nat) (a b : List Int) (w : World) (hA : IntsAt w A a) (hB : IntsAt w B b) (ha : a.length ≤ maxLen) (hb : b.length ≤ maxLen) :
    Calls Tryd.prog 13 #[.slice A a.length cA, .slice B b.length cB] w (RetVec w (Ver.joinL a b) (fit a b)) := by
  have HA := Lib.hid hA
  have HB := Lib.hid hB
  clear hA hB
  go_enter Tryd.func13, Tryd.ntmps13
  go_wp2_with fail
  refine (combinemax_any A B cA cB a b _ HA.out HB.out ha hb).mono ?_
  rintro e w' ⟨A', c', rfl, h1, h2⟩
  have H1 := Lib.hid h1
  have H2 := Lib.hid h2
  clear h1 h2
  go_wp2
  go_ret2
  exact ⟨A', c', rfl, H1.out, H2.out⟩

set_option maxHeartbeats 2000000 in
theorem joinR_any (A B : Option Addr) (cA cB : Nat) (a b : List Int) (w : World) (hA : IntsAt w A a) (hB : IntsAt w B b) (ha : a.length ≤ maxLen) (hb : b.length ≤ maxLen) :
    Calls Tryd.prog 14 #[.slice A a.length cA, .slice B b.length cB] w (RetVec w (Ver.joinL a b) (fit a b)) := by
  have HA := Lib.hid hA
  have HB := Lib.hid hB
  clear hA hB
  by_cases hf : fit a b = 0
  · have HF := Lib.hid hf
    obtain ⟨va, vb⟩ := fit_zero hf
    have HVA := Lib.hid va
    have HVB := Lib.hid vb
    have HL : Hid (a.length = b.length) := vb.1.symm
    have l1 : 1 ≤ a.length := va.2.1
    have l2 : a.length ≤ 16 := va.2.2.1
    obtain ⟨i0, hi, hz0, hz1, hz2⟩ := info_parts infoInt
    clear hf va vb
    obtain ⟨ba, oa, rfl, hba, ca⟩ := HA.out.opened (by omega)
    have HCA := Lib.hid ca
    clear ca
    go_enter Tryd.func14, Tryd.ntmps14
    go_wp2_with fail
    refine (fitR_any _ B cA cB a b _ HA.out HB.out ha hb).mono ?_
    rintro e w' ⟨rfl, rfl⟩
    rw [HF.out]
    go_wp2_with (at_builtin; refine wpList_append_own _ rfl _ _ 23 rfl w.heap.size 3 i0 (.int .i64 0) 1 8 Tryd.underlying23 hi hz0 hz1 hz2 rfl (by decide) _ 0 [] rfl ?c0 ⟨ba, oa, none⟩ a.length cA (vals a) rfl ?c1 ?c2 ?c3 ?c4 ?c5 ?c6 ?_)
    case c0 => exact World.ownsRow_made w #[] 0 (Nat.le_refl _) (by decide) rfl
    case c1 => rw [vals_len, Nat.mul_one]
    case c2 => exact src_cells _ hba HCA.out
    case c3 => intro u hu; obtain ⟨x, _, rfl⟩ := List.mem_map.1 hu; rfl
    case c4 => unfold maxLen; omega
    case c5 => omega
    case c6 => simp
    intro v' w1 hown hg1 _
    obtain ⟨g, cap, hv, hg⟩ := own_pos hown l1
    rw [hv] at hown ⊢
    clear hv
    have HO : Hid (w1.ownsRow w.heap.size 3 1 (.slice (some ⟨g, 0, none⟩) a.length cap) a.length (vals (mixK max a b a 0))) := by rw [mix_zero]; exact hown
    have HB1 : Hid (Below w.heap.size w w1) := ((Below.refl _ _).alloc (Nat.le_refl _) _).grown hg1 (by simp) (fun x e => by simp [Value.ownBlock] at e; omega)
    clear hown hg1
    go_wp2
    go_loopw [8] (fun i wr => ∃ k : Nat, k ≤ a.length ∧ i = .int .i64 k ∧ wr.ownsRow w.heap.size 3 1 (.slice (some ⟨g, 0, none⟩) a.length cap) a.length (vals (mixK max a b a k)) ∧ Below w.heap.size w wr) (fun i _ => a.length - (intOf i).toNat)
    case atStart => exact ⟨0, by omega, rfl, HO.out, HB1.out⟩
    case round =>
      obtain ⟨k, hk, rfl, ho, hbw⟩ := hrel
      by_cases hlt : k < a.length
      · have HO1 := Lib.hid ho
        have HBW := Lib.hid hbw
        have hlt2 : k < b.length := by rw [← HL.out]; exact hlt
        obtain ⟨bb, ob, rfl, _, cb⟩ := (HB.out.below hbw).opened (by omega)
        have c2 := cb k hlt2
        have co : wr.cell? ⟨g, k, none⟩ = some (.int .i64 (elt a k)) := by
          rw [ho.cellAt k (by omega), vals_at _ _ (by rw [mix_len max a b _ k hk HL.out rfl]; exact hlt), mix_here max a b _ k hlt HL.out rfl]
        have cf := ho.frozenAt k
        have hst := ho.stored k (.int .i64 (if elt a k < elt b k then elt b k else elt a k))
        have e1 : (mixK max a b a k).set k (if elt a k < elt b k then elt b k else elt a k) = mixK max a b a (k + 1) := by rw [← max_spell]; exact mix_set max a b _ k hlt HL.out rfl
        rw [vals_set, e1] at hst
        clear e1
        have HST := Lib.hid hst
        clear cb ho hbw hst
        go_wp2
        refine wp_region_still_tail 12 (by kernel_rfl) (by kernel_rfl) ?_
        simp only [List.take_succ_cons, List.take_zero, List.drop_succ_cons, List.drop_zero]
        repeat still_step
        refine wpStill_nil ?_
        go_wp2
        go_roundw
        case rel => exact ⟨k + 1, by omega, by go_num, HST.out.1.drew, (HBW.out.setCell (p := ⟨g, k, none⟩) hg _).drew⟩
        case measure => simp [intOf]; omega
      · obtain rfl : k = a.length := by omega
        have ez : mixK max a b a a.length = Ver.joinL a b := by
          rw [mix_all max a b _ HL.out rfl, Ver.Vec.joinE HVA.out HVB.out]
        have el : (Ver.joinL a b).length = a.length := by rw [← ez, mix_len max a b _ _ (Nat.le_refl _) HL.out rfl]
        rw [ez] at ho
        have HO1 := Lib.hid ho
        have HBW := Lib.hid hbw
        have EL := Lib.hid el
        clear ho hbw ez el
        go_wp2
        go_ret2
        exact ⟨some ⟨g, 0, none⟩, cap, by rw [EL.out, HF.out]; rfl, own_ints HO1.out EL.out, HBW.out⟩
  · have hfb : (fit a b != 0) = true := by rw [bne_iff_ne]; exact hf
    have HF := Lib.hid hf
    clear hf
    go_enter Tryd.func14, Tryd.ntmps14
    go_wp2_with fail
    refine (fitR_any A B cA cB a b _ HA.out HB.out ha hb).mono ?_
    rintro e w' ⟨rfl, rfl⟩
    go_wp2
    go_ret2
    have e : Ver.joinL a b = [] := by unfold Ver.joinL; rw [if_neg HF.out]
    rw [e]
    exact ⟨_, _, rfl, IntsAt.nil _ _, by go_grown⟩

theorem min_any (x y : Int) (w : World) :
    Calls Tryd.prog 38 #[.int .i64 x, .int .i64 y] w fun e w' => e = .returned (.int .i64 (min x y)) ∧ w' = w := by
  go_enter Tryd.func38, Tryd.ntmps38
  go_wp2
  all_goals (go_ret; exact ⟨ret_i (by omega), rfl⟩)

set_option maxHeartbeats 2000000 in
theorem combinemin_any (A B : Option Addr) (cA cB : Nat) (a b : List Int) (w : World) (hA : IntsAt w A a) (hB : IntsAt w B b) (ha : a.length ≤ maxLen) (hb : b.length ≤ maxLen) :
    Calls Tryd.prog 35 #[.slice A a.length cA, .slice B b.length cB, .func (.func 38) #[] #[]] w (RetVec w (Ver.meetL a b) (fit a b)) := by
  have HA := Lib.hid hA
  have HB := Lib.hid hB
  clear hA hB
  by_cases hf : fit a b = 0
  · have HF := Lib.hid hf
    obtain ⟨va, vb⟩ := fit_zero hf
    have HVA := Lib.hid va
    have HVB := Lib.hid vb
    have HL : Hid (a.length = b.length) := vb.1.symm
    have l1 : 1 ≤ a.length := va.2.1
    have l2 : a.length ≤ 16 := va.2.2.1
    obtain ⟨i0, hi, hz0, hz1, hz2⟩ := info_parts infoInt
    clear hf va vb
    go_enter Tryd.func35, Tryd.ntmps35
    go_wp2_with fail
    refine (pair_any A B cA cB a b _ HA.out HB.out ha hb).mono ?_
    rintro e w' ⟨rfl, rfl⟩
    rw [HF.out]
    go_wp2_with (at_make; refine wpList_make_full _ rfl _ _ 23 rfl w.heap.size 3 i0 (.int .i64 0) 1 Tryd.underlying23 hi hz0 hz1 .i64 .i64 _ _ a.length rfl rfl ?c1 ?c2 ?c3 ?c4 ?c5 ?_)
    case c1 => rfl
    case c2 => rfl
    case c3 => rw [hz2]; omega
    case c4 => unfold maxLen; omega
    case c5 => exact Nat.le_refl _
    intro w1 hown hg1
    have HO : Hid (w1.ownsRow w.heap.size 3 1 (.slice (some ⟨w.heap.size, 0, none⟩) a.length a.length) a.length (vals (mixK min a b (List.replicate a.length 0) 0))) := by
      rw [mix_zero]
      have e : vals (List.replicate a.length 0) = (madeCells #[.int .i64 0] a.length).toList := by rw [toList_madeCells_one, vals, List.map_replicate]
      rw [e]; exact hown
    have HB1 : Hid (Below w.heap.size w w1) := (Below.refl _ _).grown hg1 (Nat.le_refl _) (fun g e => by cases e)
    clear hown hg1
    go_wp2
    go_loopw [10, 22] (fun _ i wr => ∃ k : Nat, k ≤ a.length ∧ i = .int .i64 k ∧ wr.ownsRow w.heap.size 3 1 (.slice (some ⟨w.heap.size, 0, none⟩) a.length a.length) a.length (vals (mixK min a b (List.replicate a.length 0) k)) ∧ Below w.heap.size w wr) (fun _ i _ => a.length - (intOf i).toNat)
    case atStart => exact ⟨0, by omega, rfl, HO.out, HB1.out⟩
    case round =>
      obtain ⟨k, hk, rfl, ho, hbw⟩ := hrel
      by_cases hlt : k < a.length
      · have HO1 := Lib.hid ho
        have HBW := Lib.hid hbw
        have hlt2 : k < b.length := by rw [← HL.out]; exact hlt
        obtain ⟨ba, oa, rfl, _, ca⟩ := (HA.out.below hbw).opened (by omega)
        obtain ⟨bb, ob, rfl, _, cb⟩ := (HB.out.below hbw).opened (by omega)
        have c1 := ca k hlt
        have c2 := cb k hlt2
        have co : ∃ u, wr.cell? ⟨w.heap.size, k, none⟩ = some u := by
          rw [ho.cellAt k (by omega), vals_at _ _ (by rw [mix_len min a b _ k hk HL.out (by simp)]; exact hlt)]; exact ⟨_, rfl⟩
        obtain ⟨u, co⟩ := co
        have cf := ho.frozenAt k
        have hst := ho.stored k (.int .i64 (min (elt a k) (elt b k)))
        rw [vals_set, mix_set min a b _ k hlt HL.out (by simp)] at hst
        have HST := Lib.hid hst
        clear ca cb ho hbw hst
        go_wp2
        refine wp_region_still_tail 13 (by kernel_rfl) (by kernel_rfl) ?_
        simp only [List.take_succ_cons, List.take_zero, List.drop_succ_cons, List.drop_zero]
        repeat still_step
        still_call (min_any _ _ _)
        repeat still_step
        refine wpStill_nil ?_
        go_wp2
        go_roundw
        case rel => exact ⟨k + 1, by omega, by go_num, HST.out.1.drew, (HBW.out.setCell (p := ⟨w.heap.size, k, none⟩) (Nat.le_refl _) _).drew⟩
        case measure => simp [intOf]; omega
      · obtain rfl : k = a.length := by omega
        have ez : mixK min a b (List.replicate a.length 0) a.length = Ver.meetL a b := by
          rw [mix_all min a b _ HL.out (by simp), Ver.Vec.meetE HVA.out HVB.out]
        have el : (Ver.meetL a b).length = a.length := by rw [← ez, mix_len min a b _ _ (Nat.le_refl _) HL.out (by simp)]
        rw [ez] at ho
        have HO1 := Lib.hid ho
        have HBW := Lib.hid hbw
        have EL := Lib.hid el
        clear ho hbw ez el
        go_wp2
        go_ret2
        exact ⟨some ⟨w.heap.size, 0, none⟩, a.length, by rw [EL.out, HF.out]; rfl, own_ints HO1.out EL.out, HBW.out⟩
  · have hfb : (fit a b != 0) = true := by rw [bne_iff_ne]; exact hf
    have HF := Lib.hid hf
    clear hf
    go_enter Tryd.func35, Tryd.ntmps35
    go_wp2_with fail
    refine (pair_any A B cA cB a b _ HA.out HB.out ha hb).mono ?_
    rintro e w' ⟨rfl, rfl⟩
    go_wp2
    go_ret2
    have e : Ver.meetL a b = [] := by unfold Ver.meetL; rw [if_neg HF.out]
    rw [e]
    exact ⟨none, 0, rfl, IntsAt.nil _ _, Below.refl _ _⟩

set_option maxHeartbeats 1000000 in
theorem meet_any (A B : Option Addr) (cA cB : Nat) (a b : List Int) (w : World) (hA : IntsAt w A a) (hB : IntsAt w B b) (ha : a.length ≤ maxLen) (hb : b.length ≤ maxLen) :
    Calls Tryd.prog 15 #[.slice A a.length cA, .slice B b.length cB] w (RetVec w (Ver.meetL a b) (fit a b)) := by
  have HA := Lib.hid hA
  have HB := Lib.hid hB
  clear hA hB
  go_enter Tryd.func15, Tryd.ntmps15
  go_wp2_with fail
  refine (combinemin_any A B cA cB a b _ HA.out HB.out ha hb).mono ?_
  rintro e w' ⟨A', c', rfl, h1, h2⟩
  have H1 := Lib.hid h1
  have H2 := Lib.hid h2
  clear h1 h2
  go_wp2
  go_ret2
  exact ⟨A', c', rfl, H1.out, H2.out⟩

set_option maxHeartbeats 2000000 in
theorem meetR_any (A B : Option Addr) (cA cB : Nat) (a b : List Int) (w : World) (hA : IntsAt w A a) (hB : IntsAt w B b) (ha : a.length ≤ maxLen) (hb : b.length ≤ maxLen) :
    Calls Tryd.prog 16 #[.slice A a.length cA, .slice B b.length cB] w (RetVec w (Ver.meetL a b) (fit a b)) := by
  have HA := Lib.hid hA
  have HB := Lib.hid hB
  clear hA hB
  by_cases hf : fit a b = 0
  · have HF := Lib.hid hf
    obtain ⟨va, vb⟩ := fit_zero hf
    have HVA := Lib.hid va
    have HVB := Lib.hid vb
    have HL : Hid (a.length = b.length) := vb.1.symm
    have l1 : 1 ≤ a.length := va.2.1
    have l2 : a.length ≤ 16 := va.2.2.1
    obtain ⟨i0, hi, hz0, hz1, hz2⟩ := info_parts infoInt
    clear hf va vb
    obtain ⟨ba, oa, rfl, hba, ca⟩ := HA.out.opened (by omega)
    have HCA := Lib.hid ca
    clear ca
    go_enter Tryd.func16, Tryd.ntmps16
    go_wp2_with fail
    refine (fitR_any _ B cA cB a b _ HA.out HB.out ha hb).mono ?_
    rintro e w' ⟨rfl, rfl⟩
    rw [HF.out]
    go_wp2_with (at_builtin; refine wpList_append_own _ rfl _ _ 23 rfl w.heap.size 3 i0 (.int .i64 0) 1 8 Tryd.underlying23 hi hz0 hz1 hz2 rfl (by decide) _ 0 [] rfl ?c0 ⟨ba, oa, none⟩ a.length cA (vals a) rfl ?c1 ?c2 ?c3 ?c4 ?c5 ?c6 ?_)
    case c0 => exact World.ownsRow_made w #[] 0 (Nat.le_refl _) (by decide) rfl
    case c1 => rw [vals_len, Nat.mul_one]
    case c2 => exact src_cells _ hba HCA.out
    case c3 => intro u hu; obtain ⟨x, _, rfl⟩ := List.mem_map.1 hu; rfl
    case c4 => unfold maxLen; omega
    case c5 => omega
    case c6 => simp
    intro v' w1 hown hg1 _
    obtain ⟨g, cap, hv, hg⟩ := own_pos hown l1
    rw [hv] at hown ⊢
    clear hv
    have HO : Hid (w1.ownsRow w.heap.size 3 1 (.slice (some ⟨g, 0, none⟩) a.length cap) a.length (vals (mixK min a b a 0))) := by rw [mix_zero]; exact hown
    have HB1 : Hid (Below w.heap.size w w1) := ((Below.refl _ _).alloc (Nat.le_refl _) _).grown hg1 (by simp) (fun x e => by simp [Value.ownBlock] at e; omega)
    clear hown hg1
    go_wp2
    go_loopw [8] (fun i wr => ∃ k : Nat, k ≤ a.length ∧ i = .int .i64 k ∧ wr.ownsRow w.heap.size 3 1 (.slice (some ⟨g, 0, none⟩) a.length cap) a.length (vals (mixK min a b a k)) ∧ Below w.heap.size w wr) (fun i _ => a.length - (intOf i).toNat)
    case atStart => exact ⟨0, by omega, rfl, HO.out, HB1.out⟩
    case round =>
      obtain ⟨k, hk, rfl, ho, hbw⟩ := hrel
      by_cases hlt : k < a.length
      · have HO1 := Lib.hid ho
        have HBW := Lib.hid hbw
        have hlt2 : k < b.length := by rw [← HL.out]; exact hlt
        obtain ⟨bb, ob, rfl, _, cb⟩ := (HB.out.below hbw).opened (by omega)
        have c2 := cb k hlt2
        have co : wr.cell? ⟨g, k, none⟩ = some (.int .i64 (elt a k)) := by
          rw [ho.cellAt k (by omega), vals_at _ _ (by rw [mix_len min a b _ k hk HL.out rfl]; exact hlt), mix_here min a b _ k hlt HL.out rfl]
        have cf := ho.frozenAt k
        have hst := ho.stored k (.int .i64 (if elt b k < elt a k then elt b k else elt a k))
        have e1 : (mixK min a b a k).set k (if elt b k < elt a k then elt b k else elt a k) = mixK min a b a (k + 1) := by rw [← min_spell]; exact mix_set min a b _ k hlt HL.out rfl
        rw [vals_set, e1] at hst
        clear e1
        have HST := Lib.hid hst
        clear cb ho hbw hst
        go_wp2
        refine wp_region_still_tail 12 (by kernel_rfl) (by kernel_rfl) ?_
        simp only [List.take_succ_cons, List.take_zero, List.drop_succ_cons, List.drop_zero]
        repeat still_step
        refine wpStill_nil ?_
        go_wp2
        go_roundw
        case rel => exact ⟨k + 1, by omega, by go_num, HST.out.1.drew, (HBW.out.setCell (p := ⟨g, k, none⟩) hg _).drew⟩
        case measure => simp [intOf]; omega
      · obtain rfl : k = a.length := by omega
        have ez : mixK min a b a a.length = Ver.meetL a b := by
          rw [mix_all min a b _ HL.out rfl, Ver.Vec.meetE HVA.out HVB.out]
        have el : (Ver.meetL a b).length = a.length := by rw [← ez, mix_len min a b _ _ (Nat.le_refl _) HL.out rfl]
        rw [ez] at ho
        have HO1 := Lib.hid ho
        have HBW := Lib.hid hbw
        have EL := Lib.hid el
        clear ho hbw ez el
        go_wp2
        go_ret2
        exact ⟨some ⟨g, 0, none⟩, cap, by rw [EL.out, HF.out]; rfl, own_ints HO1.out EL.out, HBW.out⟩
  · have hfb : (fit a b != 0) = true := by rw [bne_iff_ne]; exact hf
    have HF := Lib.hid hf
    clear hf
    go_enter Tryd.func16, Tryd.ntmps16
    go_wp2_with fail
    refine (fitR_any A B cA cB a b _ HA.out HB.out ha hb).mono ?_
    rintro e w' ⟨rfl, rfl⟩
    go_wp2
    go_ret2
    have e : Ver.meetL a b = [] := by unfold Ver.meetL; rw [if_neg HF.out]
    rw [e]
    exact ⟨_, _, rfl, IntsAt.nil _ _, by go_grown⟩

end Go.Proofs.YtolohghpiccbaaaDoor
