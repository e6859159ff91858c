/- Compare, of the program and of the reference, walked. Conditions: the lists lie in memory; the program's table holds what its initialiser lays. -/
import Derived.Test.YtolohghpiccbaaaDoorVerPair
namespace Go.Proofs.YtolohghpiccbaaaDoor
open Go Go.RowKit
open Ver (at' chk okn fit leK leB cmpV)

/-- the table of the program's results -/
def Tab (w : World) : Prop := w.cell? ⟨0, 0, none⟩ = some (.int .i64 3) ∧ w.cell? ⟨0, 1, none⟩ = some (.int .i64 2) ∧ w.cell? ⟨0, 2, none⟩ = some (.int .i64 1) ∧ w.cell? ⟨0, 3, none⟩ = some (.int .i64 0)
theorem Tab.below {w w' : World} (h : Tab w) (hb : Below w.heap.size w w') : Tab w' := by
  have hk : ∀ o v, w.cell? ⟨0, o, none⟩ = some v → w'.cell? ⟨0, o, none⟩ = some v := fun o v hc => (hb.cell (p := ⟨0, o, none⟩) (World.block_lt_of_cell? w _ hc)).trans hc
  exact ⟨hk _ _ h.1, hk _ _ h.2.1, hk _ _ h.2.2.1, hk _ _ h.2.2.2⟩

theorem index1_any (w : World) : Calls Tryd.prog 40 #[.bool true] w fun e w' => e = .returned (.int .i64 1) ∧ w' = w := by
  go_enter Tryd.func40, Tryd.ntmps40
  go_wp2
  go_ret
  exact ⟨rfl, rfl⟩
theorem index0_any (w : World) : Calls Tryd.prog 40 #[.bool false] w fun e w' => e = .returned (.int .i64 0) ∧ w' = w := by
  go_enter Tryd.func40, Tryd.ntmps40
  go_wp2
  go_ret
  exact ⟨rfl, rfl⟩
theorem leK_succ {a b : List Int} {k : Nat} {x : Bool} (h : leK a b k = x) : leK a b (k + 1) = (x && decide (elt a k ≤ elt b k)) := by rw [leK, h]; rfl
theorem leK_not (a b : List Int) (k : Nat) (hk : k < a.length) (h : elt b k < elt a k) : leB a b = false := by
  rw [Bool.eq_false_iff]
  intro e
  have := (Ver.leB_iff a b).1 e k hk
  rw [elt_at, elt_at] at h
  omega

set_option maxHeartbeats 1000000 in
theorem most_any (A B : Option Addr) (cA cB : Nat) (a b : List Int) (w : World) (hA : IntsAt w A a) (hB : IntsAt w B b) (hl : a.length = b.length) (ha : a.length ≤ 16) :
    Calls Tryd.prog 41 #[.slice A a.length cA, .slice B b.length cB] w fun e w' => e = .returned (.bool (leB a b)) ∧ Below w.heap.size w w' := by
  have HA := Lib.hid hA
  have HB := Lib.hid hB
  have HL := Lib.hid hl
  clear hA hB hl
  go_enter Tryd.func41, Tryd.ntmps41
  go_wp2
  go_loopw [5] (fun i wr => ∃ k n : Nat, k ≤ a.length ∧ i = .int .i64 k ∧ wr = w.drewN n ∧ leK a b k = true) (fun i _ => a.length - (intOf i).toNat)
  case atStart => exact ⟨0, 0, by omega, rfl, rfl, rfl⟩
  case round =>
    obtain ⟨k, n, hk, rfl, rfl, hj⟩ := hrel
    have HJ := Lib.hid hj
    clear hj
    by_cases hlt : k < a.length
    · have hlt2 : k < b.length := by rw [← HL.out]; exact hlt
      obtain ⟨ba, oa, rfl, _, ca⟩ := HA.out.opened (by omega)
      obtain ⟨bb, ob, rfl, _, cb⟩ := HB.out.opened (by omega)
      have c1 := ca k hlt
      have c2 := cb k hlt2
      clear ca cb
      by_cases he : elt a k ≤ elt b k
      · go_wp2
        go_quiet (fail)
        go_wp2
        go_roundw
        case rel => exact ⟨k + 1, n + nq, by omega, by go_num, rfl, by rw [leK_succ HJ.out]; simpa using he⟩
        case measure => simp [intOf]; omega
      · have heb : elt b k < elt a k := by omega
        go_wp2
        go_quiet (fail)
        go_wp2
        go_ret
        exact ⟨ret_b (leK_not a b k hlt heb).symm, below_drawN (below_drawN (Below.refl _ _) _) _⟩
    · obtain rfl : k = a.length := by omega
      go_wp2
      go_ret
      exact ⟨ret_b HJ.out.symm, below_drawN (Below.refl _ _) _⟩

theorem two_i {k : IntKind} {a b a' b' : Int} (h : a = a') (h' : b = b') : Ending.returned (.tuple #[.int k a, .int k b]) = .returned (.tuple #[.int k a', .int k b']) := by rw [h, h']
theorem cmp_is {a b : List Int} {x y : Bool} (hf : fit a b = 0) (h1 : leB a b = x) (h2 : leB b a = y) : cmpV a b = Ver.cmpOf x y := by unfold cmpV; rw [if_pos hf, h1, h2]
theorem cmp_not {a b : List Int} (hf : ¬ fit a b = 0) : cmpV a b = 0 := by unfold cmpV; rw [if_neg hf]
/-- what Compare leaves -/
def RetCmp (w : World) (a b : List Int) (e : Ending) (w' : World) : Prop := e = .returned (.tuple #[.int .i64 (cmpV a b), .int .i64 (fit a b)]) ∧ Below w.heap.size w w'

set_option maxHeartbeats 2000000 in
theorem compareR_any (A B : Option Addr) (cA cB : Nat) (a b : List Int) (w : World) (hA : IntsAt w A a) (hB : IntsAt w B b) (ha : a.length ≤ maxLen) (hb : b.length ≤ maxLen) :
    Calls Tryd.prog 18 #[.slice A a.length cA, .slice B b.length cB] w (RetCmp w a b) := by
  have HA := Lib.hid hA
  have HB := Lib.hid hB
  clear hA hB
  by_cases hf : fit a b = 0
  · have HF := Lib.hid hf
    obtain ⟨va, vb⟩ := fit_zero hf
    have HL : Hid (a.length = b.length) := vb.1.symm
    have l2 : a.length ≤ 16 := va.2.2.1
    have l3 : b.length ≤ 16 := by rw [← HL.out]; exact l2
    clear hf va vb
    go_enter Tryd.func18, Tryd.ntmps18
    go_wp2_with fail
    refine (fitR_any A B cA cB a b _ HA.out HB.out ha hb).mono ?_
    rintro e w' ⟨rfl, rfl⟩
    rw [HF.out]
    go_wp2_with fail
    refine (most_any A B cA cB a b _ HA.out HB.out HL.out l2).mono ?_
    rintro e w1 ⟨rfl, hb1⟩
    have HB1 := Lib.hid hb1
    clear hb1
    go_wp2_with fail
    refine (most_any B A cB cA b a _ (HB.out.below HB1.out) (HA.out.below HB1.out) HL.out.symm l3).mono ?_
    rintro e w2 ⟨rfl, hb2⟩
    have HB2 := Lib.hid (HB1.out.trans (hb2.mono HB1.out.size))
    clear hb2
    cases hx : leB a b <;> cases hy : leB b a
    all_goals
      have HX := Lib.hid hx
      have HY := Lib.hid hy
      clear hx hy
      go_wp2
      go_ret2
      exact ⟨two_i (cmp_is HF.out HX.out HY.out).symm HF.out.symm, HB2.out⟩
  · have hfb : (fit a b != 0) = true := by rw [bne_iff_ne]; exact hf
    have HF := Lib.hid hf
    clear hf
    go_enter Tryd.func18, Tryd.ntmps18
    go_wp2_with fail
    refine (fitR_any A B cA cB a b _ HA.out HB.out ha hb).mono ?_
    rintro e w' ⟨rfl, rfl⟩
    go_wp2
    go_ret2
    exact ⟨two_i (cmp_not HF.out).symm rfl, Below.refl _ _⟩

set_option maxHeartbeats 4000000 in
theorem compare_any (A B : Option Addr) (cA cB : Nat) (a b : List Int) (w : World) (hA : IntsAt w A a) (hB : IntsAt w B b) (hT : Tab w) (ha : a.length ≤ maxLen) (hb : b.length ≤ maxLen) :
    Calls Tryd.prog 17 #[.slice A a.length cA, .slice B b.length cB] w (RetCmp w a b) := by
  have HA := Lib.hid hA
  have HB := Lib.hid hB
  have HT := Lib.hid hT
  clear hA hB hT
  by_cases hf : fit a b = 0
  · have HF := Lib.hid hf
    obtain ⟨va, vb⟩ := fit_zero hf
    have HL : Hid (a.length = b.length) := vb.1.symm
    have l1 : 1 ≤ a.length := va.2.1
    have l2 : a.length ≤ 16 := va.2.2.1
    clear hf va vb
    go_enter Tryd.func17, Tryd.ntmps17
    go_wp2_with fail
    refine (pair_any _ _ cA cB a b _ HA.out HB.out ha hb).mono ?_
    rintro e w' ⟨rfl, rfl⟩
    rw [HF.out]
    go_wp2
    go_loopw [7, 8, 9, 18] (fun x y _ i wr => ∃ k : Nat, k ≤ a.length ∧ i = .int .i64 k ∧ Below w.heap.size w wr ∧ x = .bool (leK a b k) ∧ y = .bool (leK b a k)) (fun _ _ _ i _ => a.length - (intOf i).toNat)
    case atStart => exact ⟨0, by omega, rfl, Below.refl _ _, rfl, rfl⟩
    case round =>
      obtain ⟨k, hk, rfl, hbw, rfl, rfl⟩ := hrel
      have HBW := Lib.hid hbw
      clear hbw
      by_cases hlt : k < a.length
      · have hlt2 : k < b.length := by rw [← HL.out]; exact hlt
        obtain ⟨ba, oa, rfl, _, ca⟩ := (HA.out.below HBW.out).opened (by omega)
        obtain ⟨bb, ob, rfl, _, cb⟩ := (HB.out.below HBW.out).opened (by omega)
        have c1 := ca k hlt
        have c2 := cb k hlt2
        clear ca cb
        cases hx : leK a b k <;> cases hy : leK b a k
        all_goals
          have HX := Lib.hid hx
          have HY := Lib.hid hy
          clear hx hy
          go_wp2
          go_quiet (fail)
          go_wp2
          go_roundw
          case rel => exact ⟨k + 1, by omega, by go_num, below_drawN HBW.out _, by rw [leK_succ HX.out]; rfl, by rw [leK_succ HY.out]; rfl⟩
          case measure => simp [intOf]; omega
      · obtain rfl : k = a.length := by omega
        have HY0 : Hid (leK b a a.length = leB b a) := by rw [HL.out]; rfl
        obtain ⟨t0, t1, t2, t3⟩ := HT.out.below HBW.out
        cases hx : leK a b a.length <;> cases hy : leK b a a.length
        all_goals
          have HX : Hid (leB a b = _) := hx
          have HY : Hid (leB b a = _) := HY0.out.symm.trans hy
          clear hx hy
          go_wp2
          go_quiet ((first | (go_at_call 40; exact Calls.quiet_of_same (index1_any _)) | (go_at_call 40; exact Calls.quiet_of_same (index0_any _))))
          go_wp2
          go_ret2
          exact ⟨two_i (cmp_is HF.out HX.out HY.out).symm HF.out.symm, below_drawN HBW.out _⟩
  · have hfb : (fit a b != 0) = true := by rw [bne_iff_ne]; exact hf
    have HF := Lib.hid hf
    clear hf
    go_enter Tryd.func17, Tryd.ntmps17
    go_wp2_with fail
    refine (pair_any A B cA cB a b _ HA.out HB.out ha hb).mono ?_
    rintro e w' ⟨rfl, rfl⟩
    go_wp2
    go_ret2
    exact ⟨two_i (cmp_not HF.out).symm rfl, Below.refl _ _⟩
end Go.Proofs.YtolohghpiccbaaaDoor
