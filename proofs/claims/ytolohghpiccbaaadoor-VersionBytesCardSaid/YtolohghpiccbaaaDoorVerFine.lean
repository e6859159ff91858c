/- What the laws call besides: whether lists are vectors of one length, Compare's answer, New; Tick of the reference. Walked. Conditions: the lists lie in memory. -/
import Derived.Test.YtolohghpiccbaaaDoorVerAwake
namespace Go.Proofs.YtolohghpiccbaaaDoor
open Go Go.RowKit
open Ver (at' chk okn fit cov tickE tickL leB cmpV)

def fineB (vs : List (List Int)) : Bool := vs.all fun v => decide (chk v = 0) && decide (v.length = (vs[0]?.getD []).length)
/-- a slice of vectors -/
def RowsAt (w : World) (g : Nat) (vs : List (List Int)) : Prop := ∀ j v, vs[j]? = some v → v.length ≤ maxLen ∧ ∃ A c, w.cell? ⟨g, j, none⟩ = some (.slice A v.length c) ∧ IntsAt w A v
theorem fine_one {a : List Int} (h : fineB [a] = true) : Ver.Vec a.length a := by
  simp [fineB] at h
  exact (Ver.chk_iff a).1 h
theorem fine_two {a b : List Int} (h : fineB [a, b] = true) : Ver.Vec a.length a ∧ Ver.Vec a.length b := by
  simp [fineB] at h
  have k := (Ver.chk_iff b).1 h.2.1
  rw [h.2.2] at k
  exact ⟨(Ver.chk_iff a).1 h.1, k⟩
theorem fine_three {a b c : List Int} (h : fineB [a, b, c] = true) : Ver.Vec a.length a ∧ Ver.Vec a.length b ∧ Ver.Vec a.length c := by
  simp [fineB] at h
  have k := (Ver.chk_iff b).1 h.2.1.1
  rw [h.2.1.2] at k
  have l := (Ver.chk_iff c).1 h.2.2.1
  rw [h.2.2.2] at l
  exact ⟨(Ver.chk_iff a).1 h.1, k, l⟩
theorem vlen {n : Nat} {l : List Int} (h : Ver.Vec n l) : l.length ≤ maxLen := by have h1 := h.1; have h2 := h.2.2.1; unfold maxLen; omega
theorem rows_one {w : World} (t : TypeId) {A : Option Addr} {c : Nat} {a : List Int} (ia : IntsAt w A a) (ma : a.length ≤ maxLen) : RowsAt (w.alloc (.cells #[.slice A a.length c] t)) w.heap.size [a] := by
  intro j x hj
  match j, hj with
  | 0, hj => cases hj; exact ⟨ma, A, c, (Bk.new w t #[.slice A a.length c]).cell 0, ia.alloc _⟩
theorem rows_two {w : World} (t : TypeId) {A B : Option Addr} {c d : Nat} {a b : List Int} (ia : IntsAt w A a) (ma : a.length ≤ maxLen) (ib : IntsAt w B b) (mb : b.length ≤ maxLen) : RowsAt (w.alloc (.cells #[.slice A a.length c, .slice B b.length d] t)) w.heap.size [a, b] := by
  intro j x hj
  match j, hj with
  | 0, hj => cases hj; exact ⟨ma, A, c, (Bk.new w t #[.slice A a.length c, .slice B b.length d]).cell 0, ia.alloc _⟩
  | 1, hj => cases hj; exact ⟨mb, B, d, (Bk.new w t #[.slice A a.length c, .slice B b.length d]).cell 1, ib.alloc _⟩
theorem rows_three {w : World} (t : TypeId) {A B C : Option Addr} {p q r : Nat} {a b c : List Int} (ia : IntsAt w A a) (ma : a.length ≤ maxLen) (ib : IntsAt w B b) (mb : b.length ≤ maxLen) (ic : IntsAt w C c) (mc : c.length ≤ maxLen) :
    RowsAt (w.alloc (.cells #[.slice A a.length p, .slice B b.length q, .slice C c.length r] t)) w.heap.size [a, b, c] := by
  intro j x hj
  match j, hj with
  | 0, hj => cases hj; exact ⟨ma, A, p, (Bk.new w t #[.slice A a.length p, .slice B b.length q, .slice C c.length r]).cell 0, ia.alloc _⟩
  | 1, hj => cases hj; exact ⟨mb, B, q, (Bk.new w t #[.slice A a.length p, .slice B b.length q, .slice C c.length r]).cell 1, ib.alloc _⟩
  | 2, hj => cases hj; exact ⟨mc, C, r, (Bk.new w t #[.slice A a.length p, .slice B b.length q, .slice C c.length r]).cell 2, ic.alloc _⟩
theorem fine_snoc (vs : List (List Int)) (k : Nat) (hk : k < vs.length) (f : List Int → Bool) : (vs.take (k + 1)).all f = ((vs.take k).all f && f vs[k]) := by
  rw [List.take_succ_eq_append_getElem hk, List.all_append]; simp

set_option maxHeartbeats 1000000 in
theorem fine_any (g : Nat) (vs : List (List Int)) (w : World) (h : RowsAt w g vs) (hl : vs.length ≤ 10) :
    Calls Tryd.prog 20 #[.slice (some ⟨g, 0, none⟩) vs.length vs.length] w fun e w' => e = .returned (.bool (fineB vs)) ∧ w = w' := by
  have H := Lib.hid h
  clear h
  go_enter Tryd.func20, Tryd.ntmps20
  go_wp2
  go_loop [4, 7] (fun _ i => ∃ k : Nat, k ≤ vs.length ∧ i = .int .i64 k ∧ (vs.take k).all (fun v => decide (chk v = 0) && decide (v.length = (vs[0]?.getD []).length)) = true) (fun _ i => vs.length - (intOf i).toNat)
  case atStart => exact ⟨0, by omega, rfl, rfl⟩
  case round =>
    obtain ⟨k, hk, rfl, hj⟩ := hrel
    have HJ := Lib.hid hj
    clear hj
    by_cases hlt : k < vs.length
    · obtain ⟨hm, A, c, hc, hi⟩ := H.out k _ (List.getElem?_eq_getElem hlt)
      obtain ⟨hm0, A0, c0, hc0, _⟩ := H.out 0 _ (List.getElem?_eq_getElem (show 0 < vs.length by omega))
      have HS := Lib.hid (fine_snoc vs k hlt (fun v => decide (chk v = 0) && decide (v.length = (vs[0]?.getD []).length)))
      have HN : Hid (¬ (decide (chk vs[k] = 0) && decide (vs[k].length = (vs[0]?.getD []).length)) = true → fineB vs = false) := by
        show _ → _
        intro h
        unfold fineB
        rw [List.all_eq_false]
        exact ⟨_, List.getElem_mem hlt, h⟩
      have H0 : Hid ((vs[0]?.getD []).length = (vs[0]'(by omega)).length) := by show _ = _; rw [List.getElem?_eq_getElem (show 0 < vs.length by omega)]; rfl
      have HI := Lib.hid hi
      clear hi
      generalize vs[0]'(by omega) = v0 at *
      generalize vs[k] = v at *
      have hmm := hm
      unfold maxLen at hm hm0
      by_cases h1 : chk v = 0
      · have H1 := Lib.hid h1
        clear h1
        by_cases h2 : v.length = v0.length
        · have h2b : ((v.length : Int) != (v0.length : Int)) = false := by rw [h2]; simp
          have H2 := Lib.hid h2
          clear h2
          go_wp2_with fail
          refine (check_any A c v _ HI.out hmm).mono ?_
          rintro e w' ⟨rfl, rfl⟩
          rw [H1.out]
          go_wp2
          go_round
          case rel => exact ⟨k + 1, by omega, by go_num, by rw [HS.out, HJ.out, H1.out, H0.out, H2.out]; simp⟩
          case measure => simp [intOf]; omega
        · have h2b : ((v.length : Int) != (v0.length : Int)) = true := by rw [bne_iff_ne]; omega
          have H2 := Lib.hid h2
          clear h2
          go_wp2_with fail
          refine (check_any A c v _ HI.out hmm).mono ?_
          rintro e w' ⟨rfl, rfl⟩
          rw [H1.out]
          go_wp2
          go_ret
          exact ⟨ret_b (HN.out (by rw [H0.out]; simp [H2.out])).symm, rfl⟩
      · have h1b : (chk v != 0) = true := by rw [bne_iff_ne]; exact h1
        have H1 := Lib.hid h1
        clear h1
        go_wp2_with fail
        refine (check_any A c v _ HI.out hmm).mono ?_
        rintro e w' ⟨rfl, rfl⟩
        go_wp2
        go_ret
        exact ⟨ret_b (HN.out (by simp [H1.out])).symm, rfl⟩
    · go_wp2
      go_ret
      have e : (vs.take k).all (fun v => decide (chk v = 0) && decide (v.length = (vs[0]?.getD []).length)) = true := HJ.out
      rw [List.take_of_length_le (by omega)] at e
      exact ⟨ret_b e.symm, rfl⟩

theorem must_any (A : Option Addr) (n c : Nat) (w : World) :
    Calls Tryd.prog 21 #[.slice A n c, .int .i64 0] w fun e w' => e = .returned (.slice A n c) ∧ w = w' := by
  go_enter Tryd.func21, Tryd.ntmps21
  go_wp2
  go_ret
  exact ⟨rfl, rfl⟩

set_option maxHeartbeats 1000000 in
theorem below_any (A B : Option Addr) (cA cB : Nat) (a b : List Int) (w : World) (hA : IntsAt w A a) (hB : IntsAt w B b) (hT : Tab w) {n : Nat} (va : Ver.Vec n a) (vb : Ver.Vec n b) :
    Calls Tryd.prog 22 #[.slice A a.length cA, .slice B b.length cB] w fun e w' => e = .returned (.bool (leB a b)) ∧ Below w.heap.size w w' := by
  have HA := Lib.hid hA
  have HB := Lib.hid hB
  have HT := Lib.hid hT
  have HF := Lib.hid (va.fit vb)
  have HC := Lib.hid (Ver.cmp_of va vb)
  have ma := vlen va
  have mb := vlen vb
  clear hA hB hT va vb
  go_enter Tryd.func22, Tryd.ntmps22
  go_wp2_with fail
  refine (compare_any A B cA cB a b _ HA.out HB.out HT.out ma mb).mono ?_
  rintro e w1 ⟨rfl, hb1⟩
  rw [HF.out, HC.out]
  cases hx : leB a b <;> cases leB b a
  all_goals
    have HX := Lib.hid hx
    clear hx
    simp only [Ver.cmpOf]
    go_wp2
    go_ret
    exact ⟨ret_b HX.out.symm, hb1⟩

/-- what New gives -/
def newL (n : Int) : List Int := if 1 ≤ n ∧ n ≤ 16 then List.replicate n.toNat 0 else []
def newE (n : Int) : Int := if 1 ≤ n ∧ n ≤ 16 then 0 else 4
theorem newL_len (n : Int) : (newL n).length ≤ maxLen := by
  unfold newL maxLen
  split <;> simp
  omega

set_option maxHeartbeats 1000000 in
theorem new_any (n : Int) (w : World) :
    Calls Tryd.prog 25 #[.int .i64 n] w (RetVec w (newL n) (newE n)) := by
  by_cases h1 : n < 1
  · have e1 : newL n = [] := by unfold newL; rw [if_neg (by omega)]
    have e2 : newE n = 4 := by unfold newE; rw [if_neg (by omega)]
    rw [e1, e2]
    clear e1 e2
    go_enter Tryd.func25, Tryd.ntmps25
    go_wp2
    go_ret2
    exact ⟨_, _, rfl, IntsAt.nil _ _, Below.refl _ _⟩
  · by_cases h2 : 16 < n
    · have e1 : newL n = [] := by unfold newL; rw [if_neg (by omega)]
      have e2 : newE n = 4 := by unfold newE; rw [if_neg (by omega)]
      rw [e1, e2]
      clear e1 e2
      go_enter Tryd.func25, Tryd.ntmps25
      go_wp2
      go_ret2
      exact ⟨_, _, rfl, IntsAt.nil _ _, Below.refl _ _⟩
    · obtain ⟨k, rfl⟩ := Int.eq_ofNat_of_zero_le (by omega : 0 ≤ n)
      have e1 : newL k = List.replicate k 0 := by unfold newL; rw [if_pos (by omega), Int.toNat_natCast]
      have e2 : newE k = 0 := by unfold newE; rw [if_pos (by omega)]
      rw [e1, e2]
      clear e1 e2
      obtain ⟨i0, hi, hz0, hz1, hz2⟩ := info_parts infoInt
      go_enter Tryd.func25, Tryd.ntmps25
      go_wp2_with (at_make; refine wpList_make_full _ rfl _ _ 23 rfl w.heap.size 3 i0 (.int .i64 0) 1 Tryd.underlying23 hi hz0 hz1 .i64 .i64 _ _ k rfl rfl ?c1 ?c2 ?c3 ?c4 ?c5 ?_)
      case c1 => rfl
      case c2 => rfl
      case c3 => omega
      case c4 => unfold maxLen; omega
      intro w1 hown hg1
      have HO : Hid (w1.ownsRow w.heap.size 3 1 (.slice (some ⟨w.heap.size, 0, none⟩) k k) k (vals (List.replicate k 0))) := by
        have e : vals (List.replicate k 0) = (madeCells #[.int .i64 0] k).toList := by rw [toList_madeCells_one, vals, List.map_replicate]
        rw [e]; exact hown
      have HB1 : Hid (Below w.heap.size w w1) := (Below.refl _ _).grown hg1 (Nat.le_refl _) (fun g e => by cases e)
      clear hown hg1
      go_wp2
      go_ret2
      exact ⟨some ⟨w.heap.size, 0, none⟩, k, by rw [List.length_replicate]; rfl, own_ints HO.out (by simp), HB1.out⟩

set_option maxHeartbeats 1000000 in
theorem newR_any (n : Int) (w : World) :
    Calls Tryd.prog 26 #[.int .i64 n] w (RetVec w (newL n) (newE n)) := by
  by_cases h1 : n < 1
  · have e1 : newL n = [] := by unfold newL; rw [if_neg (by omega)]
    have e2 : newE n = 4 := by unfold newE; rw [if_neg (by omega)]
    rw [e1, e2]
    clear e1 e2
    go_enter Tryd.func26, Tryd.ntmps26
    go_wp2
    go_ret2
    exact ⟨_, _, rfl, IntsAt.nil _ _, (Below.refl _ _).alloc (Nat.le_refl _) _⟩
  · by_cases h2 : 16 < n
    · have e1 : newL n = [] := by unfold newL; rw [if_neg (by omega)]
      have e2 : newE n = 4 := by unfold newE; rw [if_neg (by omega)]
      rw [e1, e2]
      clear e1 e2
      go_enter Tryd.func26, Tryd.ntmps26
      go_wp2
      go_ret2
      exact ⟨_, _, rfl, IntsAt.nil _ _, (Below.refl _ _).alloc (Nat.le_refl _) _⟩
    · obtain ⟨k, rfl⟩ := Int.eq_ofNat_of_zero_le (by omega : 0 ≤ n)
      have e1 : newL k = List.replicate k 0 := by unfold newL; rw [if_pos (by omega), Int.toNat_natCast]
      have e2 : newE k = 0 := by unfold newE; rw [if_pos (by omega)]
      rw [e1, e2]
      clear e1 e2
      obtain ⟨i0, hi, hz0, hz1, hz2⟩ := info_parts infoInt
      go_enter Tryd.func26, Tryd.ntmps26
      go_wp2_with (at_make; refine wpList_make_full _ rfl _ _ 23 rfl w.heap.size 3 i0 (.int .i64 0) 1 Tryd.underlying23 hi hz0 hz1 .i64 .i64 _ _ k rfl rfl ?c1 ?c2 ?c3 ?c4 ?c5 ?_)
      case c1 => rfl
      case c2 => rfl
      case c3 => omega
      case c4 => unfold maxLen; omega
      intro w1 hown hg1
      have HO : Hid (w1.ownsRow w.heap.size 3 1 (.slice (some ⟨w.heap.size, 0, none⟩) k k) k (vals (List.replicate k 0))) := by
        have e : vals (List.replicate k 0) = (madeCells #[.int .i64 0] k).toList := by rw [toList_madeCells_one, vals, List.map_replicate]
        rw [e]; exact hown
      have HB1 : Hid (Below w.heap.size w w1) := (Below.refl _ _).grown hg1 (Nat.le_refl _) (fun g e => by cases e)
      clear hown hg1
      go_wp2
      go_ret2
      exact ⟨some ⟨w.heap.size, 0, none⟩, k, by rw [List.length_replicate]; rfl, own_ints HO.out (by simp), HB1.out⟩

set_option maxHeartbeats 2000000 in
theorem tickR_any (A : Option Addr) (cA : Nat) (v : List Int) (i : Int) (w : World) (hA : IntsAt w A v) (ha : v.length ≤ maxLen) :
    Calls Tryd.prog 27 #[.slice A v.length cA, .int .i64 i] w (RetVec w (tickL v i) (tickE v i)) := by
  have HA := Lib.hid hA
  clear hA
  have hm := ha
  unfold maxLen at ha
  by_cases h0 : chk v = 0
  · by_cases hlo : i < 0
    · have HT : Hid (tickE v i = 2) := by show _ = _; unfold tickE; rw [if_pos h0, if_neg (by omega)]
      have H0 := Lib.hid h0
      clear h0
      go_enter Tryd.func27, Tryd.ntmps27
      go_wp2_with fail
      refine (checkR_any A cA v _ HA.out hm).mono ?_
      rintro e w' ⟨rfl, rfl⟩
      rw [H0.out]
      go_wp2
      go_ret2
      refine ⟨some ⟨w.heap.size, 0, none⟩, 0, ?_, by rw [tickL_not (by rw [HT.out]; decide)]; exact IntsAt.nil _ _, (Below.refl _ _).alloc (Nat.le_refl _) _⟩
      rw [tickL_not (by rw [HT.out]; decide), HT.out]; rfl
    · by_cases hhi : (v.length : Int) ≤ i
      · have HT : Hid (tickE v i = 2) := by show _ = _; unfold tickE; rw [if_pos h0, if_neg (by omega)]
        have H0 := Lib.hid h0
        clear h0
        go_enter Tryd.func27, Tryd.ntmps27
        go_wp2_with fail
        refine (checkR_any A cA v _ HA.out hm).mono ?_
        rintro e w' ⟨rfl, rfl⟩
        rw [H0.out]
        go_wp2
        go_ret2
        refine ⟨some ⟨w.heap.size, 0, none⟩, 0, ?_, by rw [tickL_not (by rw [HT.out]; decide)]; exact IntsAt.nil _ _, (Below.refl _ _).alloc (Nat.le_refl _) _⟩
        rw [tickL_not (by rw [HT.out]; decide), HT.out]; rfl
      · obtain ⟨i, rfl⟩ := Int.eq_ofNat_of_zero_le (by omega : 0 ≤ i)
        have hin : i < v.length := by omega
        have hvec := (Ver.chk_iff v).1 h0
        have l1 : 1 ≤ v.length := hvec.2.1
        have l2 : v.length ≤ 16 := hvec.2.2.1
        have hrange : 0 ≤ elt v i ∧ elt v i ≤ 1099511627776 := hvec.2.2.2 i hin
        obtain ⟨hr1, hr2⟩ := hrange
        obtain ⟨ba, oa, rfl, hba, ca⟩ := HA.out.opened (by omega)
        have c1 := ca i hin
        have HCA := Lib.hid ca
        clear ca hvec
        by_cases htop : elt v i = 1099511627776
        · have HT : Hid (tickE v (i : Int) = 5) := by show _ = _; unfold tickE; rw [if_pos h0, if_pos (by omega), if_pos (by rw [Int.toNat_natCast]; exact htop)]
          have hb : (elt v i == 1099511627776) = true := by rw [htop]; rfl
          have H0 := Lib.hid h0
          clear h0 htop
          go_enter Tryd.func27, Tryd.ntmps27
          go_wp2_with fail
          refine (checkR_any _ cA v _ HA.out hm).mono ?_
          rintro e w' ⟨rfl, rfl⟩
          rw [H0.out]
          go_wp2
          go_ret2
          refine ⟨some ⟨w.heap.size, 0, none⟩, 0, ?_, by rw [tickL_not (by rw [HT.out]; decide)]; exact IntsAt.nil _ _, (Below.refl _ _).alloc (Nat.le_refl _) _⟩
          rw [tickL_not (by rw [HT.out]; decide), HT.out]; rfl
        · have HT : Hid (tickE v (i : Int) = 0) := by show _ = _; unfold tickE; rw [if_pos h0, if_pos (by omega), if_neg (by rw [Int.toNat_natCast]; exact htop)]
          have hb : (elt v i == 1099511627776) = false := by rw [beq_eq_false_iff_ne]; exact htop
          have hr3 : elt v i < 1099511627776 := by omega
          have H0 := Lib.hid h0
          clear h0 htop
          go_enter Tryd.func27, Tryd.ntmps27
          go_wp2_with fail
          refine (checkR_any _ cA v _ HA.out hm).mono ?_
          rintro e w' ⟨rfl, rfl⟩
          rw [H0.out]
          obtain ⟨i0, hi, hz0, hz1, hz2⟩ := info_parts infoInt
          go_wp2_with (at_builtin; refine wpList_append_own _ rfl _ _ 23 rfl w.heap.size 3 i0 (.int .i64 0) 1 8 Tryd.underlying23 hi hz0 hz1 hz2 rfl (by decide) _ 0 [] rfl ?c0 ⟨ba, oa, none⟩ v.length cA (vals v) rfl ?c1 ?c2 ?c3 ?c4 ?c5 ?c6 ?_)
          case c0 => exact World.ownsRow_made w #[] 0 (Nat.le_refl _) (by decide) rfl
          case c1 => rw [vals_len, Nat.mul_one]
          case c2 => exact src_cells _ hba HCA.out
          case c3 => intro u hu; obtain ⟨x, _, rfl⟩ := List.mem_map.1 hu; rfl
          case c4 => unfold maxLen; omega
          case c5 => omega
          case c6 => simp
          intro v' w1 ho hg1 _
          obtain ⟨g, cap, hv, hg⟩ := own_pos ho l1
          rw [hv] at ho ⊢
          clear hv
          have hb1 : Below w.heap.size w w1 := ((Below.refl _ _).alloc (Nat.le_refl _) _).grown hg1 (by simp) (fun x e => by simp [Value.ownBlock] at e; omega)
          clear hg1
          have cc : w1.cell? ⟨g, i, none⟩ = some (.int .i64 (elt v i)) := by rw [ho.cellAt i (by omega), vals_at _ _ hin]
          have cf := ho.frozenAt i
          have hst := ho.stored i (.int .i64 (elt v i + 1))
          rw [vals_set] at hst
          have HST := Lib.hid hst
          have HB1 := Lib.hid hb1
          clear ho hst hb1 c1
          go_wp2
          go_ret2
          have e1 : tickL v (i : Int) = v.set i (elt v i + 1) := by rw [tickL_zero HT.out, Int.toNat_natCast]
          refine ⟨some ⟨g, 0, none⟩, cap, by rw [HT.out, e1, List.length_set]; rfl, ?_, HB1.out.setCell (p := ⟨g, i, none⟩) hg _⟩
          rw [e1]
          exact own_ints HST.out.1 (by rw [List.length_set])
  · have hb : (chk v != 0) = true := by rw [bne_iff_ne]; exact h0
    have HT : Hid (tickE v i = 1) := by show _ = _; unfold tickE; rw [if_neg h0]
    have H0 := Lib.hid h0
    clear h0
    go_enter Tryd.func27, Tryd.ntmps27
    go_wp2_with fail
    refine (checkR_any A cA v _ HA.out hm).mono ?_
    rintro e w' ⟨rfl, rfl⟩
    go_wp2
    go_ret2
    refine ⟨some ⟨w.heap.size, 0, none⟩, 0, ?_, by rw [tickL_not (by rw [HT.out]; decide)]; exact IntsAt.nil _ _, (Below.refl _ _).alloc (Nat.le_refl _) _⟩
    rw [tickL_not (by rw [HT.out]; decide), HT.out]; rfl

end Go.Proofs.YtolohghpiccbaaaDoor
