/- Tick, Covers and New, of the program and of the reference, walked. Conditions: the list lies in memory; numbers in their kind's range. -/
import Derived.Test.YtolohghpiccbaaaDoorVerCmp
import Derived.Deep.AppendLies
namespace Go.Proofs.YtolohghpiccbaaaDoor
open Go Go.RowKit
open Ver (at' chk okn cov tickE tickL)

theorem tick_zero {v : List Int} {i : Int} (h : tickE v i = 0) : Ver.Vec v.length v ∧ 0 ≤ i ∧ i < v.length ∧ at' v i.toNat ≠ Ver.top := by
  unfold tickE at h
  split at h
  · rename_i h1
    split at h
    · rename_i h2
      split at h
      · exact absurd h (by decide)
      · rename_i h3
        exact ⟨(Ver.chk_iff v).1 h1, h2.1, h2.2, h3⟩
    · exact absurd h (by decide)
  · exact absurd h (by decide)
theorem tickL_zero {v : List Int} {i : Int} (h : tickE v i = 0) : tickL v i = v.set i.toNat (elt v i.toNat + 1) := by
  unfold tickL; rw [if_pos h]; rfl
theorem tickL_not {v : List Int} {i : Int} (h : ¬ tickE v i = 0) : tickL v i = [] := by unfold tickL; rw [if_neg h]

set_option maxHeartbeats 1000000 in
theorem clone_any (ba oa cA : Nat) (a : List Int) (w : World) (hba : ba < w.heap.size) (hc : ∀ k, k < a.length → w.cell? ⟨ba, oa + k, none⟩ = some (.int .i64 (elt a k))) (l1 : 1 ≤ a.length) (l2 : a.length ≤ 16) :
    Calls Tryd.prog 43 #[.slice (some ⟨ba, oa, none⟩) a.length cA] w fun e w' => ∃ g cap, e = .returned (.slice (some ⟨g, 0, none⟩) a.length cap) ∧ w'.ownsRow w.heap.size 3 1 (.slice (some ⟨g, 0, none⟩) a.length cap) a.length (vals a) ∧ w.heap.size ≤ g ∧ Below w.heap.size w w' := by
  obtain ⟨i0, hi, hz0, hz1, hz2⟩ := info_parts infoInt
  have hnil := fun (w : World) => Lib.run_eql_slice_nil (P := Tryd.prog) w 23 3 (some ⟨ba, oa, none⟩) a.length cA 0 0 Tryd.underlying23
  have HC := Lib.hid hc
  clear hc
  go_enter Tryd.func43, Tryd.ntmps43
  go_wp2_with (at_builtin; refine wpList_append_own _ rfl _ _ 23 rfl w.heap.size 3 i0 (.int .i64 0) 1 8 Tryd.underlying23 hi hz0 hz1 hz2 rfl (by decide) _ 0 [] rfl ?c0 ⟨ba, oa, none⟩ a.length cA (vals a) rfl ?c1 ?c2 ?c3 ?c4 ?c5 ?c6 ?_)
  case c0 => exact World.ownsRow_made w #[] 0 (Nat.le_refl _) (by decide) rfl
  case c1 => rw [vals_len, Nat.mul_one]
  case c2 => exact src_cells _ hba HC.out
  case c3 => intro u hu; obtain ⟨x, _, rfl⟩ := List.mem_map.1 hu; rfl
  case c4 => unfold maxLen; omega
  case c5 => omega
  case c6 => simp
  intro v' w1 hown hg1 _
  obtain ⟨g, cap, hv, hg⟩ := own_pos hown l1
  rw [hv] at hown ⊢
  clear hv
  have HO := Lib.hid hown
  have HB1 : Hid (Below w.heap.size w w1) := ((Below.refl _ _).alloc (Nat.le_refl _) _).grown hg1 (by simp) (fun x e => by simp [Value.ownBlock] at e; omega)
  clear hown hg1
  go_wp2
  go_ret
  exact ⟨g, cap, rfl, HO.out, hg, HB1.out⟩

set_option maxHeartbeats 2000000 in
theorem tick_any (A : Option Addr) (cA : Nat) (v : List Int) (i : Int) (w : World) (hA : IntsAt w A v) (ha : v.length ≤ maxLen) :
    Calls Tryd.prog 23 #[.slice A v.length cA, .int .i64 i] w (RetVec w (tickL v i) (tickE v i)) := by
  have HA := Lib.hid hA
  clear hA
  have hm := ha
  unfold maxLen at ha
  by_cases h0 : chk v = 0
  · by_cases hlo : i < 0
    · have HT : Hid (tickE v i = 2) := by show _ = _; unfold tickE; rw [if_pos h0, if_neg (by omega)]
      have H0 := Lib.hid h0
      clear h0
      go_enter Tryd.func23, Tryd.ntmps23
      go_wp2_with fail
      refine (check_any A cA v _ HA.out hm).mono ?_
      rintro e w' ⟨rfl, rfl⟩
      rw [H0.out]
      go_wp2
      go_ret2
      refine ⟨none, 0, ?_, by rw [tickL_not (by rw [HT.out]; decide)]; exact IntsAt.nil _ _, Below.refl _ _⟩
      rw [tickL_not (by rw [HT.out]; decide), HT.out]; rfl
    · by_cases hhi : (v.length : Int) ≤ i
      · have HT : Hid (tickE v i = 2) := by show _ = _; unfold tickE; rw [if_pos h0, if_neg (by omega)]
        have H0 := Lib.hid h0
        clear h0
        go_enter Tryd.func23, Tryd.ntmps23
        go_wp2_with fail
        refine (check_any A cA v _ HA.out hm).mono ?_
        rintro e w' ⟨rfl, rfl⟩
        rw [H0.out]
        go_wp2
        go_ret2
        refine ⟨none, 0, ?_, by rw [tickL_not (by rw [HT.out]; decide)]; exact IntsAt.nil _ _, Below.refl _ _⟩
        rw [tickL_not (by rw [HT.out]; decide), HT.out]; rfl
      · obtain ⟨i, rfl⟩ := Int.eq_ofNat_of_zero_le (by omega : 0 ≤ i)
        have hin : i < v.length := by omega
        have hvec := (Ver.chk_iff v).1 h0
        have l1 : 1 ≤ v.length := hvec.2.1
        have l2 : v.length ≤ 16 := hvec.2.2.1
        have hrange : 0 ≤ elt v i ∧ elt v i ≤ 1099511627776 := hvec.2.2.2 i hin
        obtain ⟨hr1, hr2⟩ := hrange
        obtain ⟨ba, oa, rfl, hba, ca⟩ := HA.out.opened (by omega)
        have c1 := ca i hin
        have HCA := Lib.hid ca
        clear ca hvec
        by_cases htop : elt v i = 1099511627776
        · have HT : Hid (tickE v (i : Int) = 5) := by show _ = _; unfold tickE; rw [if_pos h0, if_pos (by omega), if_pos (by rw [Int.toNat_natCast]; exact htop)]
          have hb : (elt v i == 1099511627776) = true := by rw [htop]; rfl
          have H0 := Lib.hid h0
          clear h0 htop
          go_enter Tryd.func23, Tryd.ntmps23
          go_wp2_with fail
          refine (check_any _ cA v _ HA.out hm).mono ?_
          rintro e w' ⟨rfl, rfl⟩
          rw [H0.out]
          go_wp2
          go_ret2
          refine ⟨none, 0, ?_, by rw [tickL_not (by rw [HT.out]; decide)]; exact IntsAt.nil _ _, Below.refl _ _⟩
          rw [tickL_not (by rw [HT.out]; decide), HT.out]; rfl
        · have HT : Hid (tickE v (i : Int) = 0) := by show _ = _; unfold tickE; rw [if_pos h0, if_pos (by omega), if_neg (by rw [Int.toNat_natCast]; exact htop)]
          have hb : (elt v i == 1099511627776) = false := by rw [beq_eq_false_iff_ne]; exact htop
          have hr3 : elt v i < 1099511627776 := by omega
          have H0 := Lib.hid h0
          clear h0 htop
          go_enter Tryd.func23, Tryd.ntmps23
          go_wp2_with fail
          refine (check_any _ cA v _ HA.out hm).mono ?_
          rintro e w' ⟨rfl, rfl⟩
          rw [H0.out]
          go_wp2_with fail
          refine (clone_any ba oa cA v _ hba HCA.out l1 l2).mono ?_
          rintro e w1 ⟨g, cap, rfl, ho, hg, hb1⟩
          have cc : w1.cell? ⟨g, i, none⟩ = some (.int .i64 (elt v i)) := by rw [ho.cellAt i (by omega), vals_at _ _ hin]
          have cf := ho.frozenAt i
          have hst := ho.stored i (.int .i64 (elt v i + 1))
          rw [vals_set] at hst
          have HST := Lib.hid hst
          have HB1 := Lib.hid hb1
          clear ho hst hb1 c1
          go_wp2
          go_ret2
          have e1 : tickL v (i : Int) = v.set i (elt v i + 1) := by rw [tickL_zero HT.out, Int.toNat_natCast]
          refine ⟨some ⟨g, 0, none⟩, cap, by rw [HT.out, e1, List.length_set]; rfl, ?_, HB1.out.setCell (p := ⟨g, i, none⟩) hg _⟩
          rw [e1]
          exact own_ints HST.out.1 (by rw [List.length_set])
  · have hb : (chk v != 0) = true := by rw [bne_iff_ne]; exact h0
    have HT : Hid (tickE v i = 1) := by show _ = _; unfold tickE; rw [if_neg h0]
    have H0 := Lib.hid h0
    clear h0
    go_enter Tryd.func23, Tryd.ntmps23
    go_wp2_with fail
    refine (check_any A cA v _ HA.out hm).mono ?_
    rintro e w' ⟨rfl, rfl⟩
    go_wp2
    go_ret2
    refine ⟨none, 0, ?_, by rw [tickL_not (by rw [HT.out]; decide)]; exact IntsAt.nil _ _, Below.refl _ _⟩
    rw [tickL_not (by rw [HT.out]; decide), HT.out]; rfl

set_option maxHeartbeats 1000000 in
theorem covers_any (A : Option Addr) (cA : Nat) (v : List Int) (i n : Int) (w : World) (hA : IntsAt w A v) (ha : v.length ≤ maxLen) :
    Calls Tryd.prog 24 #[.slice A v.length cA, .int .i64 i, .int .i64 n] w fun e w' => e = .returned (.bool (cov v i n)) ∧ w = w' := by
  have HA := Lib.hid hA
  clear hA
  have hm := ha
  unfold maxLen at ha
  by_cases h0 : chk v = 0
  · by_cases hlo : i < 0
    · have H0 := Lib.hid h0
      clear h0
      go_enter Tryd.func24, Tryd.ntmps24
      go_wp2_with fail
      refine (check_any A cA v _ HA.out hm).mono ?_
      rintro e w' ⟨rfl, rfl⟩
      rw [H0.out]
      go_wp2
      go_ret
      exact ⟨ret_b (by unfold cov; rw [eq_comm, decide_eq_false_iff_not]; omega), rfl⟩
    · by_cases hhi : (v.length : Int) ≤ i
      · have H0 := Lib.hid h0
        clear h0
        go_enter Tryd.func24, Tryd.ntmps24
        go_wp2_with fail
        refine (check_any A cA v _ HA.out hm).mono ?_
        rintro e w' ⟨rfl, rfl⟩
        rw [H0.out]
        go_wp2
        go_ret
        exact ⟨ret_b (by unfold cov; rw [eq_comm, decide_eq_false_iff_not]; omega), rfl⟩
      · obtain ⟨i, rfl⟩ := Int.eq_ofNat_of_zero_le (by omega : 0 ≤ i)
        have hin : i < v.length := by omega
        obtain ⟨ba, oa, rfl, hba, ca⟩ := HA.out.opened (by omega)
        have c1 := ca i hin
        have H0 := Lib.hid h0
        clear h0 ca
        have HC : Hid (cov v (i : Int) n = decide (n ≤ elt v i)) := by
          show _ = _
          unfold cov
          rw [Bool.eq_iff_iff, decide_eq_true_iff, decide_eq_true_iff, Int.toNat_natCast]
          exact ⟨fun h => h.2.2.2, fun h => ⟨H0.out, by omega, by omega, h⟩⟩
        go_enter Tryd.func24, Tryd.ntmps24
        go_wp2_with fail
        refine (check_any _ cA v _ HA.out hm).mono ?_
        rintro e w' ⟨rfl, rfl⟩
        rw [H0.out]
        go_wp2
        go_ret
        exact ⟨ret_b HC.out.symm, rfl⟩
  · have hb : (chk v == 0) = false := by rw [beq_eq_false_iff_ne]; exact h0
    have H0 := Lib.hid h0
    clear h0
    go_enter Tryd.func24, Tryd.ntmps24
    go_wp2_with fail
    refine (check_any A cA v _ HA.out hm).mono ?_
    rintro e w' ⟨rfl, rfl⟩
    go_wp2
    go_ret
    exact ⟨ret_b (by unfold cov; rw [eq_comm, decide_eq_false_iff_not]; exact fun h => H0.out h.1), rfl⟩
set_option maxHeartbeats 1000000 in
theorem coversR_any (A : Option Addr) (cA : Nat) (v : List Int) (i n : Int) (w : World) (hA : IntsAt w A v) (ha : v.length ≤ maxLen) :
    Calls Tryd.prog 30 #[.slice A v.length cA, .int .i64 i, .int .i64 n] w fun e w' => e = .returned (.bool (cov v i n)) ∧ w = w' := by
  have HA := Lib.hid hA
  clear hA
  have hm := ha
  unfold maxLen at ha
  by_cases h0 : chk v = 0
  · by_cases hlo : i < 0
    · have H0 := Lib.hid h0
      clear h0
      go_enter Tryd.func30, Tryd.ntmps30
      go_wp2_with fail
      refine (checkR_any A cA v _ HA.out hm).mono ?_
      rintro e w' ⟨rfl, rfl⟩
      rw [H0.out]
      go_wp2
      go_ret
      exact ⟨ret_b (by unfold cov; rw [eq_comm, decide_eq_false_iff_not]; omega), rfl⟩
    · by_cases hhi : (v.length : Int) ≤ i
      · have H0 := Lib.hid h0
        clear h0
        go_enter Tryd.func30, Tryd.ntmps30
        go_wp2_with fail
        refine (checkR_any A cA v _ HA.out hm).mono ?_
        rintro e w' ⟨rfl, rfl⟩
        rw [H0.out]
        go_wp2
        go_ret
        exact ⟨ret_b (by unfold cov; rw [eq_comm, decide_eq_false_iff_not]; omega), rfl⟩
      · obtain ⟨i, rfl⟩ := Int.eq_ofNat_of_zero_le (by omega : 0 ≤ i)
        have hin : i < v.length := by omega
        obtain ⟨ba, oa, rfl, hba, ca⟩ := HA.out.opened (by omega)
        have c1 := ca i hin
        have H0 := Lib.hid h0
        clear h0 ca
        have HC : Hid (cov v (i : Int) n = decide (n ≤ elt v i)) := by
          show _ = _
          unfold cov
          rw [Bool.eq_iff_iff, decide_eq_true_iff, decide_eq_true_iff, Int.toNat_natCast]
          exact ⟨fun h => h.2.2.2, fun h => ⟨H0.out, by omega, by omega, h⟩⟩
        go_enter Tryd.func30, Tryd.ntmps30
        go_wp2_with fail
        refine (checkR_any _ cA v _ HA.out hm).mono ?_
        rintro e w' ⟨rfl, rfl⟩
        rw [H0.out]
        go_wp2
        go_ret
        exact ⟨ret_b HC.out.symm, rfl⟩
  · have hb : (chk v == 0) = false := by rw [beq_eq_false_iff_ne]; exact h0
    have H0 := Lib.hid h0
    clear h0
    go_enter Tryd.func30, Tryd.ntmps30
    go_wp2_with fail
    refine (checkR_any A cA v _ HA.out hm).mono ?_
    rintro e w' ⟨rfl, rfl⟩
    go_wp2
    go_ret
    exact ⟨ret_b (by unfold cov; rw [eq_comm, decide_eq_false_iff_not]; exact fun h => H0.out h.1), rfl⟩
end Go.Proofs.YtolohghpiccbaaaDoor
