/- ReadList of the program and of the reference, walked. Condition: a length below the model's greatest. -/
import Derived.Test.YtolohghpiccbaaaDoorViRead2
import Derived.Test.YtolohghpiccbaaaDoorIntRow
namespace Go.Proofs.YtolohghpiccbaaaDoor
open Go Go.RowKit

/-- what ReadList hands back -/
def RetList (w : World) (l : List UInt8) (e : Ending) (w' : World) : Prop :=
  ∃ A c, e = .returned (.tuple #[.slice A (Vi.rlist l).1.length c, .int .i64 ((Vi.rlist l).2.1 : Int), .int .i64 (Vi.rlist l).2.2]) ∧ IntsAt w' A (Vi.rlist l).1 ∧ Below w.heap.size w w'
theorem retList_of {w w' : World} {l : List UInt8} {x : List Int} {k : Nat} {er : Int} (h : Vi.rlist l = (x, k, er)) {A : Option Addr} {n c : Nat} {b d : Int} (hn : n = x.length) (hb : b = (k : Int)) (hd : d = er) (hA : IntsAt w' A x) (hB : Below w.heap.size w w') :
    RetList w l (.returned (.tuple #[.slice A n c, .int .i64 b, .int .i64 d])) w' := by
  unfold RetList
  rw [h, hn, hb, hd]
  exact ⟨A, c, rfl, hA, hB⟩
theorem rlist_ok' {l : List UInt8} {n : Int} {k : Nat} (h : Vi.rlen l = (n, k, 0)) : Vi.rlist l = Vi.rints n.toNat l k [] := by unfold Vi.rlist; rw [h]; rfl
theorem rlist_no' {l : List UInt8} {n : Int} {k : Nat} {er : Int} (h : Vi.rlen l = (n, k, er)) (he : er ≠ 0) : Vi.rlist l = ([], 0, er) := by unfold Vi.rlist; rw [h]; simp [he]
theorem rints_up {c : Nat} {l : List UInt8} {p : Nat} {acc : List Int} {x : Int} {d : Nat} (h : Vi.rd (l.drop p) = (x, d, 0)) : Vi.rints (c + 1) l p acc = Vi.rints c l (p + d) (acc ++ [x]) := by rw [Vi.rints, h]; rfl
theorem rints_no {c : Nat} {l : List UInt8} {p : Nat} {acc : List Int} {x : Int} {d : Nat} {er : Int} (h : Vi.rd (l.drop p) = (x, d, er)) (he : er ≠ 0) : Vi.rints (c + 1) l p acc = ([], 0, er) := by rw [Vi.rints, h]; simp [he]
theorem rd_fits (s : ByteArray) (q : Nat) (hq : q ≤ s.size) : (Vi.rd (s.data.toList.drop q)).2.2 = 0 → q + (Vi.rd (s.data.toList.drop q)).2.1 ≤ s.size := fun h => by
  have h3 := (Vi.rd_range _ h).2.2.1
  rw [List.length_drop] at h3
  have hl : s.data.toList.length = s.size := by simp
  omega

set_option maxHeartbeats 4000000 in
set_option maxRecDepth 100000 in
theorem readList_any (s : ByteArray) (hs : s.size ≤ maxLen) (w : World) :
    Calls Tryd.prog 48 #[.string s] w (RetList w s.data.toList) := by
  have hm := hs
  unfold maxLen at hs
  obtain ⟨i0, hi0, hz0, hz1, hz2⟩ := info_parts infoI
  have hi := length_any w.heap.size s 0 _ (rdr_new w s) (Nat.zero_le _) hm
  unfold RetLen at hi
  rw [List.drop_zero] at hi
  have hbd := @rlen_bounds s.data.toList
  generalize hrl : Vi.rlen s.data.toList = r at hi hbd
  obtain ⟨n, k, er⟩ := r
  simp only [Nat.zero_add] at hi hbd
  have hn0 : er ≠ 0 → n = 0 := fun he => by
    have h := hrl
    unfold Vi.rlen at h
    split at h
    · split at h
      · simp only [Prod.mk.injEq] at h; exact absurd h.2.2.symm he
      · simp only [Prod.mk.injEq] at h; exact h.1.symm
    · simp only [Prod.mk.injEq] at h; exact h.1.symm
  have HI := Lib.hid hi
  have HRL := Lib.hid hrl
  have hN : 0 ≤ n ∧ n ≤ 65536 := by
    by_cases he : er = 0
    · exact ⟨(hbd he).1, (hbd he).2.1⟩
    · rw [hn0 he]; omega
  clear hi hrl hbd hn0
  obtain ⟨N, rfl⟩ := Int.eq_ofNat_of_zero_le hN.1
  have hN2 : N ≤ 65536 := by omega
  clear hN
  go_enter Tryd.func48, Tryd.ntmps48
  go_wp2_with fail
  refine HI.out.mono ?_
  rintro e w1 ⟨rfl, hG, q, hq, hR, hqe⟩
  have HB := Lib.hid (below_new hG)
  have hsz := hG.size
  rw [World.size_alloc] at hsz
  have HR := Lib.hid hR
  have HQE := Lib.hid hqe
  clear hG HI hR hqe
  go_wp2
  go_loopw [7, 8] (fun v i wr => ∃ (k : Nat) (acc : List Int) (q : Nat) (er : Int), i = .int .i64 k ∧ k ≤ N ∧ acc.length = k ∧ q ≤ s.size ∧ w.heap.size + 1 ≤ wr.heap.size ∧ Rdr wr w.heap.size s q er ∧ wr.ownsRow (w.heap.size + 1) 3 1 v k (intV acc) ∧ Below w.heap.size w wr ∧
    ((er = 0 ∧ Vi.rints (N - k) s.data.toList q acc = Vi.rlist s.data.toList) ∨ (er ≠ 0 ∧ Vi.rlist s.data.toList = ([], 0, er)))) (fun _ i _ => N - (intOf i).toNat)
  case atStart =>
    refine ⟨0, [], q, er, rfl, by omega, rfl, hq, hsz, HR.out, World.ownsRow_nil _ _ _ _, HB.out, ?_⟩
    by_cases he : er = 0
    · subst he
      refine .inl ⟨rfl, ?_⟩
      have e := HQE.out rfl
      rw [rlist_ok' HRL.out, e]; rfl
    · exact .inr ⟨he, rlist_no' HRL.out he⟩
  case round =>
    clear HB HR HQE HRL hsz hq
    obtain ⟨k, acc, q, er, rfl, hk, hacc, hq, hsz, hR, ho, hbw, hor⟩ := hrel
    have HR := Lib.hid hR
    have HO := Lib.hid ho
    have HB := Lib.hid hbw
    have HA := Lib.hid hacc
    have c2 := hR.c2
    obtain ⟨Av, cv, rfl⟩ : ∃ A c, u7 = .slice A k c := by
      obtain ⟨A, c, h1, _⟩ := own_list ho hacc
      exact ⟨A, c, by rw [h1, hacc]⟩
    clear hR ho hbw hacc
    have hne : (Value.slice Av k cv).ownBlock = none ∨ (Value.slice Av k cv).ownBlock ≠ some w.heap.size := .inr (fun e => by have := (HO.out.lt _ e).1; omega)
    have hne2 : some w.heap.size ≠ (Value.slice Av k cv).ownBlock := fun e => by have := (HO.out.lt _ e.symm).1; omega
    have hlow : ∀ j, (Value.slice Av k cv).ownBlock = some j → w.heap.size ≤ j := fun j e => by have := (HO.out.lt _ e).1; omega
    have NE := Lib.hid hne
    have NE2 := Lib.hid hne2
    have LOW := Lib.hid hlow
    clear hne hne2 hlow
    by_cases he : er = 0
    · subst he
      rcases hor with ⟨_, hor⟩ | ⟨h, _⟩
      · have HOR := Lib.hid hor
        clear hor
        by_cases hlt : k < N
        · have hI := integer_any w.heap.size s q wr HR.out hq hm
          have hft := rd_fits s q hq
          have hre := Vi.rd_err (l := s.data.toList.drop q)
          unfold RetRead at hI
          generalize hrd : Vi.rd (s.data.toList.drop q) = r at hI hft hre
          obtain ⟨x, d, er2⟩ := r
          simp only at hI hft hre
          have HI := Lib.hid hI
          have HRD := Lib.hid hrd
          have hfit : q + d ≤ s.size := by
            by_cases h : er2 = 0
            · exact hft h
            · have := (hre h).2; omega
          clear hI hrd hft hre
          have hnext : Hid ((er2 = 0 ∧ Vi.rints (N - (k + 1)) s.data.toList (q + d) (acc ++ [x]) = Vi.rlist s.data.toList) ∨ (er2 ≠ 0 ∧ Vi.rlist s.data.toList = ([], 0, er2))) := by
            have h0 := HOR.out
            rw [show N - k = (N - (k + 1)) + 1 by omega] at h0
            by_cases h : er2 = 0
            · left
              have h1 := HRD.out
              rw [h] at h1
              exact ⟨h, by rw [← h0, rints_up h1]⟩
            · right
              exact ⟨h, by rw [← h0, rints_no HRD.out h]⟩
          go_wp2_with fail
          refine HI.out.mono ?_
          rintro e w2 ⟨rfl, hR2, hG2⟩
          have HO2 := Lib.hid (HO.out.kept hG2 NE.out)
          have HB2 := Lib.hid (below_grown HB.out hG2 (Nat.le_refl _) HB.out.size)
          have hs2 := hG2.size
          have HR2 := Lib.hid hR2
          clear hR2 hG2 HI HRD c2 HR HO HB HOR
          go_wp2_with (at_builtin; refine wpList_append_own _ rfl _ _ 22 rfl (w.heap.size + 1) 3 i0 (.int .i64 0) 1 8 Tryd.underlying22 hi0 hz0 hz1 hz2 rfl (by decide) _ k (intV acc) rfl (HO2.out.alloc _) ⟨w2.heap.size, 0, none⟩ 1 1 [.int .i64 x] rfl rfl ?c1 ?c2 ?c3 ?c4 ?c5 ?_)
          case c1 => exact cell_one_new _ _ _
          case c2 => simp [Value.oneCell']
          case c3 => unfold maxLen; omega
          case c4 => omega
          case c5 => simp; omega
          intro v' w3 hown' hg3 _
          rw [← intV_snoc] at hown'
          have HO3 := Lib.hid hown'
          have HR3 : Hid (Rdr w3 w.heap.size s ((q + d : Nat) : Int) er2) := Bk.grown (Bk.alloc HR2.out _) hg3 NE2.out
          have HB3 := Lib.hid ((HB2.out.alloc HB2.out.size (.cells #[.int .i64 x] 3)).grown hg3 (by simp; omega) LOW.out)
          have hs3 := hg3.size
          rw [World.size_alloc] at hs3
          clear hown' hg3 HR2 HO2 HB2
          go_wp2
          go_roundw
          case rel => exact ⟨k + 1, acc ++ [x], q + d, er2, by go_num, by omega, by simp [HA.out], hfit, by omega, HR3.out, HO3.out, HB3.out, hnext.out⟩
          case measure => simp [intOf]; omega
        · obtain rfl : k = N := by omega
          have hres : Hid (Vi.rlist s.data.toList = (acc, q, 0)) := by
            have h0 := HOR.out
            rw [Nat.sub_self] at h0
            show _ = _
            rw [← h0]; rfl
          have hL : Hid (IntsAt wr Av acc) := by
            obtain ⟨A, c, h1, h2⟩ := own_list HO.out HA.out
            cases h1
            exact h2
          have c1 := HR.out.c1
          go_wp2
          go_quiet (fail)
          go_wp2
          go_ret3
          exact retList_of hres.out HA.out.symm rfl rfl (hL.out.drewN _) (below_drawN HB.out _)
      · exact absurd rfl h
    · rcases hor with ⟨h, _⟩ | ⟨_, hor⟩
      · exact absurd h he
      · have HOR := Lib.hid hor
        have heb : (er == 0) = false := by rw [beq_eq_false_iff_ne]; exact he
        have heb2 : (er != 0) = true := by rw [bne_iff_ne]; exact he
        clear hor he
        by_cases hlt : k < N
        · go_wp2
          go_quiet (fail)
          go_wp2
          go_ret3
          exact retList_of HOR.out rfl rfl rfl (IntsAt.nil _ _) (below_drawN HB.out _)
        · go_wp2
          go_quiet (fail)
          go_wp2
          go_ret3
          exact retList_of HOR.out rfl rfl rfl (IntsAt.nil _ _) (below_drawN HB.out _)
end Go.Proofs.YtolohghpiccbaaaDoor
