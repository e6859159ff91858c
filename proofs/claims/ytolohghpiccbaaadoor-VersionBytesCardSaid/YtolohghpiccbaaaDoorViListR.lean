/- ReadList of the reference, walked. Condition: a length below the model's greatest. -/
import Derived.Test.YtolohghpiccbaaaDoorViList
namespace Go.Proofs.YtolohghpiccbaaaDoor
open Go Go.RowKit

set_option maxHeartbeats 4000000 in
set_option maxRecDepth 100000 in
theorem readListR_any (s : ByteArray) (hs : s.size ≤ maxLen) (w : World) :
    Calls Tryd.prog 49 #[.string s] w (RetList w s.data.toList) := by
  have hm := hs
  unfold maxLen at hs
  obtain ⟨i0, hi0, hz0, hz1, hz2⟩ := info_parts infoI
  have hi := fun w => lengthR_any s hm w
  have hbd := @rlen_bounds s.data.toList
  have hsl : s.data.toList.length = s.size := by simp
  rw [hsl] at hbd
  unfold rlen3 at hi
  generalize hrl : Vi.rlen s.data.toList = r at hi hbd
  obtain ⟨n, k0, er⟩ := r
  simp only at hi hbd
  have HI := Lib.hid hi
  have HRL := Lib.hid hrl
  have HBD := Lib.hid hbd
  clear hi hrl hbd hsl
  go_enter Tryd.func49, Tryd.ntmps49
  go_wp2_with fail
  refine (HI.out _).mono ?_
  rintro e w1 ⟨rfl, rfl⟩
  by_cases he : er = 0
  · subst he
    obtain ⟨b1, b2, b3, b4⟩ := HBD.out rfl
    obtain ⟨N, rfl⟩ := Int.eq_ofNat_of_zero_le b1
    have hN2 : N ≤ 65536 := by omega
    clear HI HBD b1 b2
    go_wp2
    have O0 : Hid ((w.alloc (.cells #[] 3)).ownsRow w.heap.size 3 1 (.slice (some ⟨w.heap.size, 0, none⟩) 0 0) 0 (intV [])) := World.ownsRow_made w #[] 0 (Nat.le_refl _) (by decide) rfl
    have B0 : Hid (Below w.heap.size w (w.alloc (.cells #[] 3))) := (Below.refl _ _).alloc (Nat.le_refl _) _
    generalize w.alloc (.cells #[] 3) = W at O0 B0 ⊢
    go_loopw [6, 8, 9, 10, 11, 12] (fun p v i _ _ _ wr => ∃ (k : Nat) (acc : List Int) (q : Nat), i = .int .i64 k ∧ p = .int .i64 q ∧ k ≤ N ∧ acc.length = k ∧ q ≤ s.size ∧ wr.ownsRow w.heap.size 3 1 v k (intV acc) ∧ Below w.heap.size w wr ∧ Vi.rints (N - k) s.data.toList q acc = Vi.rlist s.data.toList) (fun _ _ i _ _ _ _ => N - (intOf i).toNat)
    case atStart => exact ⟨0, [], k0, rfl, rfl, by omega, rfl, b4, O0.out, B0.out, by rw [rlist_ok' HRL.out]; rfl⟩
    case round =>
      clear O0 B0 HRL b3 b4
      obtain ⟨k, acc, q, rfl, rfl, hk, hacc, hq, ho, hbw, hor⟩ := hrel
      have HO := Lib.hid ho
      have HB := Lib.hid hbw
      have HA := Lib.hid hacc
      have HOR := Lib.hid hor
      obtain ⟨Av, cv, rfl⟩ : ∃ A c, u8 = .slice A k c := by
        obtain ⟨A, c, h1, _⟩ := own_list ho hacc
        exact ⟨A, c, by rw [h1, hacc]⟩
      clear ho hbw hacc hor
      have hlow : ∀ j, (Value.slice Av k cv).ownBlock = some j → w.heap.size ≤ j := fun j e => (HO.out.lt _ e).1
      have LOW := Lib.hid hlow
      clear hlow
      by_cases hlt : k < N
      · have hI := readIntR_any (s.extract q s.size) (by simp [ByteArray.size_extract]; unfold maxLen; omega)
        have hex : (s.extract q s.size).data.toList = s.data.toList.drop q := by
          rw [extract_list, List.take_of_length_le (by simp)]
        rw [hex] at hI
        have hft := rd_fits s q hq
        unfold rd3 at hI
        generalize hrd : Vi.rd (s.data.toList.drop q) = r at hI hft
        obtain ⟨x, d, er2⟩ := r
        simp only at hI hft
        have HI := Lib.hid hI
        have HRD := Lib.hid hrd
        have HFT := Lib.hid hft
        clear hI hrd hft hex
        by_cases h2 : er2 = 0
        · subst h2
          have hfit := HFT.out rfl
          have hnext : Hid (Vi.rints (N - (k + 1)) s.data.toList (q + d) (acc ++ [x]) = Vi.rlist s.data.toList) := by
            have h0 := HOR.out
            rw [show N - k = (N - (k + 1)) + 1 by omega] at h0
            show _ = _
            rw [← h0, rints_up HRD.out]
          go_wp2_with fail
          refine (HI.out _).mono ?_
          rintro e w2 ⟨rfl, rfl⟩
          clear HI HRD HOR HFT
          go_wp2_with (at_builtin; refine wpList_append_own _ rfl _ _ 22 rfl w.heap.size 3 i0 (.int .i64 0) 1 8 Tryd.underlying22 hi0 hz0 hz1 hz2 rfl (by decide) _ k (intV acc) rfl (HO.out.alloc _) ⟨wr.heap.size, 0, none⟩ 1 1 [.int .i64 x] rfl rfl ?c1 ?c2 ?c3 ?c4 ?c5 ?_)
          case c1 => exact cell_one_new _ _ _
          case c2 => simp [Value.oneCell']
          case c3 => unfold maxLen; omega
          case c4 => omega
          case c5 => have := HB.out.size; simp; omega
          intro v' w3 hown' hg3 _
          rw [← intV_snoc] at hown'
          have HO3 := Lib.hid hown'
          have HB3 := Lib.hid ((HB.out.alloc HB.out.size (.cells #[.int .i64 x] 3)).grown hg3 (by have := HB.out.size; simp; omega) LOW.out)
          clear hown' hg3 HO HB
          go_wp2
          go_roundw
          case rel => exact ⟨k + 1, acc ++ [x], q + d, by go_num, by go_num, by omega, by simp [HA.out], hfit, HO3.out, HB3.out, hnext.out⟩
          case measure => simp [intOf]; omega
        · have hres : Hid (Vi.rlist s.data.toList = ([], 0, er2)) := by
            have h0 := HOR.out
            rw [show N - k = (N - (k + 1)) + 1 by omega] at h0
            show _ = _
            rw [← h0, rints_no HRD.out h2]
          have heb : (er2 != 0) = true := by rw [bne_iff_ne]; exact h2
          clear h2
          go_wp2_with fail
          refine (HI.out _).mono ?_
          rintro e w2 ⟨rfl, rfl⟩
          go_wp2
          go_ret3
          exact retList_of hres.out rfl rfl rfl (IntsAt.nil _ _) (HB.out.alloc HB.out.size _)
      · obtain rfl : k = N := by omega
        have hres : Hid (Vi.rlist s.data.toList = (acc, q, 0)) := by
          have h0 := HOR.out
          rw [Nat.sub_self] at h0
          show _ = _
          rw [← h0]; rfl
        have hL : Hid (IntsAt wr Av acc) := by
          obtain ⟨A, c, h1, h2⟩ := own_list HO.out HA.out
          cases h1
          exact h2
        go_wp2
        go_ret3
        exact retList_of hres.out HA.out.symm rfl rfl hL.out HB.out
  · have HOR := Lib.hid (rlist_no' HRL.out he)
    have heb : (er != 0) = true := by rw [bne_iff_ne]; exact he
    clear he
    go_wp2
    go_ret3
    exact retList_of HOR.out rfl rfl rfl (IntsAt.nil _ _) ((Below.refl _ _).alloc (Nat.le_refl _) _)
end Go.Proofs.YtolohghpiccbaaaDoor
