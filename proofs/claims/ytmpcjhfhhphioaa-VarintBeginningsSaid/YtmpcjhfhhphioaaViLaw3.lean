/- The law VarintReads, walked. Condition: a length below the model's greatest. -/
import Derived.Test.YtmpcjhfhhphioaaViAwake
import Derived.Test.YtmpcjhfhhphioaaViListR
import Derived.Test.YtmpcjhfhhphioaaSameInts
namespace Go.Proofs.Ytmpcjhfhhphioaa
open Go Go.RowKit

theorem rints_len : ∀ (c : Nat) (l : List UInt8) (p : Nat) (acc : List Int), (Vi.rints c l p acc).1.length ≤ acc.length + c
  | 0, _, _, _ => by simp [Vi.rints]
  | c + 1, l, p, acc => by
    unfold Vi.rints
    split
    · have := rints_len c l (p + (Vi.rd (l.drop p)).2.1) (acc ++ [(Vi.rd (l.drop p)).1])
      simp at this ⊢
      omega
    · simp
theorem rlist_len (l : List UInt8) : (Vi.rlist l).1.length ≤ 65536 := by
  unfold Vi.rlist
  split
  · rename_i h
    have := rints_len (Vi.rlen l).1.toNat l (Vi.rlen l).2.1 []
    have := (rlen_bounds h).2.1
    simp at *
    omega
  · simp
theorem rlist_max (l : List UInt8) : (Vi.rlist l).1.length ≤ maxLen := Nat.le_trans (rlist_len l) (by decide)
theorem decide_selfL (l : List Int) : decide (l = l) = true := decide_eq_true rfl

set_option maxHeartbeats 4000000 in
set_option maxRecDepth 100000 in
theorem lawReads (s : ByteArray) (hs : s.size ≤ maxLen) (w : World) :
    Calls Try.prog 5 #[.string s] w fun e w' => e = .returned (.bool true) ∧ Below w.heap.size w w' := by
  have hsm := hs
  unfold maxLen at hs
  have HB : Hid (Below w.heap.size w w) := Below.refl _ _
  go_enter Try.func5, Try.ntmps5
  by_cases h1 : 300 < s.size
  ·
    go_wp2_with fail
    refine (awake_any _).mono ?_
    rintro e w1 ⟨rfl, hb1⟩
    replace HB := Lib.hid (HB.out.trans (hb1.mono HB.out.size))
    clear hb1
    go_wp2
    go_ret
    exact ⟨rfl, HB.out⟩
  go_wp2_with fail
  refine (readInt_any s hsm _).mono ?_
  rintro e w1 ⟨rfl, hb1⟩
  replace HB := Lib.hid (HB.out.trans (hb1.mono HB.out.size))
  clear hb1
  go_wp2_with fail
  refine (readIntR_any s hsm _).mono ?_
  rintro e w2 ⟨rfl, rfl⟩
  go_wp2_with fail
  refine (readText_any s hsm _).mono ?_
  rintro e w3 ⟨rfl, hb3⟩
  replace HB := Lib.hid (HB.out.trans (hb3.mono HB.out.size))
  clear hb3
  go_wp2_with fail
  refine (readTextR_any s hsm _).mono ?_
  rintro e w4 ⟨rfl, hb4⟩
  replace HB := Lib.hid (HB.out.trans (hb4.mono HB.out.size))
  clear hb4
  go_wp2_with fail
  refine (readList_any s hsm _).mono ?_
  rintro e w5 ⟨A5, c5, rfl, hi5, hb5⟩
  have I5 := Lib.hid hi5
  clear hi5
  replace HB := Lib.hid (HB.out.trans (hb5.mono HB.out.size))
  clear hb5
  go_wp2_with fail
  refine (readListR_any s hsm _).mono ?_
  rintro e w6 ⟨A6, c6, rfl, hi6, hb6⟩
  have I6 := Lib.hid hi6
  clear hi6
  replace I5 := Lib.hid (I5.out.below hb6)
  replace HB := Lib.hid (HB.out.trans (hb6.mono HB.out.size))
  clear hb6
  go_wp2_with fail
  refine (same_any A5 A6 c5 c6 _ _ _ I5.out I6.out (rlist_max _) (rlist_max _)).mono ?_
  rintro e w7 ⟨rfl, hb7⟩
  rw [decide_selfL]
  replace I5 := Lib.hid (I5.out.below hb7)
  replace I6 := Lib.hid (I6.out.below hb7)
  replace HB := Lib.hid (HB.out.trans (hb7.mono HB.out.size))
  clear hb7
  go_wp2_with fail
  refine (awake_any _).mono ?_
  rintro e w8 ⟨rfl, hb8⟩
  replace I5 := Lib.hid (I5.out.below hb8)
  replace I6 := Lib.hid (I6.out.below hb8)
  replace HB := Lib.hid (HB.out.trans (hb8.mono HB.out.size))
  clear hb8
  go_wp2
  go_ret
  exact ⟨rfl, HB.out⟩
end Go.Proofs.Ytmpcjhfhhphioaa
