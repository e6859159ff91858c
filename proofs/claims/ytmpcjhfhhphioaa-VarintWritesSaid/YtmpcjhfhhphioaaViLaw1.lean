/- The law VarintWrites, walked. Conditions: the list lies in memory; lengths below the model's greatest. -/
import Derived.Test.YtmpcjhfhhphioaaViAwake
import Derived.Test.YtmpcjhfhhphioaaViSizeR
import Derived.Test.YtmpcjhfhhphioaaViSize
import Derived.Test.YtmpcjhfhhphioaaRowArg
namespace Go.Proofs.Ytmpcjhfhhphioaa
open Go Go.RowKit

set_option maxHeartbeats 4000000 in
set_option maxRecDepth 100000 in
theorem lawWrites (n : Int) (s : ByteArray) (A : Option Addr) (c : Nat) (l : List Int) (w : World) (hs : s.size ≤ maxLen) (hA : IntsAt w A l) (hl : l.length ≤ maxLen) :
    Calls Try.prog 3 #[.int .i64 n, .string s, .slice A l.length c] w fun e w' => e = .returned (.bool true) ∧ Below w.heap.size w w' := by
  have HI := Lib.hid hA
  clear hA
  have hsm := hs
  have hlm := hl
  unfold maxLen at hs hl
  have HB : Hid (Below w.heap.size w w) := Below.refl _ _
  go_enter Try.func3, Try.ntmps3
  by_cases h1 : 300 < s.size
  ·
    go_wp2_with fail
    refine (awake_any _).mono ?_
    rintro e w1 ⟨rfl, hb1⟩
    replace HI := Lib.hid (HI.out.below hb1)
    replace HB := Lib.hid (HB.out.trans (hb1.mono HB.out.size))
    clear hb1
    go_wp2
    go_ret
    exact ⟨rfl, HB.out⟩
  by_cases h2 : 300 < l.length
  ·
    go_wp2_with fail
    refine (awake_any _).mono ?_
    rintro e w1 ⟨rfl, hb1⟩
    replace HI := Lib.hid (HI.out.below hb1)
    replace HB := Lib.hid (HB.out.trans (hb1.mono HB.out.size))
    clear hb1
    go_wp2
    go_ret
    exact ⟨rfl, HB.out⟩
  go_wp2_with fail
  refine (int_any n _).mono ?_
  rintro e w1 ⟨rfl, hb1⟩
  replace HI := Lib.hid (HI.out.below hb1)
  replace HB := Lib.hid (HB.out.trans (hb1.mono HB.out.size))
  clear hb1
  go_wp2_with fail
  refine (intR_any n _).mono ?_
  rintro e w2 ⟨rfl, hb2⟩
  replace HI := Lib.hid (HI.out.below hb2)
  replace HB := Lib.hid (HB.out.trans (hb2.mono HB.out.size))
  clear hb2
  go_wp2_with fail
  refine (text_any s hsm _).mono ?_
  rintro e w3 ⟨rfl, hb3⟩
  replace HI := Lib.hid (HI.out.below hb3)
  replace HB := Lib.hid (HB.out.trans (hb3.mono HB.out.size))
  clear hb3
  go_wp2_with fail
  refine (textR_any s hsm _).mono ?_
  rintro e w4 ⟨rfl, hb4⟩
  replace HI := Lib.hid (HI.out.below hb4)
  replace HB := Lib.hid (HB.out.trans (hb4.mono HB.out.size))
  clear hb4
  go_wp2_with fail
  refine (list_any A c l _ HI.out hlm).mono ?_
  rintro e w5 ⟨rfl, hb5⟩
  replace HI := Lib.hid (HI.out.below hb5)
  replace HB := Lib.hid (HB.out.trans (hb5.mono HB.out.size))
  clear hb5
  go_wp2_with fail
  refine (listR_any A c l _ HI.out hlm).mono ?_
  rintro e w6 ⟨rfl, hb6⟩
  replace HI := Lib.hid (HI.out.below hb6)
  replace HB := Lib.hid (HB.out.trans (hb6.mono HB.out.size))
  clear hb6
  generalize Vi.intL n = x1
  generalize Vi.intE n = e1
  go_wp2_with fail
  refine (size_any n _).mono ?_
  rintro e w7 ⟨rfl, hb7⟩
  replace HI := Lib.hid (HI.out.below hb7)
  replace HB := Lib.hid (HB.out.trans (hb7.mono HB.out.size))
  clear hb7
  go_wp2_with fail
  refine (sizeR_any n _).mono ?_
  rintro e w8 ⟨rfl, hb8⟩
  replace HI := Lib.hid (HI.out.below hb8)
  replace HB := Lib.hid (HB.out.trans (hb8.mono HB.out.size))
  clear hb8
  go_wp2_with fail
  refine (awake_any _).mono ?_
  rintro e w9 ⟨rfl, hb9⟩
  replace HI := Lib.hid (HI.out.below hb9)
  replace HB := Lib.hid (HB.out.trans (hb9.mono HB.out.size))
  clear hb9
  go_wp2
  go_ret
  exact ⟨rfl, HB.out⟩

/-- The same at the row's own slice. -/
theorem lawWritesW (n : Int) (s : ByteArray) (A : Option Addr) (len cap : Nat) (zs : List Int) (w : World) (_ : (Lit.int .i64 n).wf = true) (hs : s.size ≤ maxLen)
    (h : (A = none ∧ len = 0 ∧ cap = 0 ∧ zs = []) ∨ ∃ x, A = some x ∧ len ≤ cap ∧ cap ≤ maxLen ∧ zs.length = cap ∧ (∀ i, i < zs.length → w.cell? (x.add i) = some (.int .i64 (zs.getD i 0))) ∧ ∀ n ∈ zs, (Lit.int .i64 n).wf = true) :
    Calls Try.prog 3 #[.int .i64 n, .string s, .slice A len cap] w fun e w' => e = .returned (.bool true) ∧ Below w.heap.size w w' := by
  obtain ⟨l, rfl, hl, hA, _⟩ := ints_of_row h
  exact lawWrites n s A cap l w hs hA hl
end Go.Proofs.Ytmpcjhfhhphioaa
