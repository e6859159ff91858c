/- The encodings of strings and of lists, walked: the program's. Conditions: lengths below the model's greatest; the list lies in memory. -/
import Derived.Test.YtlknjdfiedkhbaaViInt
import Derived.Test.YtlknjdfiedkhbaaBRow
import Derived.Test.YtlknjdfiedkhbaaIntsAt
namespace Go.Proofs.Ytlknjdfiedkhbaa
open Go Go.RowKit

theorem str_app (l : List UInt8) (s : ByteArray) : str l ++ s = str (l ++ s.data.toList) := by
  have h := str_append l s.data.toList
  rwa [str_self] at h
theorem int_size (n : Int) : (str (Vi.intL n)).size ≤ 9 := by rw [str_size]; exact Vi.intL_len9 n

set_option maxHeartbeats 1000000 in
theorem text_any (s : ByteArray) (hs : s.size ≤ maxLen) (w : World) :
    Calls Try.prog 35 #[.string s] w fun e w' => e = .returned (.tuple #[.string (str (Vi.textL s.data.toList)), .int .i64 (Vi.textE s.data.toList)]) ∧ Below w.heap.size w w' := by
  unfold maxLen at hs
  have hl : s.data.toList.length = s.size := by simp
  by_cases h : s.size ≤ 65536
  · have HL : Hid (Vi.textL s.data.toList = Vi.intL s.size ++ s.data.toList) := by show _ = _; unfold Vi.textL; rw [hl, if_pos h]
    have HE : Hid (Vi.textE s.data.toList = 0) := by show _ = _; unfold Vi.textE; rw [hl, if_pos h]
    have h9 := int_size s.size
    clear hl
    go_enter Try.func35, Try.ntmps35
    go_wp2_with fail
    refine (int_any _ _).mono ?_
    rintro e w1 ⟨rfl, hb1⟩
    go_wp2
    go_ret2
    exact ⟨two_e (by rw [HL.out, str_app]) HE.out.symm, hb1⟩
  · have HL : Hid (Vi.textL s.data.toList = []) := by show _ = _; unfold Vi.textL; rw [hl, if_neg h]
    have HE : Hid (Vi.textE s.data.toList = 4) := by show _ = _; unfold Vi.textE; rw [hl, if_neg h]
    clear hl
    go_enter Try.func35, Try.ntmps35
    go_wp2
    go_ret2
    exact ⟨two_e (by rw [HL.out]; rfl) HE.out.symm, Below.refl _ _⟩
end Go.Proofs.Ytlknjdfiedkhbaa
