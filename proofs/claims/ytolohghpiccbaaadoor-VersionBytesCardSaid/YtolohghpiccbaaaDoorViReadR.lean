/- The reference's length and ReadText, walked. Condition: a length below the model's greatest. -/
import Derived.Test.YtolohghpiccbaaaDoorViReadIntR
import Derived.Test.YtolohghpiccbaaaDoorViText
namespace Go.Proofs.YtolohghpiccbaaaDoor
open Go Go.RowKit

/-- what a length is read as -/
def rlen3 (l : List UInt8) : Int × Int × Int := ((Vi.rlen l).1, ((Vi.rlen l).2.1 : Int), (Vi.rlen l).2.2)
theorem rlen3_ok {l : List UInt8} (h : (rd3 l).2.2 = 0) (h2 : 0 ≤ (rd3 l).1) (h3 : (rd3 l).1 ≤ 65536) : rlen3 l = ((rd3 l).1, (rd3 l).2.1, 0) := by
  unfold rd3 at *; unfold rlen3 Vi.rlen; rw [if_pos h, if_pos ⟨h2, h3⟩]
theorem rlen3_no {l : List UInt8} (h : (rd3 l).2.2 = 0) (h2 : ¬ (0 ≤ (rd3 l).1 ∧ (rd3 l).1 ≤ 65536)) : rlen3 l = (0, 0, 11) := by
  unfold rd3 at *; unfold rlen3 Vi.rlen; rw [if_pos h, if_neg h2]; rfl
theorem rlen3_err {l : List UInt8} (h : ¬ (rd3 l).2.2 = 0) : rlen3 l = (0, 0, (rd3 l).2.2) := by
  unfold rd3 at *; unfold rlen3 Vi.rlen; rw [if_neg h]; rfl

set_option maxHeartbeats 1000000 in
theorem lengthR_any (s : ByteArray) (hs : s.size ≤ maxLen) (w : World) :
    Calls Tryd.prog 55 #[.string s] w fun e w' => e = .returned (.tuple #[.int .i64 (rlen3 s.data.toList).1, .int .i64 (rlen3 s.data.toList).2.1, .int .i64 (rlen3 s.data.toList).2.2]) ∧ w = w' := by
  have r1 := @rlen3_ok s.data.toList
  have r2 := @rlen3_no s.data.toList
  have r3 := @rlen3_err s.data.toList
  by_cases he : (rd3 s.data.toList).2.2 = 0
  · have HE := Lib.hid he
    by_cases h0 : (rd3 s.data.toList).1 < 0
    · have HR := Lib.hid (r2 he (by omega))
      clear r1 r2 r3 he
      go_enter Tryd.func55, Tryd.ntmps55
      go_wp2_with fail
      refine (readIntR_any s hs _).mono ?_
      rintro e w' ⟨rfl, rfl⟩
      rw [HE.out]
      go_wp2
      go_ret3
      exact ⟨three_i HR.out.symm, rfl⟩
    · by_cases h1 : 65536 < (rd3 s.data.toList).1
      · have HR := Lib.hid (r2 he (by omega))
        clear r1 r2 r3 he
        go_enter Tryd.func55, Tryd.ntmps55
        go_wp2_with fail
        refine (readIntR_any s hs _).mono ?_
        rintro e w' ⟨rfl, rfl⟩
        rw [HE.out]
        go_wp2
        go_ret3
        exact ⟨three_i HR.out.symm, rfl⟩
      · have HR := Lib.hid (r1 he (by omega) (by omega))
        clear r1 r2 r3 he
        go_enter Tryd.func55, Tryd.ntmps55
        go_wp2_with fail
        refine (readIntR_any s hs _).mono ?_
        rintro e w' ⟨rfl, rfl⟩
        rw [HE.out]
        go_wp2
        go_ret3
        exact ⟨three_i HR.out.symm, rfl⟩
  · have hb : ((rd3 s.data.toList).2.2 != 0) = true := by rw [bne_iff_ne]; exact he
    have HR := Lib.hid (r3 he)
    clear r1 r2 r3 he
    go_enter Tryd.func55, Tryd.ntmps55
    go_wp2_with fail
    refine (readIntR_any s hs _).mono ?_
    rintro e w' ⟨rfl, rfl⟩
    go_wp2
    go_ret3
    exact ⟨three_i HR.out.symm, rfl⟩

theorem three_s {a a' : ByteArray} {b c b' c' : Int} (h : a = a') (h1 : b = b') (h2 : c = c') : Ending.returned (.tuple #[.string a, .int .i64 b, .int .i64 c]) = .returned (.tuple #[.string a', .int .i64 b', .int .i64 c']) := by rw [h, h1, h2]
/-- what ReadText hands back -/
def RetText (w : World) (l : List UInt8) (e : Ending) (w' : World) : Prop := e = .returned (.tuple #[.string (str (Vi.rtext l).1), .int .i64 ((Vi.rtext l).2.1 : Int), .int .i64 (Vi.rtext l).2.2]) ∧ Below w.heap.size w w'
theorem rtext_of {l : List UInt8} {x : List UInt8} {k : Nat} {e : Int} (h : Vi.rtext l = (x, k, e)) {a : ByteArray} {b c : Int} (ha : a = str x) (hb : b = (k : Int)) (hc : c = e) :
    Ending.returned (.tuple #[.string a, .int .i64 b, .int .i64 c]) = .returned (.tuple #[.string (str (Vi.rtext l).1), .int .i64 ((Vi.rtext l).2.1 : Int), .int .i64 (Vi.rtext l).2.2]) := by
  rw [h, ha, hb, hc]
theorem extract_list (s : ByteArray) (a b : Nat) : (s.extract a b).data.toList = (s.data.toList.drop a).take (b - a) := by
  simp [Array.toList_extract]
theorem extract_str (s : ByteArray) (a b : Nat) : s.extract a b = str ((s.data.toList.drop a).take (b - a)) := by
  rw [← extract_list, str_self]
theorem rlen_bounds {l : List UInt8} (h : (Vi.rlen l).2.2 = 0) : 0 ≤ (Vi.rlen l).1 ∧ (Vi.rlen l).1 ≤ 65536 ∧ 1 ≤ (Vi.rlen l).2.1 ∧ (Vi.rlen l).2.1 ≤ l.length := by
  obtain ⟨h1, h2, h3, h4⟩ := Vi.rlen_ok h
  obtain ⟨_, c2, c3, _⟩ := Vi.rd_range l h1
  rw [h2]
  exact ⟨h3, h4, c2, c3⟩
theorem rtext_short' {l : List UInt8} (h : (Vi.rlen l).2.2 = 0) (h2 : (l.length : Int) - (Vi.rlen l).2.1 < (Vi.rlen l).1) : Vi.rtext l = ([], 0, 12) := by unfold Vi.rtext; rw [if_pos h, if_pos h2]
theorem rtext_ok' {l : List UInt8} (h : (Vi.rlen l).2.2 = 0) (h2 : ¬ (l.length : Int) - (Vi.rlen l).2.1 < (Vi.rlen l).1) : Vi.rtext l = ((l.drop (Vi.rlen l).2.1).take (Vi.rlen l).1.toNat, (Vi.rlen l).2.1 + (Vi.rlen l).1.toNat, 0) := by unfold Vi.rtext; rw [if_pos h, if_neg h2]
theorem rtext_err' {l : List UInt8} (h : ¬ (Vi.rlen l).2.2 = 0) : Vi.rtext l = ([], 0, (Vi.rlen l).2.2) := by unfold Vi.rtext; rw [if_neg h]

end Go.Proofs.YtolohghpiccbaaaDoor
