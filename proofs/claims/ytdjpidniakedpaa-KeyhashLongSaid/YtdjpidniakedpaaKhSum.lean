/- Sum and Verify, of the program and of the reference, walked: both give the same plain function. Condition: lengths below the model's greatest. -/
import Derived.Test.YtdjpidniakedpaaKhTag
namespace Go.Proofs.Ytdjpidniakedpaa
open Go Go.RowKit

/-- what Sum gives: the tag, and the error number -/
def sumS (key s : ByteArray) : ByteArray := if key.size = 16 ∧ s.size ≤ 65536 then str (Kh.tag key.data.toList s.data.toList) else ⟨#[]⟩
def sumE (key s : ByteArray) : Int := if key.size = 16 then (if s.size ≤ 65536 then 0 else 4) else 1
def verB (key s tag : ByteArray) : Bool := sumE key s == 0 && (sumS key s).toList == tag.toList

theorem ret2 {k : IntKind} {a a' : ByteArray} {b b' : Int} (h : a = a') (h' : b = b') : Ending.returned (.tuple #[.string a, .int k b]) = .returned (.tuple #[.string a', .int k b']) := by rw [h, h']

set_option maxHeartbeats 1000000 in
theorem sum_any (key s : ByteArray) (_h1 : key.size ≤ maxLen) (h2 : s.size ≤ maxLen) (w : World) :
    Calls Try.prog 13 #[.string key, .string s] w fun e w' => e = .returned (.tuple #[.string (sumS key s), .int .i64 (sumE key s)]) ∧ Below w.heap.size w w' := by
  unfold maxLen at _h1 h2
  by_cases hk : key.size = 16
  · have HK := Lib.hid hk
    have hkb : ((key.size : Int) != 16) = false := by rw [hk]; rfl
    have ha : 15 < key.size := by omega
    have hb : key.size < 17 := by omega
    clear hk
    by_cases hs : s.size ≤ 65536
    · go_enter Try.func13, Try.ntmps13
      go_wp2_with fail
      refine (tag_any key s HK.out (by omega) _).mono ?_
      rintro e w1 ⟨rfl, hb1⟩
      go_wp2
      go_ret2
      exact ⟨ret2 (by unfold sumS; rw [if_pos ⟨HK.out, hs⟩]) (by unfold sumE; rw [if_pos HK.out, if_pos hs]), hb1⟩
    · go_enter Try.func13, Try.ntmps13
      go_wp2
      go_ret2
      exact ⟨ret2 (by unfold sumS; rw [if_neg (fun h => hs h.2)]) (by unfold sumE; rw [if_pos HK.out, if_neg hs]), Below.refl _ _⟩
  · have hkb : ((key.size : Int) != 16) = true := by rw [bne_iff_ne]; omega
    go_enter Try.func13, Try.ntmps13
    go_wp2
    go_ret2
    exact ⟨ret2 (by unfold sumS; rw [if_neg (fun h => hk h.1)]) (by unfold sumE; rw [if_neg hk]), Below.refl _ _⟩

set_option maxHeartbeats 1000000 in
theorem verify_any (key s tag : ByteArray) (h1 : key.size ≤ maxLen) (h2 : s.size ≤ maxLen) (w : World) :
    Calls Try.prog 15 #[.string key, .string s, .string tag] w fun e w' => e = .returned (.bool (verB key s tag)) ∧ Below w.heap.size w w' := by
  by_cases h0 : (sumE key s == 0) = true
  all_goals
    go_enter Try.func15, Try.ntmps15
    go_wp2_with fail
    refine (sum_any key s h1 h2 _).mono ?_
    rintro e w1 ⟨rfl, hb1⟩
    go_wp2
    go_ret
    exact ⟨ret_b (by unfold verB; simp_all), hb1⟩

set_option maxHeartbeats 1000000 in
theorem sumR_any (key s : ByteArray) (_h1 : key.size ≤ maxLen) (h2 : s.size ≤ maxLen) (w : World) :
    Calls Try.prog 14 #[.string key, .string s] w fun e w' => e = .returned (.tuple #[.string (sumS key s), .int .i64 (sumE key s)]) ∧ Below w.heap.size w w' := by
  unfold maxLen at _h1 h2
  by_cases hk : key.size = 16
  · have HK := Lib.hid hk
    have hkb : ((key.size : Int) != 16) = false := by rw [hk]; rfl
    have ha : 15 < key.size := by omega
    have hb : key.size < 17 := by omega
    clear hk
    by_cases hs : s.size ≤ 65536
    · go_enter Try.func14, Try.ntmps14
      go_wp2_with fail
      refine (hashR_any key s HK.out (by omega) _).mono ?_
      rintro e w1 ⟨rfl, hb1⟩
      go_wp2
      go_ret2
      exact ⟨ret2 (by unfold sumS; rw [if_pos ⟨HK.out, hs⟩]) (by unfold sumE; rw [if_pos HK.out, if_pos hs]), hb1⟩
    · go_enter Try.func14, Try.ntmps14
      go_wp2
      go_ret2
      exact ⟨ret2 (by unfold sumS; rw [if_neg (fun h => hs h.2)]) (by unfold sumE; rw [if_pos HK.out, if_neg hs]), Below.refl _ _⟩
  · have hkb : ((key.size : Int) != 16) = true := by rw [bne_iff_ne]; omega
    go_enter Try.func14, Try.ntmps14
    go_wp2
    go_ret2
    exact ⟨ret2 (by unfold sumS; rw [if_neg (fun h => hk h.1)]) (by unfold sumE; rw [if_neg hk]), Below.refl _ _⟩

set_option maxHeartbeats 1000000 in
theorem verifyR_any (key s tag : ByteArray) (h1 : key.size ≤ maxLen) (h2 : s.size ≤ maxLen) (w : World) :
    Calls Try.prog 16 #[.string key, .string s, .string tag] w fun e w' => e = .returned (.bool (verB key s tag)) ∧ Below w.heap.size w w' := by
  by_cases h0 : (sumE key s == 0) = true
  all_goals
    go_enter Try.func16, Try.ntmps16
    go_wp2_with fail
    refine (sumR_any key s h1 h2 _).mono ?_
    rintro e w1 ⟨rfl, hb1⟩
    go_wp2
    go_ret
    exact ⟨ret_b (by unfold verB; simp_all), hb1⟩
end Go.Proofs.Ytdjpidniakedpaa
