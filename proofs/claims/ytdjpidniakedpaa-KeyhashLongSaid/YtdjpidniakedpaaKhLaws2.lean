/- The laws KeyhashDerive, KeyhashDerived and KeyhashTags, walked. Condition: lengths below the model's greatest. -/
import Derived.Test.YtdjpidniakedpaaKhDerive
namespace Go.Proofs.Ytdjpidniakedpaa
open Go Go.RowKit

theorem derS_is (key s : ByteArray) (hk : key.size = 16) (hs : s.size ≤ 65535) : derS key s = str (Kh.tag key.data.toList (1 :: s.data.toList)) ++ str (Kh.tag key.data.toList (2 :: s.data.toList)) := by unfold derS; rw [if_pos ⟨hk, hs⟩]
theorem derE_is (key s : ByteArray) (hk : key.size = 16) (hs : s.size ≤ 65535) : derE key s = 0 := by unfold derE; rw [if_pos hk, if_pos hs]
theorem derS_size (key s : ByteArray) (hk : key.size = 16) (hs : s.size ≤ 65535) : (derS key s).size = 16 := by rw [derS_is key s hk hs, ByteArray.size_append, tag_size, tag_size]
theorem sumS_is (key s : ByteArray) (l : List UInt8) (hk : key.size = 16) (hs : s.size ≤ 65536) (hl : s.data.toList = l) : sumS key s = str (Kh.tag key.data.toList l) := by unfold sumS; rw [if_pos ⟨hk, hs⟩, hl]
theorem sumE_is (key s : ByteArray) (hk : key.size = 16) (hs : s.size ≤ 65536) : sumE key s = 0 := by unfold sumE; rw [if_pos hk, if_pos hs]

set_option maxHeartbeats 2000000 in
theorem lawDerive (key s : ByteArray) (h1 : key.size ≤ maxLen) (h2 : s.size ≤ maxLen) (w : World) :
    Calls Try.prog 5 #[.string key, .string s] w fun e w' => e = .returned (.bool true) ∧ Below w.heap.size w w' := by
  have H1 := Lib.hid h1
  have H2 := Lib.hid h2
  by_cases hg : (decide (24 < key.size) || decide (600 < s.size)) = true
  · go_enter Try.func5, Try.ntmps5
    go_wp2_with fail
    refine (great_any key s h1 h2 _).mono ?_
    rintro e w1 ⟨rfl, rfl⟩
    rw [hg]
    go_wp2_with fail
    refine (awake_any _).mono ?_
    rintro e w2 ⟨rfl, hb2⟩
    go_wp2
    go_ret
    exact ⟨rfl, hb2⟩
  · have hg' : (decide (24 < key.size) || decide (600 < s.size)) = false := by simpa using hg
    clear hg
    go_enter Try.func5, Try.ntmps5
    go_wp2_with fail
    refine (great_any key s h1 h2 _).mono ?_
    rintro e w1 ⟨rfl, rfl⟩
    rw [hg']
    clear hg'
    go_wp2_with fail
    refine (derive_any key s H1.out H2.out _).mono ?_
    rintro e w2 ⟨rfl, hb2⟩
    go_wp2_with fail
    refine (deriveR_any key s H1.out H2.out _).mono ?_
    rintro e w3 ⟨rfl, hb3⟩
    have hB3 := hb2.trans (hb3.mono hb2.size)
    clear hb2 hb3
    go_wp2_with fail
    refine (awake_any _).mono ?_
    rintro e w4 ⟨rfl, hb4⟩
    have hB4 := hB3.trans (hb4.mono hB3.size)
    clear hB3 hb4
    go_wp2
    go_ret
    exact ⟨rfl, hB4⟩

set_option maxHeartbeats 2000000 in
theorem lawDerived (key s : ByteArray) (h1 : key.size ≤ maxLen) (h2 : s.size ≤ maxLen) (w : World) :
    Calls Try.prog 6 #[.string key, .string s] w fun e w' => e = .returned (.bool true) ∧ Below w.heap.size w w' := by
  have H1 := Lib.hid h1
  have H2 := Lib.hid h2
  by_cases hk : key.size = 16
  · have HK := Lib.hid hk
    have hkb : ((key.size : Int) != 16) = false := by rw [hk]; rfl
    clear hk
    by_cases hg : (decide (24 < key.size) || decide (600 < s.size)) = true
    · go_enter Try.func6, Try.ntmps6
      go_wp2_with fail
      refine (great_any key s h1 h2 _).mono ?_
      rintro e w1 ⟨rfl, rfl⟩
      rw [hg]
      go_wp2_with fail
      refine (awake_any _).mono ?_
      rintro e w2 ⟨rfl, hb2⟩
      go_wp2
      go_ret
      exact ⟨rfl, hb2⟩
    · have hg' : (decide (24 < key.size) || decide (600 < s.size)) = false := by simpa using hg
      have hs : s.size ≤ 600 := by simp at hg'; omega
      have HS := Lib.hid hs
      have d1 := Lib.hid (derS_is key s HK.out (by omega))
      have d2 := Lib.hid (derE_is key s HK.out (by omega))
      have a1 : sumS key (⟨#[1]⟩ ++ s) = str (Kh.tag key.data.toList (1 :: s.data.toList)) := sumS_is key (ahead 1 s) _ HK.out (by rw [ahead_size]; omega) (ahead_list 1 s)
      have a2 : sumE key (⟨#[1]⟩ ++ s) = 0 := sumE_is key (ahead 1 s) HK.out (by rw [ahead_size]; omega)
      have b1 : sumS key (⟨#[2]⟩ ++ s) = str (Kh.tag key.data.toList (2 :: s.data.toList)) := sumS_is key (ahead 2 s) _ HK.out (by rw [ahead_size]; omega) (ahead_list 2 s)
      have b2 : sumE key (⟨#[2]⟩ ++ s) = 0 := sumE_is key (ahead 2 s) HK.out (by rw [ahead_size]; omega)
      have hl1 : (ahead 1 s).size ≤ maxLen := by rw [ahead_size]; unfold maxLen; omega
      have hl2 : (ahead 2 s).size ≤ maxLen := by rw [ahead_size]; unfold maxLen; omega
      have hd16 := derS_size key s HK.out (by omega)
      have hdl : (derS key s).size ≤ maxLen := by rw [hd16]; decide
      have c2 := Lib.hid (derE_is (derS key s) s hd16 (by omega))
      have HA1 := Lib.hid a1
      have HA2 := Lib.hid a2
      have HB1 := Lib.hid b1
      have HB2 := Lib.hid b2
      have HL1 := Lib.hid hl1
      have HL2 := Lib.hid hl2
      have HDL := Lib.hid hdl
      clear a1 a2 b1 b2 hl1 hl2 hdl hd16
      go_enter Try.func6, Try.ntmps6
      go_wp2_with fail
      refine (great_any key s h1 h2 _).mono ?_
      rintro e w1 ⟨rfl, rfl⟩
      rw [hg']
      clear hg' hg
      go_wp2_with fail
      refine (derive_any key s H1.out H2.out _).mono ?_
      rintro e w2 ⟨rfl, hb2⟩
      rw [d2.out]
      go_wp2_with fail
      refine (sum_any key (ahead 1 s) H1.out HL1.out _).mono ?_
      rintro e w3 ⟨rfl, hb3⟩
      have hB3 := hb2.trans (hb3.mono hb2.size)
      clear hb2 hb3
      rw [show sumS key (ahead 1 s) = _ from HA1.out, show sumE key (ahead 1 s) = _ from HA2.out]
      go_wp2_with fail
      refine (sum_any key (ahead 2 s) H1.out HL2.out _).mono ?_
      rintro e w4 ⟨rfl, hb4⟩
      have hB4 := hB3.trans (hb4.mono hB3.size)
      clear hB3 hb4
      rw [show sumS key (ahead 2 s) = _ from HB1.out, show sumE key (ahead 2 s) = _ from HB2.out]
      go_wp2_with fail
      refine (derive_any (derS key s) s HDL.out H2.out _).mono ?_
      rintro e w5 ⟨rfl, hb5⟩
      have hB5 := hB4.trans (hb5.mono hB4.size)
      clear hB4 hb5
      rw [c2.out, d1.out]
      have z1 := Nat.le_of_eq (tag_size key.data.toList (1 :: s.data.toList))
      have z2 := Nat.le_of_eq (tag_size key.data.toList (2 :: s.data.toList))
      go_wp2_with fail
      refine (awake_any _).mono ?_
      rintro e w6 ⟨rfl, hb6⟩
      have hB6 := hB5.trans (hb6.mono hB5.size)
      clear hB5 hb6
      go_wp2
      go_ret
      exact ⟨rfl, hB6⟩
  · have hkb : ((key.size : Int) != 16) = true := by rw [bne_iff_ne]; omega
    go_enter Try.func6, Try.ntmps6
    go_wp2_with fail
    refine (awake_any _).mono ?_
    rintro e w1 ⟨rfl, hb1⟩
    go_wp2
    go_ret
    exact ⟨rfl, hb1⟩

end Go.Proofs.Ytdjpidniakedpaa
