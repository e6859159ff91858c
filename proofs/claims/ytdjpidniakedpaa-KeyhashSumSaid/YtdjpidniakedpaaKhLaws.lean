/- The laws on Sum and Derive that compare with the reference, walked. Condition: lengths below the model's greatest. -/
import Derived.Test.YtdjpidniakedpaaKhDerive
namespace Go.Proofs.Ytdjpidniakedpaa
open Go Go.RowKit

set_option maxHeartbeats 1000000 in
theorem lawSum (key s tag : ByteArray) (h1 : key.size ≤ maxLen) (h2 : s.size ≤ maxLen) (h3 : tag.size ≤ maxLen) (w : World) :
    Calls Try.prog 3 #[.string key, .string s, .string tag] w fun e w' => e = .returned (.bool true) ∧ Below w.heap.size w w' := by
  have H1 := Lib.hid h1
  have H2 := Lib.hid h2
  by_cases hg : (decide (24 < key.size) || decide (600 < s.size)) = true
  · go_enter Try.func3, Try.ntmps3
    go_wp2_with fail
    refine (great_any key s h1 h2 _).mono ?_
    rintro e w1 ⟨rfl, rfl⟩
    rw [hg]
    go_wp2_with fail
    refine (awake_any _).mono ?_
    rintro e w1 ⟨rfl, hb⟩
    go_wp2
    go_ret
    exact ⟨rfl, hb⟩
  · have hg' : (decide (24 < key.size) || decide (600 < s.size)) = false := by simpa using hg
    clear hg
    unfold maxLen at h3
    by_cases ht : 24 < tag.size
    · go_enter Try.func3, Try.ntmps3
      go_wp2_with fail
      refine (great_any key s h1 h2 _).mono ?_
      rintro e w1 ⟨rfl, rfl⟩
      rw [hg']
      go_wp2_with fail
      refine (awake_any _).mono ?_
      rintro e w1 ⟨rfl, hb⟩
      go_wp2
      go_ret
      exact ⟨rfl, hb⟩
    · go_enter Try.func3, Try.ntmps3
      go_wp2_with fail
      refine (great_any key s h1 h2 _).mono ?_
      rintro e w1 ⟨rfl, rfl⟩
      rw [hg']
      clear hg'
      go_wp2_with fail
      refine (sum_any key s H1.out H2.out _).mono ?_
      rintro e w1 ⟨rfl, hb1⟩
      go_wp2_with fail
      refine (sumR_any key s H1.out H2.out _).mono ?_
      rintro e w2 ⟨rfl, hb2⟩
      have hb := hb1.trans (hb2.mono hb1.size)
      clear hb1 hb2
      go_wp2_with fail
      refine (verify_any key s tag H1.out H2.out _).mono ?_
      rintro e w3 ⟨rfl, hb1⟩
      go_wp2_with fail
      refine (verifyR_any key s tag H1.out H2.out _).mono ?_
      rintro e w4 ⟨rfl, hb2⟩
      have hc := hb.trans (hb1.mono hb.size)
      have hd := hc.trans (hb2.mono hc.size)
      clear hb hc hb1 hb2
      go_wp2_with fail
      refine (awake_any _).mono ?_
      rintro e w5 ⟨rfl, hb1⟩
      go_wp2
      go_ret
      exact ⟨rfl, hd.trans (hb1.mono hd.size)⟩

end Go.Proofs.Ytdjpidniakedpaa
