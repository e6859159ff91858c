/- The law KeyhashKeys, walked. Condition: lengths below the greatest of the model. -/
import Derived.Test.YtdjpidniakedpaaKhChain
import Derived.Test.YtdjpidniakedpaaKhTags
namespace Go.Proofs.Ytdjpidniakedpaa
open Go Go.RowKit

theorem verB_no (key s t : ByteArray) (h : sumE key s ≠ 0) : verB key s t = false := by
  unfold verB
  rw [show (sumE key s == 0) = false from by simpa using h]; rfl
theorem one_str (w : World) (s : ByteArray) (t : TypeId) : StrsAt (w.alloc (.cells #[.string s] t)) (some ⟨w.heap.size, 0, none⟩) [s] := by
  intro k u hk
  match k, hk with
  | 0, hk => cases hk; exact ⟨_, _, rfl, (Bk.new w t #[.string s]).cell 0⟩
theorem one_small (s : ByteArray) (n : Nat) (h : s.size ≤ n) : ∀ (k : Nat) (u : ByteArray), [s][k]? = some u → u.size ≤ n := by
  intro k u hk
  match k, hk with
  | 0, hk => cases hk; exact h

set_option maxHeartbeats 2000000 in
theorem lawKeys (key s : ByteArray) (h1 : key.size ≤ maxLen) (h2 : s.size ≤ maxLen) (w : World) :
    Calls Try.prog 7 #[.string key, .string s] w fun e w' => e = .returned (.bool true) ∧ Below w.heap.size w w' := by
  have H1 := Lib.hid h1
  have H2 := Lib.hid h2
  by_cases hg : (decide (24 < key.size) || decide (600 < s.size)) = true
  · go_enter Try.func7, Try.ntmps7
    go_wp2_with fail
    refine (great_any key s h1 h2 _).mono ?_
    rintro e w1 ⟨rfl, rfl⟩
    rw [hg]
    go_wp2_with fail
    refine (awake_any _).mono ?_
    rintro e w1 ⟨rfl, hb⟩
    go_wp2
    go_ret
    exact ⟨rfl, hb⟩
  · have hg' : (decide (24 < key.size) || decide (600 < s.size)) = false := by simpa using hg
    have hs : s.size ≤ 600 := by simp at hg'; omega
    have HS := Lib.hid hs
    clear hg
    by_cases hk : key.size = 16
    · have HK := Lib.hid hk
      have hkb : ((key.size : Int) != 16) = false := by rw [hk]; rfl
      have a2 := Lib.hid (sumE_is key s HK.out (by omega))
      have d2 := Lib.hid (derE_is key s HK.out (by omega))
      have c2 : Hid (chE key [s] = 0) := by
        show chE key [s] = 0
        unfold chE
        rw [if_pos hk, if_pos (by simp [allB, chunk_len]; omega)]
      clear hk hs
      go_enter Try.func7, Try.ntmps7
      go_wp2_with fail
      refine (great_any key s h1 h2 _).mono ?_
      rintro e w1 ⟨rfl, rfl⟩
      rw [hg']
      clear hg'
      go_wp2_with fail
      refine (sum_any key s H1.out H2.out _).mono ?_
      rintro e w1 ⟨rfl, hb1⟩
      rw [a2.out]
      go_wp2_with fail
      refine (derive_any key s H1.out H2.out _).mono ?_
      rintro e w2 ⟨rfl, hb2⟩
      rw [d2.out]
      have hB := Lib.hid (hb1.trans (hb2.mono hb1.size))
      clear hb1 hb2
      go_wp2_with fail
      refine (chain_any key _ 1 [s] (one_small s _ (by have := HS.out; omega)) (by simp) _ (one_str _ s _)).mono ?_
      rintro e w3 ⟨rfl, hb3⟩
      rw [c2.out]
      have hB3 := Lib.hid (hB.out.trans (((Below.refl _ _).alloc (Nat.le_refl _) _ |>.trans (hb3.mono (by simp))).mono hB.out.size))
      clear hB hb3
      go_wp2_with fail
      refine (awake_any _).mono ?_
      rintro e w4 ⟨rfl, hb4⟩
      go_wp2
      go_ret
      exact ⟨rfl, hB3.out.trans (hb4.mono hB3.out.size)⟩
    · have hkb : ((key.size : Int) != 16) = true := by rw [bne_iff_ne]; omega
      have HK := Lib.hid hk
      have a1 : sumS key s = ⟨#[]⟩ := by unfold sumS; rw [if_neg (fun h => hk h.1)]
      have a2 : sumE key s = 1 := by unfold sumE; rw [if_neg hk]
      have d1 : derS key s = ⟨#[]⟩ := by unfold derS; rw [if_neg (fun h => hk h.1)]
      have d2 : derE key s = 1 := by unfold derE; rw [if_neg hk]
      have c1 : chS key [s] = ⟨#[]⟩ := by unfold chS; rw [if_neg (fun h => hk h.1)]
      have c2 : chE key [s] = 1 := by unfold chE; rw [if_neg hk]
      have v1 : verB key s ⟨#[]⟩ = false := verB_no key s _ (by rw [a2]; decide)
      have A1 := Lib.hid a1
      have A2 := Lib.hid a2
      have D1 := Lib.hid d1
      have D2 := Lib.hid d2
      have C1 := Lib.hid c1
      have C2 := Lib.hid c2
      have V1 := Lib.hid v1
      have e0 : ((⟨#[]⟩ : ByteArray) ++ ⟨#[]⟩ ++ ⟨#[]⟩).toList = [] := by rw [list_toList]; simp
      clear hk hs a1 a2 d1 d2 c1 c2 v1
      go_enter Try.func7, Try.ntmps7
      go_wp2_with fail
      refine (great_any key s h1 h2 _).mono ?_
      rintro e w1 ⟨rfl, rfl⟩
      rw [hg']
      clear hg'
      go_wp2_with fail
      refine (sum_any key s H1.out H2.out _).mono ?_
      rintro e w1 ⟨rfl, hb1⟩
      rw [A1.out, A2.out]
      go_wp2_with fail
      refine (derive_any key s H1.out H2.out _).mono ?_
      rintro e w2 ⟨rfl, hb2⟩
      rw [D1.out, D2.out]
      have hB := Lib.hid (hb1.trans (hb2.mono hb1.size))
      clear hb1 hb2
      go_wp2_with fail
      refine (chain_any key _ 1 [s] (one_small s _ (by have := HS.out; omega)) (by simp) _ (one_str _ s _)).mono ?_
      rintro e w3 ⟨rfl, hb3⟩
      rw [C1.out, C2.out]
      have hB3 := Lib.hid (hB.out.trans (((Below.refl _ _).alloc (Nat.le_refl _) _ |>.trans (hb3.mono (by simp))).mono hB.out.size))
      clear hB hb3
      go_wp2_with fail
      refine (verify_any key s ⟨#[]⟩ H1.out H2.out _).mono ?_
      rintro e w4 ⟨rfl, hb4⟩
      rw [V1.out]
      have hB4 := Lib.hid (hB3.out.trans (hb4.mono hB3.out.size))
      clear hB3 hb4
      go_wp2_with fail
      refine (awake_any _).mono ?_
      rintro e w5 ⟨rfl, hb5⟩
      go_wp2
      go_ret
      exact ⟨rfl, hB4.out.trans (hb5.mono hB4.out.size)⟩
end Go.Proofs.Ytdjpidniakedpaa
