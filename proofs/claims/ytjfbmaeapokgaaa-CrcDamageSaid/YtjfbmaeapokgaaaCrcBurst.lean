/- A burst of at most four bytes changes the checksum: plain lists. No program is in sight here. -/
import Derived.Test.YtjfbmaeapokgaaaCrcSpec
namespace Go.Proofs.Ytjfbmaeapokgaaa.Crc

/-- a string with k successive bytes changed, from a on, as far as it goes -/
def chg (l : List UInt8) (a : Nat) (bs : List UInt8) : Nat → List UInt8
  | 0 => l
  | k + 1 => if a + k < l.length then (chg l a bs k).set (a + k) ((chg l a bs k)[a + k]?.getD 0 ^^^ bs[k]?.getD 0) else chg l a bs k
theorem chg_len (l : List UInt8) (a : Nat) (bs : List UInt8) : ∀ k, (chg l a bs k).length = l.length
  | 0 => rfl
  | k + 1 => by unfold chg; split <;> simp [chg_len l a bs k]
theorem chg_at (l : List UInt8) (a : Nat) (bs : List UInt8) : ∀ k j, (j < a ∨ a + k ≤ j) → (chg l a bs k)[j]? = l[j]?
  | 0, j, _ => rfl
  | k + 1, j, h => by
    unfold chg
    split
    · rw [List.getElem?_set_ne (by omega)]; exact chg_at l a bs k j (by omega)
    · exact chg_at l a bs k j (by omega)
theorem win (X : List UInt8) (a : Nat) (ha : a ≤ X.length) (hz : ∀ j, j < X.length → (j < a ∨ a + 4 ≤ j) → X[j]? = some 0) :
    X = List.replicate a 0 ++ (X.drop a).take 4 ++ List.replicate (X.length - a - 4) 0 := by
  have h1 : X.take a = List.replicate a 0 := by
    rw [List.eq_replicate_iff]
    refine ⟨by simp; omega, fun b hb => ?_⟩
    obtain ⟨j, hj, rfl⟩ := List.getElem_of_mem hb
    rw [List.length_take] at hj
    have := hz j (by omega) (.inl (by omega))
    rw [List.getElem?_eq_getElem (by omega)] at this
    rw [List.getElem_take]; exact Option.some.inj this
  have h2 : (X.drop a).drop 4 = List.replicate (X.length - a - 4) 0 := by
    rw [List.eq_replicate_iff]
    refine ⟨by simp; omega, fun b hb => ?_⟩
    obtain ⟨j, hj, rfl⟩ := List.getElem_of_mem hb
    rw [List.length_drop, List.length_drop] at hj
    have := hz (a + (4 + j)) (by omega) (.inr (by omega))
    rw [List.getElem?_eq_getElem (by omega)] at this
    rw [List.getElem_drop, List.getElem_drop]; exact Option.some.inj this
  rw [← h1, ← h2, List.append_assoc, List.take_append_drop, List.take_append_drop]
theorem xorL_at (l t : List UInt8) (j : Nat) : (xorL l t)[j]? = match l[j]?, t[j]? with | some x, some y => some (x ^^^ y) | _, _ => none := by
  unfold xorL
  rw [List.getElem?_zipWith]
  cases l[j]? <;> cases t[j]? <;> rfl
theorem xor_zero_eq {x y : UInt8} (h : x ^^^ y = 0) : x = y := by
  have e := congrArg UInt8.toNat h
  rw [UInt8.toNat_xor] at e
  exact UInt8.toNat_inj.1 (xor_eq_zero e)
theorem xorL_zero {l t : List UInt8} (hlen : l.length = t.length) (h : xorL l t = List.replicate l.length 0) : l = t := by
  refine List.ext_getElem hlen (fun j h1 h2 => ?_)
  have e := xorL_at l t j
  rw [h, List.getElem?_eq_getElem h1, List.getElem?_eq_getElem h2, List.getElem?_replicate, if_pos h1] at e
  exact xor_zero_eq (Option.some.inj e).symm
/-- two strings that differ in four successive bytes at most, and have the same remainder, are the same -/
theorem detects {l t : List UInt8} {a : Nat} (r : Nat) (hlen : l.length = t.length) (ha : a ≤ l.length) (h : ∀ j, (j < a ∨ a + 4 ≤ j) → t[j]? = l[j]?) (hs : upd r l = upd r t) : l = t := by
  have hx : upd 0 (xorL l t) = 0 := by
    have := upd_xor l t r r hlen
    rwa [Nat.xor_self, hs, Nat.xor_self] at this
  have hl := xorL_len l t hlen
  have hw := win (xorL l t) a (by omega) (fun j hj hor => by
    rw [xorL_at, h j hor, List.getElem?_eq_getElem (by omega)]
    show some (l[j] ^^^ l[j]) = some 0
    rw [UInt8.xor_self])
  have hd : (((xorL l t).drop a).take 4).length ≤ 4 := by rw [List.length_take]; omega
  rw [hw] at hx
  have h0 := upd_burst _ _ _ hd hx
  rw [h0, List.replicate_append_replicate, List.replicate_append_replicate] at hw
  refine xorL_zero hlen (hw.trans ?_)
  have := congrArg List.length hw
  rw [List.length_replicate] at this
  rw [← this, hl]
theorem sum_upd {l t : List UInt8} (h : sum l = sum t) : upd most l = upd most t := by
  unfold sum at h
  have := congrArg (· ^^^ most) h
  simpa [xor_xor_cancel] using this
theorem chg_detect (l : List UInt8) (a : Nat) (bs : List UInt8) (ha : a ≤ l.length) : decide (l = chg l a bs 4) = decide (sum l = sum (chg l a bs 4)) := by
  by_cases h : l = chg l a bs 4
  · rw [decide_eq_true h, decide_eq_true (congrArg sum h)]
  · rw [decide_eq_false h, decide_eq_false (fun hs => h (detects most (chg_len l a bs 4).symm ha (fun j hj => chg_at l a bs 4 j hj) (sum_upd hs)))]
end Go.Proofs.Ytjfbmaeapokgaaa.Crc
