/- The law KeyhashChain, walked. Conditions: the strings lie in memory, and have together fewer than 2^47 bytes. -/
import Derived.Test.YtdjpidniakedpaaKhChainR
import Derived.Test.YtdjpidniakedpaaShelf
namespace Go.Proofs.Ytdjpidniakedpaa
open Go Go.RowKit

def joinB (ss : List ByteArray) : List UInt8 := (ss.map fun s => s.data.toList).flatten
theorem join_flat (xs : List (List UInt8)) : Lib.join xs [] = xs.flatten := by
  cases xs with
  | nil => rfl
  | cons x r =>
    rw [Lib.join_cons, Lib.joinTail, List.flatten_cons]
    congr 2
    conv => rhs; rw [← List.map_id r]
    apply List.map_congr_left
    intro y _
    rfl

theorem join_any (A : Option Addr) (cap : Nat) (ss : List ByteArray) (w : World) (hS : StrsAt w A ss) (hcap : ss.length ≤ cap) (hn : ss.length ≤ 1000000000) (hl : (joinB ss).length ≤ 140737488355328) :
    Calls Try.prog 20 #[.slice A ss.length cap, .string ⟨#[]⟩] w fun e w' => e = .returned (.string (str (joinB ss))) ∧ Below w.heap.size w w' := by
  have e : Lib.join (ss.map fun s => s.data.toList) [] = joinB ss := join_flat _
  cases hs : ss with
  | nil =>
    exact (Try.strings_Join_none A cap ⟨#[]⟩ w).mono fun e w' ⟨h1, h2⟩ => ⟨h1, by rw [h2]; exact Below.refl _ _⟩
  | cons s0 r =>
    rw [← hs]
    obtain ⟨b, off, rfl, h0⟩ := hS 0 s0 (by rw [hs]; rfl)
    refine (Try.strings_Join b off cap ss ⟨#[]⟩ w (fun j x hj => ?_) (World.block_lt_of_cell? w _ h0) (by omega) hcap (by rw [show (⟨#[]⟩ : ByteArray).data.toList = [] from rfl, e]; exact hl)).mono fun e' w' ⟨h1, h2⟩ => ⟨?_, h2⟩
    · obtain ⟨b', off', hA, hc⟩ := hS j x hj
      cases hA
      exact hc
    · rw [h1, show (⟨#[]⟩ : ByteArray).data.toList = [] from rfl, e]; rfl

theorem joinB_cons (x : ByteArray) (r : List ByteArray) : (joinB (x :: r)).length = x.size + (joinB r).length := by
  simp [joinB]
theorem joinB_part : ∀ (ss : List ByteArray) (k : Nat) (s : ByteArray), ss[k]? = some s → s.size ≤ (joinB ss).length
  | [], k, s, h => by simp at h
  | x :: r, 0, s, h => by
    rw [joinB_cons]
    cases h
    omega
  | x :: r, k + 1, s, h => by
    have h1 := joinB_part r k s (by simpa using h)
    rw [joinB_cons]
    omega

set_option maxHeartbeats 2000000 in
theorem lawChain (key : ByteArray) (A : Option Addr) (cap : Nat) (ss : List ByteArray) (h1 : key.size ≤ maxLen) (hcap : ss.length ≤ cap) (hlen : ss.length ≤ 1000000000) (hj : (joinB ss).length ≤ 140737488355328) (w : World) (hS : StrsAt w A ss) :
    Calls Try.prog 8 #[.string key, .slice A ss.length cap] w fun e w' => e = .returned (.bool true) ∧ Below w.heap.size w w' := by
  have HS := Lib.hid hS
  clear hS
  unfold maxLen at h1
  by_cases c1 : 24 < key.size
  · go_enter Try.func8, Try.ntmps8
    go_wp2_with fail
    refine (awake_any _).mono ?_
    rintro e w1 ⟨rfl, hb1⟩
    go_wp2
    go_ret
    exact ⟨rfl, hb1⟩
  by_cases c2 : 20 < ss.length
  · go_enter Try.func8, Try.ntmps8
    go_wp2_with fail
    refine (awake_any _).mono ?_
    rintro e w1 ⟨rfl, hb1⟩
    go_wp2
    go_ret
    exact ⟨rfl, hb1⟩
  have hjl : (str (joinB ss)).size = (joinB ss).length := str_size _
  by_cases c3 : 600 < (str (joinB ss)).size
  · go_enter Try.func8, Try.ntmps8
    go_wp2_with fail
    refine (join_any A cap ss _ HS.out hcap hlen hj).mono ?_
    rintro e w1 ⟨rfl, hb1⟩
    clear hj hjl
    go_wp2_with fail
    refine (awake_any _).mono ?_
    rintro e w2 ⟨rfl, hb2⟩
    have hB2 := hb1.trans (hb2.mono hb1.size)
    clear hb1 hb2
    go_wp2
    go_ret
    exact ⟨rfl, hB2⟩
  · have hz : ∀ (k : Nat) (s : ByteArray), ss[k]? = some s → s.size ≤ 1000000000 := fun k s h => by have := joinB_part ss k s h; omega
    have HZ := Lib.hid hz
    clear hz
    go_enter Try.func8, Try.ntmps8
    go_wp2_with fail
    refine (join_any A cap ss _ HS.out hcap hlen hj).mono ?_
    rintro e w1 ⟨rfl, hb1⟩
    have HS1 := Lib.hid (HS.out.below hb1)
    clear hj hjl
    go_wp2_with fail
    refine (chain_any key A cap ss HZ.out hlen _ HS1.out).mono ?_
    rintro e w2 ⟨rfl, hb2⟩
    have HS2 := Lib.hid (HS1.out.below hb2)
    have hB2 := hb1.trans (hb2.mono hb1.size)
    clear hb1 hb2
    go_wp2_with fail
    refine (chainR_any key A cap ss HZ.out hlen _ HS2.out).mono ?_
    rintro e w3 ⟨rfl, hb3⟩
    have hB3 := hB2.trans (hb3.mono hB2.size)
    clear hB2 hb3
    go_wp2_with fail
    refine (awake_any _).mono ?_
    rintro e w4 ⟨rfl, hb4⟩
    have hB4 := hB3.trans (hb4.mono hB3.size)
    clear hB3 hb4
    go_wp2
    go_ret
    exact ⟨rfl, hB4⟩

end Go.Proofs.Ytdjpidniakedpaa
