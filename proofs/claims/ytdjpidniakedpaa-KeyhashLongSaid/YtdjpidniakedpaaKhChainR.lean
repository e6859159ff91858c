/- Chain of the reference, walked. Conditions: the strings lie in memory, each of at most 10^9 bytes. -/
import Derived.Deep.RegionHeld3
import Derived.Test.YtdjpidniakedpaaKhChain
namespace Go.Proofs.Ytdjpidniakedpaa
open Go Go.RowKit

theorem str_append (a b : List UInt8) : str a ++ str b = str (a ++ b) := by
  apply ByteArray.ext
  simp [str]
theorem str_self (s : ByteArray) : str s.data.toList = s := by
  apply ByteArray.ext
  simp [str]
theorem allB_str (ss : List ByteArray) (k : Nat) (s : ByteArray) (h : ss[k]? = some s) : str (allB (ss.take k)) ++ str (Kh.bytes8 s.size) ++ s = str (allB (ss.take (k + 1))) := by
  have e : s = str s.data.toList := (str_self s).symm
  rw [str_append]
  conv => lhs; rw [e]
  rw [str_append, allB_snoc ss k s h, chunk, List.append_assoc]
  rw [str_size, Array.length_toList]; rfl

set_option maxHeartbeats 2000000 in
theorem chainR_any (key : ByteArray) (A : Option Addr) (cap : Nat) (ss : List ByteArray) (hz : ∀ (k : Nat) (s : ByteArray), ss[k]? = some s → s.size ≤ 1000000000) (hlen : ss.length ≤ 1000000000) (w : World) (hS : StrsAt w A ss) :
    Calls Try.prog 21 #[.string key, .slice A ss.length cap] w fun e w' => e = .returned (.tuple #[.string (chS key ss), .int .i64 (chE key ss)]) ∧ Below w.heap.size w w' := by
  by_cases hk : key.size = 16
  · have HK := Lib.hid hk
    have hkb : ((key.size : Int) != 16) = false := by rw [hk]; rfl
    have HZ := Lib.hid hz
    have HS := Lib.hid hS
    clear hk hz hS
    go_enter Try.func21, Try.ntmps21
    go_wp2
    go_loopw [6, 7] (fun v i wr => ∃ k : Nat, k ≤ ss.length ∧ i = .int .i64 k ∧ v = .string (str (allB (ss.take k))) ∧ Below w.heap.size w wr ∧ (allB (ss.take k)).length ≤ 65536) (fun _ i _ => ss.length - (intOf i).toNat)
    case atStart => exact ⟨0, by omega, rfl, rfl, Below.refl _ _, by simp [allB]⟩
    case round =>
      obtain ⟨k, hkn, rfl, rfl, hb, hfit⟩ := hrel
      have HB := Lib.hid hb
      clear hb
      by_cases hlt : k < ss.length
      · obtain ⟨s, hs⟩ : ∃ s, ss[k]? = some s := ⟨_, List.getElem?_eq_getElem hlt⟩
        obtain ⟨b, off, rfl, hc⟩ := (HS.out.below HB.out) k s hs
        have hbl : b < wr.heap.size := World.block_lt_of_cell? wr _ hc
        have hsz := HZ.out k s hs
        have hln : (allB (ss.take (k + 1))).length = (allB (ss.take k)).length + (8 + s.size) := by rw [allB_snoc ss k s hs, List.length_append, chunk_len]
        have Hall := Lib.hid (allB_str ss k s hs)
        have Hs := Lib.hid hs
        have Hln := Lib.hid hln
        have hfl : (str (allB (ss.take k))).size ≤ 65536 := by rw [str_size]; exact hfit
        have hf8 : (str (Kh.bytes8 s.size)).size ≤ 8 := by rw [str_size]; simp [Kh.bytes8]
        have hL := str_size (allB (ss.take k))
        clear hs hln
        generalize hS : str (allB (ss.take k)) = S at *
        have HL := Lib.hid hL
        clear hL hS
        by_cases hs2 : S.size + 8 + s.size ≤ 65536
        · have n1 : ¬ 9223372036854775807 < S.size + (str (Kh.bytes8 s.size)).size := by omega
          have n2 : ¬ 9223372036854775807 < S.size + (str (Kh.bytes8 s.size)).size + s.size := by omega
          have n3 : IntKind.u64.wrap (s.size : Int) = (s.size : Int) := by rw [IntKind.wrap_u64]; omega
          go_wp2_with fail
          go_region_held3 (fun w' => w'.cell? ⟨b, off + k, none⟩ = some (.string s)) (first | assumption | go_keep)
            (first | (go_at_call 31; refine (bytesR_any _ _).mono ?_; rintro e w1 ⟨rfl, hb1⟩; have hc1 : w1.cell? ⟨b, off + k, none⟩ = some (.string s) := (hb1.cell (p := ⟨b, off + k, none⟩) (by simpa using hbl)).trans (by simpa using hc)))
          have hb2 := Lib.hid (HB.out.drew.trans (hb1.mono (by simpa using HB.out.size)))
          clear n1 n2 n3 hb1
          go_wp2
          go_roundw
          case rel => exact ⟨k + 1, by omega, by go_num, by rw [Hall.out], hb2.out, by have e := Hln.out; have e2 := HL.out; omega⟩
          case measure => simp [intOf]; omega
        · have hno : ¬ (allB ss).length ≤ 65536 := by
            have h := allB_take_le ss (k + 1)
            have e := Hln.out
            have e2 := HL.out
            omega
          have HN := Lib.hid hno
          clear hno
          go_wp2
          go_ret2
          exact ⟨ret2 (by unfold chS; rw [if_neg (fun h => HN.out h.2)]) (by unfold chE; rw [if_pos HK.out, if_neg HN.out]), HB.out⟩
      · obtain rfl : k = ss.length := by omega
        simp only [List.take_length] at hfit ⊢
        have HF := Lib.hid hfit
        have hsz : (str (allB ss)).size ≤ 100000 := by rw [str_size]; omega
        have Hsz := Lib.hid hsz
        clear hsz hfit
        go_wp2_with fail
        refine (hashR_any key (str (allB ss)) HK.out Hsz.out _).mono ?_
        rintro e w1 ⟨rfl, hb1⟩
        rw [str_list]
        go_wp2
        go_ret2
        exact ⟨ret2 (by unfold chS; rw [if_pos ⟨HK.out, HF.out⟩]) (by unfold chE; rw [if_pos HK.out, if_pos HF.out]), HB.out.trans (hb1.mono HB.out.size)⟩
  · have hkb : ((key.size : Int) != 16) = true := by rw [bne_iff_ne]; omega
    go_enter Try.func21, Try.ntmps21
    go_wp2
    go_ret2
    exact ⟨ret2 (by unfold chS; rw [if_neg (fun h => hk h.1)]) (by unfold chE; rw [if_neg hk]), Below.refl _ _⟩

end Go.Proofs.Ytdjpidniakedpaa
