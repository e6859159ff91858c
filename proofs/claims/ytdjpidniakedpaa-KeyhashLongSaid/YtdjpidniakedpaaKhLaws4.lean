/- The law KeyhashChained, walked. Conditions: the strings lie in memory, and have together fewer than 2^47 bytes. -/
import Derived.Test.YtdjpidniakedpaaKhLaws3
import Derived.Test.YtdjpidniakedpaaKhLaws2
namespace Go.Proofs.Ytdjpidniakedpaa
open Go Go.RowKit

theorem quo_spell (m k : Nat) : ((m / 256 ^ k : Nat) : Int).tdiv 256 = ((m / 256 ^ (k + 1) : Nat) : Int) := by
  rw [Nat.pow_succ, ← Nat.div_div_eq_div_mul]; rfl

set_option maxHeartbeats 1000000 in
theorem length_any (m : Nat) (hm : m ≤ 1000000000) (w : World) :
    Calls Try.prog 22 #[.int .i64 (m : Int)] w fun e w' => e = .returned (.string (str (Kh.bytes8 m))) ∧ Below w.heap.size w w' := by
  obtain ⟨i0, hi, hz0, hz1, hz2⟩ := info_parts infoByte
  go_enter Try.func22, Try.ntmps22
  go_wp2
  go_loopw [0, 3, 4] (fun q b i wr => ∃ k : Nat, k ≤ 8 ∧ i = .int .i64 k ∧ q = .int .i64 ((m / 256 ^ k : Nat) : Int) ∧ wr.ownsRow w.heap.size 5 1 b k (((Kh.bytes8 m).take k).map byteV) ∧ Below w.heap.size w wr) (fun _ _ i _ => 8 - (intOf i).toNat)
  case atStart => exact ⟨0, by omega, rfl, by simp, World.ownsRow_nil _ _ _ _, Below.refl _ _⟩
  case round =>
    obtain ⟨k, hk, rfl, rfl, ho, hb⟩ := hrel
    by_cases hlt : k < 8
    · have hle : m / 256 ^ k ≤ m := Nat.div_le_self _ _
      have hq := quo_spell m k
      have hby : IntKind.u8.wrap ((m / 256 ^ k : Nat) : Int) = ((UInt8.ofNat (m / 256 ^ k)).toNat : Int) := by
        rw [UInt8.toNat_ofNat']; simp [IntKind.wrap, IntKind.bits, IntKind.signed]
      have hle2 : m / 256 ^ (k + 1) ≤ m := Nat.div_le_self _ _
      have hsn := bytes8_snoc m k hlt
      generalize hx : m / 256 ^ k = x at *
      generalize hy : m / 256 ^ (k + 1) = y at *
      clear hx
      go_wp2_with (at_builtin; refine wpList_append_own _ rfl _ _ 28 rfl w.heap.size 5 i0 (.int .u8 0) 1 1 Try.underlying28 hi hz0 hz1 hz2 rfl (by decide) _ _ _ rfl (ho.alloc _) ⟨wr.heap.size, 0, none⟩ 1 1 [.int .u8 (IntKind.u8.wrap (x : Int))] rfl rfl ?c1 ?c2 ?c3 ?c4 ?c5 ?_)
      case c1 => exact cell_one_new _ _ _
      case c2 => simp [Value.oneCell']
      case c3 => unfold maxLen; omega
      case c4 => omega
      case c5 => have := hb.size; simp; omega
      intro v' w1 hown' hgrow _
      have hb1 : Below w.heap.size w w1 := (hb.alloc hb.size _).grown hgrow (by have := hb.size; simp; omega) (fun g hg => (ho.lt g hg).1)
      rw [show ((x : Int) % 256) = ((UInt8.ofNat x).toNat : Int) by rw [← hby]; simp [IntKind.wrap, IntKind.bits, IntKind.signed], show [Value.int IntKind.u8 ((UInt8.ofNat x).toNat : Int)] = [UInt8.ofNat x].map byteV from rfl] at hown'
      have hown2 : w1.ownsRow w.heap.size 5 1 v' (k + 1) (((Kh.bytes8 m).take (k + 1)).map byteV) := by rw [hsn, List.map_append, List.map_take]; exact hown'
      clear hgrow ho hown'
      go_wp2
      go_roundw
      case rel => exact ⟨k + 1, by omega, by go_num, by rw [hy, ← hq]; try rfl, hown2, hb1⟩
      case measure => simp [intOf]; omega
    · obtain rfl : k = 8 := by omega
      rw [List.take_of_length_le (by simp [Kh.bytes8])] at ho
      have hcv := conv_any (n := 8) (by simp [Kh.bytes8]) ho
      obtain ⟨A0, c0, hv0⟩ := own_form ho
      subst hv0
      have hle : m / 256 ^ 8 ≤ m := Nat.div_le_self _ _
      generalize m / 256 ^ 8 = x at *
      go_wp2
      go_ret
      exact ⟨rfl, hb⟩

theorem StrsAt.nil (w : World) : StrsAt w none [] := fun k s h => by simp at h
theorem nil_all : allB [] = [] := rfl
theorem allB_len : ∀ ss : List ByteArray, (allB ss).length = (joinB ss).length + 8 * ss.length
  | [] => rfl
  | x :: r => by
    have h := allB_len r
    have e : allB (x :: r) = chunk x ++ allB r := by simp [allB]
    rw [e, List.length_append, chunk_len, joinB_cons, List.length_cons, h]; omega
theorem allB_str2 (ss : List ByteArray) (k : Nat) (s : ByteArray) (h : ss[k]? = some s) : str (allB (ss.take k)) ++ (str (Kh.bytes8 s.size) ++ s) = str (allB (ss.take (k + 1))) := by
  rw [← allB_str ss k s h, ByteArray.append_assoc]

set_option maxHeartbeats 2000000 in
theorem lawChained (key : ByteArray) (A : Option Addr) (cap : Nat) (ss : List ByteArray) (h1 : key.size ≤ maxLen) (hcap : ss.length ≤ cap) (hlen : ss.length ≤ 1000000000) (hj : (joinB ss).length ≤ 140737488355328) (w : World) (hS : StrsAt w A ss) :
    Calls Try.prog 9 #[.string key, .slice A ss.length cap] w fun e w' => e = .returned (.bool true) ∧ Below w.heap.size w w' := by
  have HS := Lib.hid hS
  clear hS
  unfold maxLen at h1
  by_cases c1 : key.size = 16
  · have hkb : ((key.size : Int) != 16) = false := by rw [c1]; rfl
    by_cases c2 : 20 < ss.length
    · go_enter Try.func9, Try.ntmps9
      go_wp2_with fail
      refine (awake_any _).mono ?_
      rintro e w1 ⟨rfl, hb1⟩
      go_wp2
      go_ret
      exact ⟨rfl, hb1⟩
    · have hjl : (str (joinB ss)).size = (joinB ss).length := str_size _
      by_cases c3 : 600 < (str (joinB ss)).size
      · go_enter Try.func9, Try.ntmps9
        go_wp2_with fail
        refine (join_any A cap ss _ HS.out hcap hlen hj).mono ?_
        rintro e w1 ⟨rfl, hb1⟩
        clear hj hjl
        go_wp2_with fail
        refine (awake_any _).mono ?_
        rintro e w2 ⟨rfl, hb2⟩
        have hB2 := hb1.trans (hb2.mono hb1.size)
        clear hb1 hb2
        go_wp2
        go_ret
        exact ⟨rfl, hB2⟩
      · go_enter Try.func9, Try.ntmps9
        go_wp2_with fail
        refine (join_any A cap ss _ HS.out hcap hlen hj).mono ?_
        rintro e w1 ⟨rfl, hb1⟩
        have HS1 := Lib.hid (HS.out.below hb1)
        go_wp2
        have hA := allB_len ss
        have hfit : (allB ss).length ≤ 1000 := by omega
        have hz : ∀ (k : Nat) (s : ByteArray), ss[k]? = some s → s.size ≤ 1000000000 := fun k s h => by have := joinB_part ss k s h; omega
        have HZ := Lib.hid hz
        have HF := Lib.hid hfit
        have HB1 := Lib.hid hb1
        clear hj hjl hA hfit hz hb1
        go_loopw [5, 33] (fun v i wr => ∃ k : Nat, k ≤ ss.length ∧ i = .int .i64 k ∧ v = .string (str (allB (ss.take k))) ∧ Below w.heap.size w wr) (fun _ i _ => ss.length - (intOf i).toNat)
        case atStart => exact ⟨0, by omega, rfl, rfl, HB1.out⟩
        case round =>
          obtain ⟨k, hkn, rfl, rfl, hb⟩ := hrel
          have HB := Lib.hid hb
          clear hb
          by_cases hlt : k < ss.length
          · obtain ⟨s, hs⟩ : ∃ s, ss[k]? = some s := ⟨_, List.getElem?_eq_getElem hlt⟩
            obtain ⟨b, off, rfl, hc⟩ := (HS.out.below HB.out) k s hs
            have hsz := HZ.out k s hs
            have Hall := Lib.hid (allB_str2 ss k s hs)
            have hfl : (str (allB (ss.take k))).size ≤ 1000 := by rw [str_size]; exact Nat.le_trans (allB_take_le ss k) HF.out
            have hf8 : (str (Kh.bytes8 s.size)).size ≤ 8 := by rw [str_size]; simp [Kh.bytes8]
            clear hs
            generalize hS : str (allB (ss.take k)) = S at *
            clear hS
            have n1 : ¬ 9223372036854775807 < (str (Kh.bytes8 s.size)).size + s.size := by omega
            have n2 : ¬ 9223372036854775807 < S.size + ((str (Kh.bytes8 s.size)).size + s.size) := by omega
            go_wp2_with fail
            refine (length_any s.size hsz _).mono ?_
            rintro e w2 ⟨rfl, hb2⟩
            have hB2 := Lib.hid (HB.out.trans (hb2.mono HB.out.size))
            clear hb2
            go_wp2
            go_roundw
            case rel => exact ⟨k + 1, by omega, by go_num, by rw [Hall.out], hB2.out⟩
            case measure => simp [intOf]; omega
          · obtain rfl : k = ss.length := by omega
            simp only [List.take_length]
            have hsz : (str (allB ss)).size ≤ 1000 := by rw [str_size]; exact HF.out
            have hsz' : (str (allB ss)).size ≤ maxLen := by unfold maxLen; omega
            have Hk := Lib.hid (show key.size ≤ maxLen by unfold maxLen; omega)
            have A1 := Lib.hid (show chS key ss = str (Kh.tag key.data.toList (allB ss)) by unfold chS; rw [if_pos ⟨c1, Nat.le_trans HF.out (by decide)⟩])
            have A2 := Lib.hid (show chE key ss = 0 by unfold chE; rw [if_pos c1, if_pos (Nat.le_trans HF.out (by decide))])
            have A3 := Lib.hid (sumS_is key (str (allB ss)) (allB ss) c1 (by omega) (str_list _))
            have A4 := Lib.hid (sumE_is key (str (allB ss)) c1 (by omega))
            have A5 := Lib.hid (show chS key [] = str (Kh.tag key.data.toList []) by unfold chS; rw [if_pos ⟨c1, by decide⟩]; rfl)
            have A6 := Lib.hid (show chE key [] = 0 by unfold chE; rw [if_pos c1, if_pos (by decide)])
            have A7 := Lib.hid (sumS_is key ⟨#[]⟩ [] c1 (by decide) rfl)
            have A8 := Lib.hid (sumE_is key ⟨#[]⟩ c1 (by decide))
            have Hs' := Lib.hid hsz'
            clear hsz hsz'
            go_wp2_with fail
            refine (chain_any key A cap ss HZ.out hlen _ (HS.out.below HB.out)).mono ?_
            rintro e w2 ⟨rfl, hb2⟩
            rw [A1.out, A2.out]
            have hB2 := HB.out.trans (hb2.mono HB.out.size)
            clear hb2
            generalize hS : str (allB ss) = S at *
            generalize hT : str (Kh.tag key.data.toList (allB ss)) = T at *
            go_wp2_with fail
            refine (sum_any key S Hk.out Hs'.out _).mono ?_
            rintro e w3 ⟨rfl, hb3⟩
            rw [A3.out, A4.out]
            have hB3 := hB2.trans (hb3.mono hB2.size)
            clear hb3 hB2
            go_wp2_with fail
            refine (chain_any key none 0 [] (fun k s h => by simp at h) (by decide) _ (StrsAt.nil _)).mono ?_
            rintro e w4 ⟨rfl, hb4⟩
            rw [A5.out, A6.out]
            have hB4 := hB3.trans (hb4.mono hB3.size)
            clear hb4 hB3
            generalize hT2 : str (Kh.tag key.data.toList []) = T2 at *
            go_wp2_with fail
            refine (sum_any key ⟨#[]⟩ Hk.out (by decide) _).mono ?_
            rintro e w5 ⟨rfl, hb5⟩
            rw [A7.out, A8.out]
            have hB5 := hB4.trans (hb5.mono hB4.size)
            clear hb5 hB4
            go_wp2_with fail
            refine (awake_any _).mono ?_
            rintro e w6 ⟨rfl, hb6⟩
            have hB6 := hB5.trans (hb6.mono hB5.size)
            clear hB5 hb6
            go_wp2
            go_ret
            exact ⟨rfl, hB6⟩
  · have hkb : ((key.size : Int) != 16) = true := by rw [bne_iff_ne]; omega
    go_enter Try.func9, Try.ntmps9
    go_wp2_with fail
    refine (awake_any _).mono ?_
    rintro e w1 ⟨rfl, hb1⟩
    go_wp2
    go_ret
    exact ⟨rfl, hb1⟩
end Go.Proofs.Ytdjpidniakedpaa
