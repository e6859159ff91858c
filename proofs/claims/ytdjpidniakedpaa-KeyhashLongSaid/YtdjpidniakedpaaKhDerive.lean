/- Derive, of the program and of the reference, and the law's own small functions, walked. Condition: lengths below the model's greatest. -/
import Derived.Test.YtdjpidniakedpaaKhSum
namespace Go.Proofs.Ytdjpidniakedpaa
open Go Go.RowKit

/-- a byte ahead of a string -/
def ahead (b : UInt8) (s : ByteArray) : ByteArray := ⟨#[b]⟩ ++ s
theorem ahead_list (b : UInt8) (s : ByteArray) : (ahead b s).data.toList = b :: s.data.toList := by
  simp [ahead]
theorem ahead_size (b : UInt8) (s : ByteArray) : (ahead b s).size = s.size + 1 := by
  have h := congrArg List.length (ahead_list b s)
  simpa using h
theorem tag_size (k t : List UInt8) : (str (Kh.tag k t)).size = 8 := by simp [str_size, Kh.tag, Kh.finish, Kh.bytes8]

/-- what Derive gives -/
def derS (key s : ByteArray) : ByteArray := if key.size = 16 ∧ s.size ≤ 65535 then str (Kh.tag key.data.toList (1 :: s.data.toList)) ++ str (Kh.tag key.data.toList (2 :: s.data.toList)) else ⟨#[]⟩
def derE (key s : ByteArray) : Int := if key.size = 16 then (if s.size ≤ 65535 then 0 else 4) else 1

set_option maxHeartbeats 1000000 in
theorem derive_any (key s : ByteArray) (_h1 : key.size ≤ maxLen) (h2 : s.size ≤ maxLen) (w : World) :
    Calls Try.prog 17 #[.string key, .string s] w fun e w' => e = .returned (.tuple #[.string (derS key s), .int .i64 (derE key s)]) ∧ Below w.heap.size w w' := by
  unfold maxLen at _h1 h2
  by_cases hk : key.size = 16
  · have HK := Lib.hid hk
    have hkb : ((key.size : Int) != 16) = false := by rw [hk]; rfl
    have ha : 15 < key.size := by omega
    have hb : key.size < 17 := by omega
    clear hk
    by_cases hs : s.size ≤ 65535
    · go_enter Try.func17, Try.ntmps17
      go_wp2_with fail
      refine (tag_any key (ahead 1 s) HK.out (by rw [ahead_size]; omega) _).mono ?_
      rintro e w1 ⟨rfl, hb1⟩
      rw [ahead_list]
      have z1 := Nat.le_of_eq (tag_size key.data.toList (1 :: s.data.toList))
      go_wp2_with fail
      refine (tag_any key (ahead 2 s) HK.out (by rw [ahead_size]; omega) _).mono ?_
      rintro e w2 ⟨rfl, hb2⟩
      rw [ahead_list]
      have z2 := Nat.le_of_eq (tag_size key.data.toList (2 :: s.data.toList))
      go_wp2
      go_ret2
      exact ⟨ret2 (by unfold derS; rw [if_pos ⟨HK.out, hs⟩]) (by unfold derE; rw [if_pos HK.out, if_pos hs]), hb1.trans (hb2.mono hb1.size)⟩
    · go_enter Try.func17, Try.ntmps17
      go_wp2
      go_ret2
      exact ⟨ret2 (by unfold derS; rw [if_neg (fun h => hs h.2)]) (by unfold derE; rw [if_pos HK.out, if_neg hs]), Below.refl _ _⟩
  · have hkb : ((key.size : Int) != 16) = true := by rw [bne_iff_ne]; omega
    go_enter Try.func17, Try.ntmps17
    go_wp2
    go_ret2
    exact ⟨ret2 (by unfold derS; rw [if_neg (fun h => hk h.1)]) (by unfold derE; rw [if_neg hk]), Below.refl _ _⟩

set_option maxHeartbeats 1000000 in
theorem deriveR_any (key s : ByteArray) (_h1 : key.size ≤ maxLen) (h2 : s.size ≤ maxLen) (w : World) :
    Calls Try.prog 18 #[.string key, .string s] w fun e w' => e = .returned (.tuple #[.string (derS key s), .int .i64 (derE key s)]) ∧ Below w.heap.size w w' := by
  unfold maxLen at _h1 h2
  by_cases hk : key.size = 16
  · have HK := Lib.hid hk
    have hkb : ((key.size : Int) != 16) = false := by rw [hk]; rfl
    have ha : 15 < key.size := by omega
    have hb : key.size < 17 := by omega
    clear hk
    by_cases hs : s.size ≤ 65535
    · go_enter Try.func18, Try.ntmps18
      go_wp2_with fail
      refine (hashR_any key (ahead 1 s) HK.out (by rw [ahead_size]; omega) _).mono ?_
      rintro e w1 ⟨rfl, hb1⟩
      rw [ahead_list]
      have z1 := Nat.le_of_eq (tag_size key.data.toList (1 :: s.data.toList))
      go_wp2_with fail
      refine (hashR_any key (ahead 2 s) HK.out (by rw [ahead_size]; omega) _).mono ?_
      rintro e w2 ⟨rfl, hb2⟩
      rw [ahead_list]
      have z2 := Nat.le_of_eq (tag_size key.data.toList (2 :: s.data.toList))
      go_wp2
      go_ret2
      exact ⟨ret2 (by unfold derS; rw [if_pos ⟨HK.out, hs⟩]) (by unfold derE; rw [if_pos HK.out, if_pos hs]), hb1.trans (hb2.mono hb1.size)⟩
    · go_enter Try.func18, Try.ntmps18
      go_wp2
      go_ret2
      exact ⟨ret2 (by unfold derS; rw [if_neg (fun h => hs h.2)]) (by unfold derE; rw [if_pos HK.out, if_neg hs]), Below.refl _ _⟩
  · have hkb : ((key.size : Int) != 16) = true := by rw [bne_iff_ne]; omega
    go_enter Try.func18, Try.ntmps18
    go_wp2
    go_ret2
    exact ⟨ret2 (by unfold derS; rw [if_neg (fun h => hk h.1)]) (by unfold derE; rw [if_neg hk]), Below.refl _ _⟩

theorem great_any (key s : ByteArray) (h1 : key.size ≤ maxLen) (h2 : s.size ≤ maxLen) (w : World) :
    Calls Try.prog 11 #[.string key, .string s] w fun e w' => e = .returned (.bool (decide (24 < key.size) || decide (600 < s.size))) ∧ w = w' := by
  unfold maxLen at h1 h2
  by_cases h : 24 < key.size
  all_goals
    go_enter Try.func11, Try.ntmps11
    go_wp2
    go_ret
    exact ⟨ret_b (by first | (simp [h]; done) | (rw [Bool.eq_iff_iff]; simp; omega)), rfl⟩

/-- the bytes 0, 1, and so on -/
def cnt (n : Nat) : List UInt8 := (List.range n).map UInt8.ofNat
theorem cnt_snoc (n : Nat) : cnt (n + 1) = cnt n ++ [UInt8.ofNat n] := by simp [cnt, List.range_succ]

set_option maxHeartbeats 1000000 in
theorem counted_any (n : Int) (h0 : 1 ≤ n) (hn : n ≤ 200) (w : World) :
    Calls Try.prog 23 #[.int .i64 n] w fun e w' => e = .returned (.string (str (cnt n.toNat))) ∧ Below w.heap.size w w' := by
  obtain ⟨n, rfl⟩ := Int.eq_ofNat_of_zero_le (show 0 ≤ n by omega)
  obtain ⟨i0, hi, hz0, hz1, hz2⟩ := info_parts infoByte
  go_enter Try.func23, Try.ntmps23
  go_wp2
  go_loopw [3, 6] (fun b i wr => ∃ k : Nat, k ≤ n ∧ i = .int .i64 k ∧ wr.ownsRow w.heap.size 5 1 b k ((cnt k).map byteV) ∧ Below w.heap.size w wr) (fun _ i _ => n - (intOf i).toNat)
  case atStart => exact ⟨0, by omega, rfl, World.ownsRow_nil _ _ _ _, Below.refl _ _⟩
  case round =>
    obtain ⟨k, hk, rfl, ho, hb⟩ := hrel
    by_cases hlt : k < n
    · go_wp2_with (at_builtin; refine wpList_append_own _ rfl _ _ 28 rfl w.heap.size 5 i0 (.int .u8 0) 1 1 Try.underlying28 hi hz0 hz1 hz2 rfl (by decide) _ _ _ rfl (ho.alloc _) ⟨wr.heap.size, 0, none⟩ 1 1 [.int .u8 (k : Int)] rfl rfl ?c1 ?c2 ?c3 ?c4 ?c5 ?_)
      case c1 => exact cell_one_new _ _ _
      case c2 => simp [Value.oneCell']
      case c3 => unfold maxLen; omega
      case c4 => omega
      case c5 => have := hb.size; simp; omega
      intro v' w1 hown' hgrow _
      have hb1 : Below w.heap.size w w1 := (hb.alloc hb.size _).grown hgrow (by have := hb.size; simp; omega) (fun g hg => (ho.lt g hg).1)
      have hown2 : w1.ownsRow w.heap.size 5 1 v' (k + 1) ((cnt (k + 1)).map byteV) := by
        rw [cnt_snoc, List.map_append]
        have e : [UInt8.ofNat k].map byteV = [Value.int .u8 (k : Int)] := by
          simp [byteV]; omega
        rw [e]; exact hown'
      clear hgrow ho hown'
      go_wp2
      go_roundw
      case rel => exact ⟨k + 1, by omega, by go_num, hown2, hb1⟩
      case measure => simp [intOf]; omega
    · obtain rfl : k = n := by omega
      obtain ⟨m, rfl⟩ : ∃ m, k = m + 1 := ⟨k - 1, by omega⟩
      obtain ⟨g, cap, rfl⟩ := ownsRow_succ ho
      have hcv := conv_own (by simp [cnt]) ho
      clear ho
      go_wp2
      go_ret
      exact ⟨rfl, hb⟩

theorem cnt16 : (str (cnt 16)).data.toList = cnt 16 := rfl
theorem awake1 : Kh.tag (cnt 16) [] = [49, 14, 14, 221, 71, 219, 111, 114] := by decide +kernel
theorem awake2 : Kh.tag (cnt 16) (cnt 15) = [229, 69, 190, 73, 97, 202, 41, 161] := by decide +kernel
theorem awakeS (s : ByteArray) (t l : List UInt8) (hs : s.data.toList = t) (hl : Kh.tag (cnt 16) t = l) (hz : t.length ≤ 65536) : sumS (str (cnt 16)) s = str l ∧ sumE (str (cnt 16)) s = 0 := by
  have h16 : (str (cnt 16)).size = 16 := rfl
  have hz' : s.size ≤ 65536 := by rw [← hs] at hz; simpa using hz
  refine ⟨?_, ?_⟩
  · unfold sumS
    rw [if_pos ⟨h16, hz'⟩, hs, cnt16, hl]
  · unfold sumE
    rw [if_pos h16, if_pos hz']

set_option maxHeartbeats 1000000 in
theorem awake_any (w : World) :
    Calls Try.prog 12 #[] w fun e w' => e = .returned (.bool true) ∧ Below w.heap.size w w' := by
  obtain ⟨a1, a2⟩ := awakeS ⟨#[]⟩ [] _ rfl awake1 (by simp)
  obtain ⟨b1, b2⟩ := awakeS (str (cnt 15)) (cnt 15) _ rfl awake2 (by simp [cnt])
  have hv : verB (str (cnt 16)) ⟨#[]⟩ (str [49, 14, 14, 221, 71, 219, 111, 114]) = true := by
    unfold verB; rw [a1, a2]; simp
  go_enter Try.func12, Try.ntmps12
  have z0 : (⟨#[]⟩ : ByteArray).size ≤ maxLen := Nat.zero_le _
  have z16 : (str (cnt 16)).size ≤ maxLen := by rw [str_size]; decide
  have z15 : (str (cnt 15)).size ≤ maxLen := by rw [str_size]; decide
  have A1 : Hid (sumS (str (cnt 16)) ⟨#[]⟩ = ⟨#[49, 14, 14, 221, 71, 219, 111, 114]⟩) := a1
  have A2 := Lib.hid a2
  have B1 : Hid (sumS (str (cnt 16)) (str (cnt 15)) = ⟨#[229, 69, 190, 73, 97, 202, 41, 161]⟩) := b1
  have B2 := Lib.hid b2
  have HV := Lib.hid hv
  have Z0 := Lib.hid z0
  have Z16 := Lib.hid z16
  have Z15 := Lib.hid z15
  clear a1 a2 b1 b2 hv z0 z15 z16
  go_wp2_with fail
  refine (counted_any _ (by omega) (by omega) _).mono ?_
  rintro e w1 ⟨rfl, hb1⟩
  go_wp2_with fail
  refine (sum_any (str (cnt 16)) ⟨#[]⟩ Z16.out Z0.out _).mono ?_
  rintro e w2 ⟨rfl, hb2⟩
  rw [A1.out, A2.out]
  have hb := hb1.trans (hb2.mono hb1.size)
  clear hb1 hb2
  go_wp2_with fail
  refine (counted_any _ (by omega) (by omega) _).mono ?_
  rintro e w3 ⟨rfl, hb1⟩
  go_wp2_with fail
  refine (counted_any _ (by omega) (by omega) _).mono ?_
  rintro e w4 ⟨rfl, hb2⟩
  go_wp2_with fail
  refine (sum_any (str (cnt 16)) (str (cnt 15)) Z16.out Z15.out _).mono ?_
  rintro e w5 ⟨rfl, hb3⟩
  rw [B1.out, B2.out]
  have hc := hb.trans (hb1.mono hb.size)
  have hd := hc.trans (hb2.mono hc.size)
  have he := hd.trans (hb3.mono hd.size)
  clear hb hc hd hb1 hb2 hb3
  go_wp2_with fail
  refine (counted_any _ (by omega) (by omega) _).mono ?_
  rintro e w6 ⟨rfl, hb1⟩
  go_wp2_with fail
  refine (verify_any (str (cnt 16)) ⟨#[]⟩ (str [49, 14, 14, 221, 71, 219, 111, 114]) Z16.out Z0.out _).mono ?_
  rintro e w7 ⟨rfl, hb2⟩
  rw [HV.out]
  have hf := he.trans (hb1.mono he.size)
  have hg := hf.trans (hb2.mono hf.size)
  clear he hf hb1 hb2
  go_wp2
  go_ret
  exact ⟨rfl, hg⟩
end Go.Proofs.Ytdjpidniakedpaa
