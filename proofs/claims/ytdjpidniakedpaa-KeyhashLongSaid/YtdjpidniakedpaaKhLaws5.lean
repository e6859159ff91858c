/- The law KeyhashLong, walked. No condition but the arguments' ranges. -/
import Derived.Test.YtdjpidniakedpaaKhLaws4
import Derived.Deep.RegionHeld3
import Derived.Test.YtdjpidniakedpaaKhTags
namespace Go.Proofs.Ytdjpidniakedpaa
open Go Go.RowKit
theorem conv_one (c : Nat) (hc : c < 256) (w : World) (g : Nat) (h : w.cell? ⟨g, 0, none⟩ = some (.int .u8 (c : Int))) : (convert 28 9 (.slice (some ⟨g, 0, none⟩) 1 1)).run Try.prog w = .ok (.string (str [UInt8.ofNat c])) w := by
  refine conv_bytes (l := [UInt8.ofNat c]) rfl (fun j hj => ?_)
  obtain rfl : j = 0 := by omega
  rw [Nat.zero_add, h]
  simp [byteV, Nat.mod_eq_of_lt hc]
theorem repeat_one (x : UInt8) : ∀ n, Lib.repeatL [x] n = List.replicate n x
  | 0 => rfl
  | n + 1 => by rw [Lib.repeatL, repeat_one x n]; rfl
theorem rep_any (c : Nat) (n : Nat) (hn : n ≤ 70000) (w : World) :
    Calls Try.prog 24 #[.string (str [UInt8.ofNat c]), .int .i64 n] w fun e w' => e = .returned (.string (str (List.replicate n (UInt8.ofNat c)))) ∧ Below w.heap.size w w' := by
  refine (Try.strings_Repeat (str [UInt8.ofNat c]) n w (by omega) (by rw [str_size]; simp; omega)).mono fun e w' ⟨h1, h2⟩ => ⟨?_, h2⟩
  rw [h1, str_list, repeat_one]; rfl
theorem keep_one {w w1 : World} {x : Value} {t : TypeId} (hb : Below (w.alloc (.cells #[x] t)).drew.heap.size (w.alloc (.cells #[x] t)).drew w1) : w1.cell? ⟨w.heap.size, 0, none⟩ = some x := by
  have h0 := (Bk.new w t #[x]).cell 0
  have hc : (w.alloc (.cells #[x] t)).drew.cell? ⟨w.heap.size, 0, none⟩ = some x := h0
  exact (hb.cell (p := ⟨w.heap.size, 0, none⟩) (World.block_lt_of_cell? _ _ hc)).trans hc
theorem bl3 {w x y : World} (h : Below w.heap.size w x) (hb : Below x.heap.size x y) : Below w.heap.size w y := h.trans (hb.mono h.size)
theorem two_str (w : World) (s u : ByteArray) (t : TypeId) : StrsAt (w.alloc (.cells #[.string s, .string u] t)) (some ⟨w.heap.size, 0, none⟩) [s, u] := by
  intro k x hk
  match k, hk with
  | 0, hk => cases hk; exact ⟨_, _, rfl, (Bk.new w t #[.string s, .string u]).cell 0⟩
  | 1, hk => cases hk; exact ⟨_, _, rfl, (Bk.new w t #[.string s, .string u]).cell 1⟩
theorem two_strd (w : World) (s u : ByteArray) (t : TypeId) : StrsAt (w.alloc (.cells #[.string s, .string u] t)).drew (some ⟨w.heap.size, 0, none⟩) [s, u] := fun k x hk => two_str w s u t k x hk
theorem bl4 {w x y : World} {o : Obj} (h : Below w.heap.size w x) (hb : Below (x.alloc o).drew.heap.size (x.alloc o).drew y) : Below w.heap.size w y := bl3 (bl3 h ((Below.refl _ _).alloc (Nat.le_refl _) _).drew) hb
theorem two_small (s u : ByteArray) (n : Nat) (h : s.size ≤ n) (h' : u.size ≤ n) : ∀ (k : Nat) (x : ByteArray), [s, u][k]? = some x → x.size ≤ n := by
  intro k x hk
  match k, hk with
  | 0, hk => cases hk; exact h
  | 1, hk => cases hk; exact h'
theorem chain_two (K s u : ByteArray) (h1 : s.size ≤ 1000000) (h2 : u.size ≤ 1000000) (w : World) (t : TypeId) :
    Calls Try.prog 19 #[.string K, .slice (some ⟨w.heap.size, 0, none⟩) 2 2] (w.alloc (.cells #[.string s, .string u] t)).drew fun e w' => e = .returned (.tuple #[.string (chS K [s, u]), .int .i64 (chE K [s, u])]) ∧ Below (w.alloc (.cells #[.string s, .string u] t)).drew.heap.size (w.alloc (.cells #[.string s, .string u] t)).drew w' :=
  chain_any K _ 2 [s, u] (two_small s u 1000000000 (Nat.le_trans h1 (by decide)) (Nat.le_trans h2 (by decide))) (by simp) _ (two_strd w s u t)
theorem chainR_two (K s u : ByteArray) (h1 : s.size ≤ 1000000) (h2 : u.size ≤ 1000000) (w : World) (t : TypeId) :
    Calls Try.prog 21 #[.string K, .slice (some ⟨w.heap.size, 0, none⟩) 2 2] (w.alloc (.cells #[.string s, .string u] t)).drew fun e w' => e = .returned (.tuple #[.string (chS K [s, u]), .int .i64 (chE K [s, u])]) ∧ Below (w.alloc (.cells #[.string s, .string u] t)).drew.heap.size (w.alloc (.cells #[.string s, .string u] t)).drew w' :=
  chainR_any K _ 2 [s, u] (two_small s u 1000000000 (Nat.le_trans h1 (by decide)) (Nat.le_trans h2 (by decide))) (by simp) _ (two_strd w s u t)
theorem rem20 (n : Nat) : (n : Int).tmod 20 = ((n % 20 : Nat) : Int) := rfl
set_option maxHeartbeats 4000000 in
theorem lawLong (c : Nat) (less : Nat) (h1 : c < 256) (h2 : less < 256) (w : World) :
    Calls Try.prog 10 #[.int .u8 (c : Int), .int .u8 (less : Int)] w fun e w' => e = .returned (.bool true) ∧ Below w.heap.size w w' := by
  have hcv := conv_one c h1
  have hr := rem20 less
  have hr2 : less % 20 < 20 := Nat.mod_lt _ (by omega)
  generalize hm : less % 20 = m at *
  have hw1 : IntKind.i64.wrap (less : Int) = less := by rw [IntKind.wrap_i64]; omega
  have hw2 : IntKind.i64.wrap (65540 - (m : Int)) = ((65540 - m : Nat) : Int) := by rw [IntKind.wrap_i64]; omega
  go_enter Try.func10, Try.ntmps10
  go_upto_region 1 with fail
  go_cut [5, 6] from 19 to 28 (fun s5 s6 wc => s5 = .string (str (cnt 16)) ∧ s6 = .string (str (List.replicate (65540 - m) (UInt8.ofNat c))) ∧ Below w.heap.size w wc)
  case first =>
    go_region_with (first | (go_at_call 24; with_reducible refine (rep_any c (65540 - m) ?_ _).mono ?_; omega; rintro e w2 ⟨rfl, hb2⟩) | (go_at_call 23; with_reducible refine (counted_any _ ?_ ?_ _).mono ?_; omega; omega; rintro e w1 ⟨rfl, hb1⟩; (first | (with_reducible have hx := keep_one hb1) | skip)))
    all_goals (go_wp2_with fail; go_meet; refine ⟨rfl, rfl, ?_⟩; first | exact bl3 (bl3 (Below.refl _ _).drew hb1) (bl3 ((Below.refl _ _).alloc (Nat.le_refl _) _) hb2) | exact bl3 (bl3 (Below.refl _ _).drew hb1) hb2 | exact bl3 (bl3 ((Below.refl _ _).alloc (Nat.le_refl _) _).drew hb1) hb2)
  case rest =>
    obtain ⟨rfl, rfl, hb⟩ := hcut
    have hS : (str (List.replicate (65540 - m) (UInt8.ofNat c))).size = 65540 - m := by rw [str_size, List.length_replicate]
    have hK : (str (cnt 16)).size ≤ maxLen := by rw [str_size]; decide
    generalize str (List.replicate (65540 - m) (UInt8.ofNat c)) = S at *
    generalize str (cnt 16) = K at *
    have hSm : S.size ≤ maxLen := by unfold maxLen; omega
    have HK := Lib.hid hK
    have HS := Lib.hid hSm
    have H2 := Lib.hid hr2
    clear hcv hr hr2 hw1 hw2 hm hK hSm h1 h2
    have hlo : 40 ≤ S.size := by have := H2.out; omega
    have hhi : S.size ≤ 65540 := by omega
    clear hS
    go_wp2_with fail
    refine (sum_any K S HK.out HS.out _).mono ?_
    rintro e w1 ⟨rfl, hb1⟩
    have hB1 := bl3 hb hb1
    clear hb hb1
    go_wp2_with fail
    refine (sumR_any K S HK.out HS.out _).mono ?_
    rintro e w2 ⟨rfl, hb2⟩
    have hB2 := bl3 hB1 hb2
    clear hB1 hb2
    go_wp2_with fail
    refine (derive_any K S HK.out HS.out _).mono ?_
    rintro e w3 ⟨rfl, hb3⟩
    have hB3 := bl3 hB2 hb3
    clear hB2 hb3
    go_wp2_with fail
    refine (deriveR_any K S HK.out HS.out _).mono ?_
    rintro e w4 ⟨rfl, hb4⟩
    have hB4 := bl3 hB3 hb4
    clear hB3 hb4
    go_upto_region 6 with fail
    have ex1 : Hid ((S.extract 0 40).size ≤ 1000000) := by show _ ≤ _; rw [ByteArray.size_extract]; omega
    have ex2 : Hid ((S.extract 40 S.size).size ≤ 1000000) := by show _ ≤ _; rw [ByteArray.size_extract]; omega
    go_cut [15, 16] from 52 to 62 (fun a b wx => a = .string (chS K [S.extract 0 40, S.extract 40 S.size]) ∧ b = .int .i64 (chE K [S.extract 0 40, S.extract 40 S.size]) ∧ Below w.heap.size w wx)
    case first =>
      go_region_with (first | (go_at_call 19; with_reducible refine (chain_two K _ _ ex1.out ex2.out _ _).mono ?_; rintro e w5 ⟨rfl, hb5⟩))
      all_goals (go_wp2_with fail; go_meet; exact ⟨rfl, rfl, bl4 hB4 hb5⟩)
    case rest =>
      obtain ⟨rfl, rfl, hB5⟩ := hcut
      clear hB4
      go_upto_region 7 with fail
      go_cut [17, 18] from 62 to 72 (fun a b wx => a = .string (chS K [S.extract 0 40, S.extract 40 S.size]) ∧ b = .int .i64 (chE K [S.extract 0 40, S.extract 40 S.size]) ∧ Below w.heap.size w wx)
      case first =>
        go_region_with (first | (go_at_call 21; with_reducible refine (chainR_two K _ _ ex1.out ex2.out _ _).mono ?_; rintro e w6 ⟨rfl, hb6⟩))
        all_goals (go_wp2_with fail; go_meet; exact ⟨rfl, rfl, bl4 hB5 hb6⟩)
      case rest =>
        obtain ⟨rfl, rfl, hB6⟩ := hcut
        clear hB5 ex1 ex2
        generalize chS K [S.extract 0 40, S.extract 40 S.size] = X
        generalize chE K [S.extract 0 40, S.extract 40 S.size] = Y
        generalize sumS K S = X1
        generalize sumE K S = Y1
        generalize derS K S = X2
        generalize derE K S = Y2
        go_wp2_with fail
        refine (awake_any _).mono ?_
        rintro e w7 ⟨rfl, hb7⟩
        have hB7 := bl3 hB6 hb7
        clear hB6 hb7
        go_wp2
        go_ret
        exact ⟨rfl, hB7⟩

/-- The same at the row's own integers. -/
theorem lawLongI (n m : Int) (hn : (Lit.int .u8 n).wf = true) (hm : (Lit.int .u8 m).wf = true) (w : World) :
    Calls Try.prog 10 #[.int .u8 n, .int .u8 m] w fun e w' => e = .returned (.bool true) ∧ Below w.heap.size w w' := by
  have bn := bounds_u8 hn
  have bm := bounds_u8 hm
  obtain ⟨n, rfl⟩ := Int.eq_ofNat_of_zero_le bn.1
  obtain ⟨m, rfl⟩ := Int.eq_ofNat_of_zero_le bm.1
  exact lawLong n m (by omega) (by omega) w
end Go.Proofs.Ytdjpidniakedpaa
