/- The reference's matrices: applied to a number, made twice, walked. Condition: a number of 32 bits. -/
import Derived.Test.YtjfbmaeapokgaaaCrcRef
import Derived.Test.YtjfbmaeapokgaaaCrcMat
import Derived.Test.YtjfbmaeapokgaaaIntsAt
import Derived.Test.YtjfbmaeapokgaaaIntRow
namespace Go.Proofs.Ytjfbmaeapokgaaa
open Go Go.RowKit
open Crc (stepN step1 app)

/-- the matrix of j steps as a list -/
def matL (j : Nat) : List Int := (List.range 32).map fun i => ((stepN j (2 ^ i) : Nat) : Int)
theorem matL_len (j : Nat) : (matL j).length = 32 := by simp [matL]
theorem matL_at (j k : Nat) (hk : k < 32) : elt (matL j) k = ((stepN j (2 ^ k) : Nat) : Int) := by
  unfold elt matL
  rw [List.getElem?_map, List.getElem?_range hk]; rfl
theorem pow_lt (k : Nat) (hk : k < 32) : 2 ^ k < 4294967296 := by
  have : 2 ^ k ≤ 2 ^ 31 := Nat.pow_le_pow_right (by decide) (by omega)
  omega
theorem and64 (q : Nat) (hq : q < 4294967296) : bits .and .i64 (q : Int) 1 = ((q % 2 : Nat) : Int) := by
  show IntKind.i64.wrap ((BitVec.ofInt 64 (q : Int) &&& BitVec.ofInt 64 ((1 : Nat) : Int)).toNat : Int) = _
  rw [BitVec.toNat_and, BitVec.ofInt_natCast, BitVec.ofInt_natCast, BitVec.toNat_ofNat, BitVec.toNat_ofNat, Nat.mod_eq_of_lt (show q < 2 ^ 64 by omega), show 1 % 2 ^ 64 = 2 ^ 1 - 1 from rfl, Nat.and_two_pow_sub_one_eq_mod]
  rw [wrap_i64_small] <;> omega
theorem appR_lt (j x k : Nat) (hx : x < 4294967296) : app (fun i => stepN j (2 ^ i)) x k < 4294967296 := by
  rw [Crc.app_lin (stepN j) (Crc.stepN_zero j) (Crc.stepN_xor j)]
  exact Crc.stepN_lt _ _ (Nat.lt_of_le_of_lt (Nat.mod_le _ _) hx)

set_option maxHeartbeats 1000000 in
set_option maxRecDepth 100000 in
theorem applyR_any (A : Option Addr) (c j x : Nat) (hx : x < 4294967296) (w : World) (hA : IntsAt w A (matL j)) :
    Calls Try.prog 32 #[.slice A 32 c, .int .i64 (x : Int)] w fun e w' => e = .returned (.int .i64 ((stepN j x : Nat) : Int)) ∧ w = w' := by
  obtain ⟨b, off, rfl, hb, hc⟩ := hA.opened (by rw [matL_len]; decide)
  rw [matL_len] at hc
  have HC := Lib.hid hc
  clear hc hA
  go_enter Try.func32, Try.ntmps32
  go_wp2
  go_loop [5, 6] (fun o i => ∃ k : Nat, k ≤ 32 ∧ i = .int .i64 k ∧ o = .int .i64 ((app (fun i => stepN j (2 ^ i)) x k : Nat) : Int)) (fun _ i => 32 - (intOf i).toNat)
  case atStart => exact ⟨0, by omega, rfl, rfl⟩
  case round =>
    obtain ⟨k, hk, rfl, rfl⟩ := hrel
    by_cases hlt : k < 32
    · have hcell := HC.out k hlt
      rw [matL_at j k hlt] at hcell
      have hl := appR_lt j x k hx
      have hq : x / 2 ^ k < 4294967296 := Nat.lt_of_le_of_lt (Nat.div_le_self _ _) hx
      have hand : bits .and .i64 ((x : Int) / 2 ^ k) 1 = ((x / 2 ^ k % 2 : Nat) : Int) := by rw [shr_spell]; exact and64 _ hq
      have hm := Crc.stepN_lt j (2 ^ k) (pow_lt k hlt)
      have HS : Hid (app (fun i => stepN j (2 ^ i)) x (k + 1) = if x / 2 ^ k % 2 = 1 then app (fun i => stepN j (2 ^ i)) x k ^^^ stepN j (2 ^ k) else app (fun i => stepN j (2 ^ i)) x k) := rfl
      generalize ho2 : app (fun i => stepN j (2 ^ i)) x (k + 1) = o2 at HS
      have HO2 := Lib.hid ho2
      clear ho2
      generalize app (fun i => stepN j (2 ^ i)) x k = o at HS hl
      generalize stepN j (2 ^ k) = mm at HS hcell hm
      have hxor := xor64 o mm hl hm
      have h2 : x / 2 ^ k % 2 < 2 := Nat.mod_lt _ (by decide)
      generalize x / 2 ^ k % 2 = b at HS hand h2
      clear hq
      by_cases hb : b = 1
      · subst hb
        have HE : Hid (o2 = o ^^^ mm) := by have := HS.out; rwa [if_pos rfl] at this
        rw [← HE.out] at hxor
        clear HS
        go_wp2
        go_round
        case rel => exact ⟨k + 1, by omega, by go_num, by rw [HO2.out]⟩
        case measure => simp [intOf]; omega
      · obtain rfl : b = 0 := by omega
        obtain rfl : o2 = o := by have := HS.out; rwa [if_neg (by decide)] at this
        clear HS hxor
        go_wp2
        go_round
        case rel => exact ⟨k + 1, by omega, by go_num, by rw [HO2.out]⟩
        case measure => simp [intOf]; omega
    · obtain rfl : k = 32 := by omega
      have HE := Lib.hid (Crc.app_step j x hx)
      go_wp2
      go_ret
      exact ⟨ret_i (by rw [HE.out]), rfl⟩

theorem matL_snoc (j k : Nat) : (List.range (k + 1)).map (fun i => ((stepN j (2 ^ i) : Nat) : Int)) = (List.range k).map (fun i => ((stepN j (2 ^ i) : Nat) : Int)) ++ [((stepN j (2 ^ k) : Nat) : Int)] := by
  rw [List.range_succ, List.map_append]; rfl
/-- what the reference's loops hand back: a row of 32 numbers -/
def RetMat (w : World) (l : List Int) (e : Ending) (w' : World) : Prop :=
  ∃ A c, e = .returned (.slice A 32 c) ∧ IntsAt w' A l ∧ Below w.heap.size w w'
/-- what the reference's loops keep: a row of the first k numbers -/
def RowK (F : Nat → Int) (w wr : World) (v : Value) (k : Nat) : Prop := wr.ownsRow w.heap.size 3 1 v k (intV ((List.range k).map F)) ∧ Below w.heap.size w wr

theorem rowK_form {F : Nat → Int} {w wr : World} {v : Value} {k : Nat} (h : RowK F w wr v k) : ∃ A c, v = .slice A k c ∧ IntsAt wr A ((List.range k).map F) := by
  obtain ⟨A, c, h1, h2⟩ := own_list h.1 (by simp)
  exact ⟨A, c, by rw [h1]; simp, h2⟩
theorem rowK_next {F : Nat → Int} {w wr w3 : World} {A : Option Addr} {k c : Nat} {v' : Value} {x : Int} (hx : F k = x) (h : RowK F w wr (.slice A k c) k)
    (hown : w3.ownsRow w.heap.size 3 1 v' (k + 1) (intV ((List.range k).map F) ++ [.int .i64 x])) (hg : (wr.alloc (.cells #[.int .i64 x] 3)).grownBy w3 (Value.slice A k c).ownBlock) : RowK F w w3 v' (k + 1) := by
  subst hx
  rw [← intV_snoc] at hown
  refine ⟨by rw [List.range_succ, List.map_append]; exact hown, (h.2.alloc h.2.size (.cells #[.int .i64 (F k)] 3)).grown hg (by have := h.2.size; simp; omega) (fun j e => (h.1.lt _ e).1)⟩

set_option maxHeartbeats 1000000 in
set_option maxRecDepth 100000 in
theorem squareR_core (A : Option Addr) (c : Nat) (l : List Int) (hl : Hid (l.length = 32)) (F : Nat → Int) (w : World) (hA : IntsAt w A l)
    (HA : Hid (∀ k, k < 32 → ∀ w, IntsAt w A l → Calls Try.prog 32 #[.slice A 32 c, .int .i64 (elt l k)] w fun e w' => e = .returned (.int .i64 (F k)) ∧ w = w')) :
    Calls Try.prog 31 #[.slice A 32 c] w (RetMat w ((List.range 32).map F)) := by
  obtain ⟨i0, hi0, hz0, hz1, hz2⟩ := info_parts infoI
  have HAt := Lib.hid hA
  obtain ⟨b, off, rfl, hb, hc⟩ := hA.opened (by rw [hl.out]; decide)
  rw [hl.out] at hc
  have HC := Lib.hid hc
  clear hc hA
  go_enter Try.func31, Try.ntmps31
  go_wp2
  have HI0 : Hid (RowK F w (w.alloc (.cells #[] 3)) (.slice (some ⟨w.heap.size, 0, none⟩) 0 0) 0) := ⟨World.ownsRow_made w #[] 0 (Nat.le_refl _) (by decide) rfl, (Below.refl _ _).alloc (Nat.le_refl _) _⟩
  generalize w.alloc (.cells #[] 3) = W at HI0 ⊢
  go_loopw [3, 4] (fun v i wr => ∃ k : Nat, k ≤ 32 ∧ i = .int .i64 k ∧ RowK F w wr v k) (fun _ i _ => 32 - (intOf i).toNat)
  case atStart => exact ⟨0, by omega, rfl, HI0.out⟩
  case round =>
    clear HI0
    obtain ⟨k, hk, rfl, hinv⟩ := hrel
    obtain ⟨Av, cv, rfl, hat⟩ := rowK_form hinv
    have HX := Lib.hid hinv
    have HT := Lib.hid hat
    clear hinv hat
    have hcell : k < 32 → wr.cell? ⟨b, off + k, none⟩ = some (.int .i64 (elt l k)) := fun h => (HX.out.2.cell (p := ⟨b, off + k, none⟩) hb).trans (HC.out k h)
    by_cases hlt : k < 32
    · have hcl := hcell hlt
      have HAk := Lib.hid (HA.out k hlt wr (HAt.out.below HX.out.2))
      clear hcell
      generalize hx : F k = x at HAk
      have HX2 := Lib.hid hx
      clear hx
      go_wp2_with fail
      refine (HAk.out).mono ?_
      rintro e w2 ⟨rfl, rfl⟩
      go_wp2_with (at_builtin; refine wpList_append_own _ rfl _ _ 52 rfl w.heap.size 3 i0 (.int .i64 0) 1 8 Try.underlying52 hi0 hz0 hz1 hz2 rfl (by decide) _ k (intV ((List.range k).map F)) rfl (HX.out.1.alloc _) ⟨wr.heap.size, 0, none⟩ 1 1 [.int .i64 x] rfl rfl ?c1 ?c2 ?c3 ?c4 ?c5 ?_)
      case c1 => exact cell_one_new _ _ _
      case c2 => simp [Value.oneCell']
      case c3 => unfold maxLen; omega
      case c4 => omega
      case c5 => have := HX.out.2.size; simp; omega
      intro v' w3 hown' hg3 _
      have HN := Lib.hid (rowK_next HX2.out HX.out hown' hg3)
      clear hown' hg3
      go_wp2
      go_roundw
      case rel => exact ⟨k + 1, by omega, by go_num, HN.out⟩
      case measure => simp [intOf]; omega
    · have HK : Hid (k = 32) := by show k = 32; omega
      have HR : Hid (RetMat w ((List.range 32).map F) (.returned (.slice Av k cv)) wr) := by
        obtain ⟨A2, c2, h1, h2⟩ := rowK_form HX.out
        cases h1
        have e := HK.out
        subst e
        exact ⟨_, _, rfl, h2, HX.out.2⟩
      go_wp2
      go_ret
      exact HR.out

theorem squareR_any (A : Option Addr) (c j : Nat) (w : World) (hA : IntsAt w A (matL j)) :
    Calls Try.prog 31 #[.slice A 32 c] w (RetMat w (matL (j + j))) := by
  refine squareR_core A c (matL j) (Lib.hid (matL_len j)) (fun i => ((stepN (j + j) (2 ^ i) : Nat) : Int)) w hA (Lib.hid fun k hk w hA => ?_)
  have := applyR_any A c j (stepN j (2 ^ k)) (Crc.stepN_lt j _ (pow_lt k hk)) w hA
  rwa [← Crc.stepN_add, ← matL_at j k hk] at this
end Go.Proofs.Ytjfbmaeapokgaaa
