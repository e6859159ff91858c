/- A matrix applied to a number, walked. Condition: a number of 32 bits. -/
import Derived.Test.YtjfbmaeapokgaaaCrcTable
import Derived.Test.YtjfbmaeapokgaaaCrcMat
namespace Go.Proofs.Ytjfbmaeapokgaaa
open Go Go.RowKit
open Crc (stepN app)
attribute [-simp] Try.isAgg48 Try.sizeOf48 Try.typeInfo48

/-- the matrix of j steps -/
def matV (j : Nat) : Array Value := Array.ofFn (n := 32) fun i => .int .u32 ((stepN j (2 ^ i.1) : Nat) : Int)
theorem matV_size (j : Nat) : (matV j).size = 32 := by simp [matV]
theorem index_mat (j i : Nat) (hi : i < 32) (w : World) : (Instr.index 48 (.agg (matV j)) (.int .i64 (i : Int))).run Try.prog w = .ok (.int .u32 ((stepN j (2 ^ i) : Nat) : Int)) w := by
  have h1 : (matV j)[i]? = some (.int .u32 ((stepN j (2 ^ i) : Nat) : Int)) := by
    rw [Array.getElem?_eq_getElem (by rw [matV_size]; exact hi)]; simp [matV]
  generalize matV j = M at h1
  have h3 : (0 : Int) ≤ (i : Int) := by omega
  simp [Instr.index, asIntOf, part, Result.andThen, h3, h1, go_sem]
  intro h
  omega

theorem and32 (q : Nat) (hq : q < 4294967296) : bits .and .u32 (q : Int) 1 = ((q % 2 : Nat) : Int) := by
  show IntKind.u32.wrap ((BitVec.ofInt 32 (q : Int) &&& BitVec.ofInt 32 ((1 : Nat) : Int)).toNat : Int) = _
  rw [BitVec.toNat_and, BitVec.ofInt_natCast, BitVec.ofInt_natCast, BitVec.toNat_ofNat, BitVec.toNat_ofNat, Nat.mod_eq_of_lt (show q < 2 ^ 32 from hq), show 1 % 2 ^ 32 = 2 ^ 1 - 1 from rfl, Nat.and_two_pow_sub_one_eq_mod]
  rw [IntKind.wrap_u32']
  omega
theorem app_lt (j x k : Nat) (hx : x < 4294967296) : app (fun i => stepN j (2 ^ i)) x k < 4294967296 := by
  rw [Crc.app_lin (stepN j) (Crc.stepN_zero j) (Crc.stepN_xor j)]
  exact Crc.stepN_lt _ _ (Nat.lt_of_le_of_lt (Nat.mod_le _ _) hx)

set_option maxHeartbeats 1000000 in
set_option maxRecDepth 100000 in
theorem apply_any (j x : Nat) (hx : x < 4294967296) (w : World) :
    Calls Try.prog 29 #[.agg (matV j), .int .u32 (x : Int)] w fun e w' => e = .returned (.int .u32 ((stepN j x : Nat) : Int)) ∧ Below w.heap.size w w' := by
  go_enter Try.func29, Try.ntmps29
  go_wp2
  have hlc := loadCells_bk (P := Try.prog) (Bk.new w 48 (matV j)) (matV_size j)
  have HB : Hid (Below w.heap.size w (w.alloc (.cells (matV j) 48))) := (Below.refl _ _).alloc (Nat.le_refl _) _
  simp only [Try.isAgg48, Try.sizeOf48, Result.andThen, ↓reduceIte, hlc]
  rw [Oper.upon_value]
  clear hlc
  generalize w.alloc (.cells (matV j) 48) = W at HB ⊢
  go_wp2
  go_loop [5, 6, 7, 9] (fun o _ _ i => ∃ k : Nat, k ≤ 32 ∧ i = .int .i64 k ∧ o = .int .u32 ((app (fun i => stepN j (2 ^ i)) x k : Nat) : Int)) (fun _ _ _ i => 32 - (intOf i).toNat)
  case atStart => exact ⟨0, by omega, rfl, rfl⟩
  case round =>
    obtain ⟨k, hk, rfl, rfl⟩ := hrel
    by_cases hlt : k < 32
    · have hidx := index_mat j k hlt
      have hl := app_lt j x k hx
      have hq : x / 2 ^ k < 4294967296 := Nat.lt_of_le_of_lt (Nat.div_le_self _ _) hx
      have hand : bits .and .u32 ((x : Int) / 2 ^ k) 1 = ((x / 2 ^ k % 2 : Nat) : Int) := by rw [shr_spell]; exact and32 _ hq
      have hm := Crc.stepN_lt j (2 ^ k) (by
        have : 2 ^ k ≤ 2 ^ 31 := Nat.pow_le_pow_right (by decide) (by omega)
        omega)
      have HS : Hid (app (fun i => stepN j (2 ^ i)) x (k + 1) = if x / 2 ^ k % 2 = 1 then app (fun i => stepN j (2 ^ i)) x k ^^^ stepN j (2 ^ k) else app (fun i => stepN j (2 ^ i)) x k) := rfl
      generalize ho2 : app (fun i => stepN j (2 ^ i)) x (k + 1) = o2 at HS
      have HO2 := Lib.hid ho2
      clear ho2
      generalize app (fun i => stepN j (2 ^ i)) x k = o at HS hl
      generalize stepN j (2 ^ k) = mm at HS hidx hm
      have hxor := xor32 o mm hl hm
      have h2 : x / 2 ^ k % 2 < 2 := Nat.mod_lt _ (by decide)
      generalize x / 2 ^ k % 2 = b at HS hand h2
      clear hq
      by_cases hb : b = 1
      · subst hb
        have HE : Hid (o2 = o ^^^ mm) := by have := HS.out; rwa [if_pos rfl] at this
        rw [← HE.out] at hxor
        clear HS
        go_wp2
        go_round
        case rel => exact ⟨k + 1, by omega, by go_num, by rw [HO2.out]⟩
        case measure => simp [intOf]; omega
      · obtain rfl : b = 0 := by omega
        obtain rfl : o2 = o := by have := HS.out; rwa [if_neg (by decide)] at this
        clear HS hxor
        go_wp2
        go_round
        case rel => exact ⟨k + 1, by omega, by go_num, by rw [HO2.out]⟩
        case measure => simp [intOf]; omega
    · obtain rfl : k = 32 := by omega
      have HE := Lib.hid (Crc.app_step j x hx)
      go_wp2
      go_ret
      exact ⟨ret_i (by rw [HE.out]), HB.out⟩
end Go.Proofs.Ytjfbmaeapokgaaa
