/- crc's Update, walked. Condition: a length below the model's greatest. -/
import Derived.Test.YtjfbmaeapokgaaaCrcSum
import Derived.Test.YtjfbmaeapokgaaaCrcRef
namespace Go.Proofs.Ytjfbmaeapokgaaa
open Go Go.RowKit
open Crc (upd sum most)

/-- what Update answers -/
def updV (c : Int) (l : List UInt8) : Int := if 0 ≤ c ∧ c ≤ 4294967295 then ((Crc.update c.toNat l : Nat) : Int) else 0
def updE (c : Int) : Int := if 0 ≤ c ∧ c ≤ 4294967295 then 0 else 2
theorem upd_no {c : Int} (h : ¬ (0 ≤ c ∧ c ≤ 4294967295)) (l : List UInt8) : updV c l = 0 ∧ updE c = 2 := by unfold updV updE; rw [if_neg h, if_neg h]; exact ⟨rfl, rfl⟩
theorem upd_yes {c : Nat} (h : c < 4294967296) (l : List UInt8) : updV c l = ((Crc.update c l : Nat) : Int) ∧ updE c = 0 := by
  have h' : 0 ≤ (c : Int) ∧ (c : Int) ≤ 4294967295 := ⟨by omega, by omega⟩
  unfold updV updE; rw [if_pos h', if_pos h']; exact ⟨rfl, rfl⟩
theorem two_ii {a a' b b' : Int} (h : a = a') (h' : b = b') : Ending.returned (.tuple #[.int .i64 a, .int .i64 b]) = .returned (.tuple #[.int .i64 a', .int .i64 b']) := by rw [h, h']

theorem updateP_good (c : Nat) (hc : c < 4294967296) (s : ByteArray) (hs : s.size ≤ maxLen) (w : World) :
    Calls Try.prog 15 #[.int .i64 (c : Int), .string s] w fun e w' => e = .returned (.tuple #[.int .i64 ((Crc.update c s.data.toList : Nat) : Int), .int .i64 0]) ∧ Below w.heap.size w w' := by
  have hw : IntKind.u32.wrap (c : Int) = (c : Int) := by rw [IntKind.wrap_u32']; omega
  have hw2 : (c : Int) % 4294967296 = (c : Int) := by omega
  have hx0 : bits .xor .u32 (c : Int) 4294967295 = ((c ^^^ most : Nat) : Int) := xor32 c 4294967295 hc (by decide)
  have hr0 := Crc.xor_lt c most hc (by decide)
  have hu := Crc.upd_lt s.data.toList (c ^^^ most) hr0
  have hx : bits .xor .u32 ((upd (c ^^^ most) s.data.toList : Nat) : Int) 4294967295 = ((Crc.update c s.data.toList : Nat) : Int) := xor32 _ 4294967295 hu (by decide)
  have hl := Crc.update_lt c s.data.toList hc
  have HU := Lib.hid (update_any (c ^^^ most) hr0 s hs)
  generalize c ^^^ most = r0 at hx0 hx hu HU
  generalize upd r0 s.data.toList = u at hx hu HU
  generalize Crc.update c s.data.toList = v at hx hl ⊢
  clear hr0
  go_enter Try.func15, Try.ntmps15
  go_wp2_with fail
  refine (HU.out _).mono ?_
  rintro e w1 ⟨rfl, hb1⟩
  go_wp2
  go_ret2
  exact ⟨rfl, hb1⟩

theorem updateP_any (c : Int) (s : ByteArray) (hs : s.size ≤ maxLen) (w : World) :
    Calls Try.prog 15 #[.int .i64 c, .string s] w fun e w' => e = .returned (.tuple #[.int .i64 (updV c s.data.toList), .int .i64 (updE c)]) ∧ Below w.heap.size w w' := by
  by_cases hin : 0 ≤ c ∧ c ≤ 4294967295
  · obtain ⟨C, rfl⟩ := Int.eq_ofNat_of_zero_le hin.1
    have := upd_yes (c := C) (by omega) s.data.toList
    rw [this.1, this.2]
    exact updateP_good C (by omega) s hs w
  · have HO := Lib.hid (upd_no hin s.data.toList)
    generalize updV c s.data.toList = V at HO ⊢
    generalize updE c = E at HO ⊢
    by_cases c1 : c < 0
    · clear hin
      go_enter Try.func15, Try.ntmps15
      go_wp2
      go_ret2
      exact ⟨two_ii HO.out.1.symm HO.out.2.symm, Below.refl _ _⟩
    have c2 : 4294967295 < c := by omega
    clear hin
    go_enter Try.func15, Try.ntmps15
    go_wp2
    go_ret2
    exact ⟨two_ii HO.out.1.symm HO.out.2.symm, Below.refl _ _⟩

theorem updateR_all (c : Int) (s : ByteArray) (hs : s.size ≤ maxLen) (w : World) :
    Calls Try.prog 16 #[.int .i64 c, .string s] w fun e w' => e = .returned (.tuple #[.int .i64 (updV c s.data.toList), .int .i64 (updE c)]) ∧ w = w' := by
  by_cases hin : 0 ≤ c ∧ c ≤ 4294967295
  · obtain ⟨C, rfl⟩ := Int.eq_ofNat_of_zero_le hin.1
    have := upd_yes (c := C) (by omega) s.data.toList
    rw [this.1, this.2]
    exact updateR_any C (by omega) s hs w
  · have HO := Lib.hid (upd_no hin s.data.toList)
    generalize updV c s.data.toList = V at HO ⊢
    generalize updE c = E at HO ⊢
    by_cases c1 : c < 0
    · clear hin
      go_enter Try.func16, Try.ntmps16
      go_wp2
      go_ret2
      exact ⟨two_ii HO.out.1.symm HO.out.2.symm, rfl⟩
    have c2 : 4294967295 < c := by omega
    clear hin
    go_enter Try.func16, Try.ntmps16
    go_wp2
    go_ret2
    exact ⟨two_ii HO.out.1.symm HO.out.2.symm, rfl⟩
end Go.Proofs.Ytjfbmaeapokgaaa
