/- The tests of numbers and ids, of the program and of the reference, walked. No condition. -/
import Derived.Test.YtlknjdfiedkhbaaMem
import Derived.Test.YtlknjdfiedkhbaaSpec
namespace Go.Proofs.Ytlknjdfiedkhbaa
open Go Go.RowKit
open Jo (RId Itm Rec wi vId ckI ck zId zIt idA itA rcA)

theorem within_any (n lo hi : Int) (w : World) : Calls Try.prog 30 #[.int .i64 n, .int .i64 lo, .int .i64 hi] w fun e w' => e = .returned (.bool (wi n lo hi)) ∧ w = w' := by
  by_cases h1 : lo ≤ n
  · by_cases h2 : n ≤ hi
    · have HW : Hid (wi n lo hi = true) := by show _ = _; simp [wi, h1, h2]
      go_enter Try.func30, Try.ntmps30
      go_wp2
      go_ret
      exact ⟨ret_b HW.out.symm, rfl⟩
    · have HW : Hid (wi n lo hi = false) := by show _ = _; simp [wi, h1]; omega
      go_enter Try.func30, Try.ntmps30
      go_wp2
      go_ret
      exact ⟨ret_b HW.out.symm, rfl⟩
  · have HW : Hid (wi n lo hi = false) := by show _ = _; simp [wi]; omega
    go_enter Try.func30, Try.ntmps30
    go_wp2
    go_ret
    exact ⟨ret_b HW.out.symm, rfl⟩
theorem in_any (n lo hi : Int) (w : World) : Calls Try.prog 42 #[.int .i64 n, .int .i64 lo, .int .i64 hi] w fun e w' => e = .returned (.bool (wi n lo hi)) ∧ w = w' := by
  by_cases h1 : lo ≤ n
  · by_cases h2 : n ≤ hi
    · have HW : Hid (wi n lo hi = true) := by show _ = _; simp [wi, h1, h2]
      go_enter Try.func42, Try.ntmps42
      go_wp2
      go_ret
      exact ⟨ret_b HW.out.symm, rfl⟩
    · have HW : Hid (wi n lo hi = false) := by show _ = _; simp [wi, h1]; omega
      go_enter Try.func42, Try.ntmps42
      go_wp2
      go_ret
      exact ⟨ret_b HW.out.symm, rfl⟩
  · have HW : Hid (wi n lo hi = false) := by show _ = _; simp [wi]; omega
    go_enter Try.func42, Try.ntmps42
    go_wp2
    go_ret
    exact ⟨ret_b HW.out.symm, rfl⟩

set_option maxHeartbeats 2000000 in
theorem checkId_any (x : RId) (w : World) : Calls Try.prog 32 #[.agg (idA x)] w fun e w' => e = .returned (.bool (vId x)) ∧ Below w.heap.size w w' := by
  obtain ⟨src, cre, seq, off, tot⟩ := x
  change Calls _ _ #[.agg #[.int .i64 src, .int .i64 cre, .int .i64 seq, .int .i64 off, .int .i64 tot]] w _
  have W1 := Lib.hid (within_any src 0 15)
  have W2 := Lib.hid (within_any cre 0 1099511627776)
  have W3 := Lib.hid (within_any seq 0 1099511627776)
  have W4 := Lib.hid (within_any tot 1 4096)
  have W5 := Lib.hid (within_any off 0 (tot - 1))
  have HV : Hid (vId ⟨src, cre, seq, off, tot⟩ = (wi src 0 15 && wi cre 0 1099511627776 && wi seq 0 1099511627776 && ((decide (off = 0) && decide (tot = 0)) || (wi tot 1 4096 && wi off 0 (tot - 1))))) := rfl
  have T4 : Hid (wi tot 1 4096 = true → 1 ≤ tot ∧ tot ≤ 4096) := fun h => by simpa [wi] using h
  generalize vId ⟨src, cre, seq, off, tot⟩ = res at HV ⊢
  generalize wi src 0 15 = b1 at W1 HV
  generalize wi cre 0 1099511627776 = b2 at W2 HV
  generalize wi seq 0 1099511627776 = b3 at W3 HV
  generalize wi tot 1 4096 = b4 at W4 HV T4
  generalize wi off 0 (tot - 1) = b5 at W5 HV
  cases b1
  · obtain rfl : res = false := by rw [HV.out]; rfl
    clear HV T4
    go_enter Try.func32, Try.ntmps32
    go_wp2_with fail
    refine (W1.out _).mono ?_
    rintro e w1 ⟨rfl, rfl⟩
    go_wp2
    go_ret
    exact ⟨ret_b rfl, (Below.refl _ _).alloc (Nat.le_refl _) _⟩
  cases b2
  · obtain rfl : res = false := by rw [HV.out]; rfl
    clear HV T4
    go_enter Try.func32, Try.ntmps32
    go_wp2_with fail
    refine (W1.out _).mono ?_
    rintro e w1 ⟨rfl, rfl⟩
    go_wp2_with fail
    refine (W2.out _).mono ?_
    rintro e w1 ⟨rfl, rfl⟩
    go_wp2
    go_ret
    exact ⟨ret_b rfl, (Below.refl _ _).alloc (Nat.le_refl _) _⟩
  cases b3
  · obtain rfl : res = false := by rw [HV.out]; rfl
    clear HV T4
    go_enter Try.func32, Try.ntmps32
    go_wp2_with fail
    refine (W1.out _).mono ?_
    rintro e w1 ⟨rfl, rfl⟩
    go_wp2_with fail
    refine (W2.out _).mono ?_
    rintro e w1 ⟨rfl, rfl⟩
    go_wp2_with fail
    refine (W3.out _).mono ?_
    rintro e w1 ⟨rfl, rfl⟩
    go_wp2
    go_ret
    exact ⟨ret_b rfl, (Below.refl _ _).alloc (Nat.le_refl _) _⟩
  by_cases h0 : off = 0
  · subst h0
    by_cases h1 : tot = 0
    · subst h1
      obtain rfl : res = true := by rw [HV.out]; rfl
      clear HV T4
      go_enter Try.func32, Try.ntmps32
      go_wp2_with fail
      refine (W1.out _).mono ?_
      rintro e w1 ⟨rfl, rfl⟩
      go_wp2_with fail
      refine (W2.out _).mono ?_
      rintro e w1 ⟨rfl, rfl⟩
      go_wp2_with fail
      refine (W3.out _).mono ?_
      rintro e w1 ⟨rfl, rfl⟩
      go_wp2
      go_ret
      exact ⟨ret_b rfl, (Below.refl _ _).alloc (Nat.le_refl _) _⟩
    ·
      replace HV : Hid (res = (b4 && b5)) := by show _ = _; rw [HV.out]; simp [h1]
      have hnb : (tot == 0) = false := by rw [beq_eq_false_iff_ne]; exact h1
      clear h1
      cases b4
      · obtain rfl : res = false := by rw [HV.out]; rfl
        clear HV T4
        go_enter Try.func32, Try.ntmps32
        go_wp2_with fail
        refine (W1.out _).mono ?_
        rintro e w1 ⟨rfl, rfl⟩
        go_wp2_with fail
        refine (W2.out _).mono ?_
        rintro e w1 ⟨rfl, rfl⟩
        go_wp2_with fail
        refine (W3.out _).mono ?_
        rintro e w1 ⟨rfl, rfl⟩
        go_wp2_with fail
        refine (W4.out _).mono ?_
        rintro e w1 ⟨rfl, rfl⟩
        go_wp2
        go_ret
        exact ⟨ret_b rfl, (Below.refl _ _).alloc (Nat.le_refl _) _⟩
      · obtain ⟨t1, t2⟩ := T4.out rfl
        clear T4
        replace HV : Hid (res = b5) := by show _ = _; rw [HV.out]; rfl
        go_enter Try.func32, Try.ntmps32
        go_wp2_with fail
        refine (W1.out _).mono ?_
        rintro e w1 ⟨rfl, rfl⟩
        go_wp2_with fail
        refine (W2.out _).mono ?_
        rintro e w1 ⟨rfl, rfl⟩
        go_wp2_with fail
        refine (W3.out _).mono ?_
        rintro e w1 ⟨rfl, rfl⟩
        go_wp2_with fail
        refine (W4.out _).mono ?_
        rintro e w1 ⟨rfl, rfl⟩
        go_wp2_with fail
        refine (W5.out _).mono ?_
        rintro e w1 ⟨rfl, rfl⟩
        go_wp2
        go_ret
        exact ⟨ret_b HV.out.symm, (Below.refl _ _).alloc (Nat.le_refl _) _⟩
  ·
    replace HV : Hid (res = (b4 && b5)) := by show _ = _; rw [HV.out]; simp [h0]
    have hnb : (off == 0) = false := by rw [beq_eq_false_iff_ne]; exact h0
    clear h0
    cases b4
    · obtain rfl : res = false := by rw [HV.out]; rfl
      clear HV T4
      go_enter Try.func32, Try.ntmps32
      go_wp2_with fail
      refine (W1.out _).mono ?_
      rintro e w1 ⟨rfl, rfl⟩
      go_wp2_with fail
      refine (W2.out _).mono ?_
      rintro e w1 ⟨rfl, rfl⟩
      go_wp2_with fail
      refine (W3.out _).mono ?_
      rintro e w1 ⟨rfl, rfl⟩
      go_wp2_with fail
      refine (W4.out _).mono ?_
      rintro e w1 ⟨rfl, rfl⟩
      go_wp2
      go_ret
      exact ⟨ret_b rfl, (Below.refl _ _).alloc (Nat.le_refl _) _⟩
    · obtain ⟨t1, t2⟩ := T4.out rfl
      clear T4
      replace HV : Hid (res = b5) := by show _ = _; rw [HV.out]; rfl
      go_enter Try.func32, Try.ntmps32
      go_wp2_with fail
      refine (W1.out _).mono ?_
      rintro e w1 ⟨rfl, rfl⟩
      go_wp2_with fail
      refine (W2.out _).mono ?_
      rintro e w1 ⟨rfl, rfl⟩
      go_wp2_with fail
      refine (W3.out _).mono ?_
      rintro e w1 ⟨rfl, rfl⟩
      go_wp2_with fail
      refine (W4.out _).mono ?_
      rintro e w1 ⟨rfl, rfl⟩
      go_wp2_with fail
      refine (W5.out _).mono ?_
      rintro e w1 ⟨rfl, rfl⟩
      go_wp2
      go_ret
      exact ⟨ret_b HV.out.symm, (Below.refl _ _).alloc (Nat.le_refl _) _⟩

set_option maxHeartbeats 2000000 in
theorem validId_any (x : RId) (w : World) : Calls Try.prog 44 #[.agg (idA x)] w fun e w' => e = .returned (.bool (vId x)) ∧ Below w.heap.size w w' := by
  obtain ⟨src, cre, seq, off, tot⟩ := x
  change Calls _ _ #[.agg #[.int .i64 src, .int .i64 cre, .int .i64 seq, .int .i64 off, .int .i64 tot]] w _
  have W1 := Lib.hid (in_any src 0 15)
  have W2 := Lib.hid (in_any cre 0 1099511627776)
  have W3 := Lib.hid (in_any seq 0 1099511627776)
  have W4 := Lib.hid (in_any tot 1 4096)
  have W5 := Lib.hid (in_any off 0 (tot - 1))
  have HV : Hid (vId ⟨src, cre, seq, off, tot⟩ = (wi src 0 15 && wi cre 0 1099511627776 && wi seq 0 1099511627776 && ((decide (off = 0) && decide (tot = 0)) || (wi tot 1 4096 && wi off 0 (tot - 1))))) := rfl
  have T4 : Hid (wi tot 1 4096 = true → 1 ≤ tot ∧ tot ≤ 4096) := fun h => by simpa [wi] using h
  generalize vId ⟨src, cre, seq, off, tot⟩ = res at HV ⊢
  generalize wi src 0 15 = b1 at W1 HV
  generalize wi cre 0 1099511627776 = b2 at W2 HV
  generalize wi seq 0 1099511627776 = b3 at W3 HV
  generalize wi tot 1 4096 = b4 at W4 HV T4
  generalize wi off 0 (tot - 1) = b5 at W5 HV
  cases b1
  · obtain rfl : res = false := by rw [HV.out]; rfl
    clear HV T4
    go_enter Try.func44, Try.ntmps44
    go_wp2_with fail
    refine (W1.out _).mono ?_
    rintro e w1 ⟨rfl, rfl⟩
    go_wp2
    go_ret
    exact ⟨ret_b rfl, (Below.refl _ _).alloc (Nat.le_refl _) _⟩
  cases b2
  · obtain rfl : res = false := by rw [HV.out]; rfl
    clear HV T4
    go_enter Try.func44, Try.ntmps44
    go_wp2_with fail
    refine (W1.out _).mono ?_
    rintro e w1 ⟨rfl, rfl⟩
    go_wp2_with fail
    refine (W2.out _).mono ?_
    rintro e w1 ⟨rfl, rfl⟩
    go_wp2
    go_ret
    exact ⟨ret_b rfl, (Below.refl _ _).alloc (Nat.le_refl _) _⟩
  cases b3
  · obtain rfl : res = false := by rw [HV.out]; rfl
    clear HV T4
    go_enter Try.func44, Try.ntmps44
    go_wp2_with fail
    refine (W1.out _).mono ?_
    rintro e w1 ⟨rfl, rfl⟩
    go_wp2_with fail
    refine (W2.out _).mono ?_
    rintro e w1 ⟨rfl, rfl⟩
    go_wp2_with fail
    refine (W3.out _).mono ?_
    rintro e w1 ⟨rfl, rfl⟩
    go_wp2
    go_ret
    exact ⟨ret_b rfl, (Below.refl _ _).alloc (Nat.le_refl _) _⟩
  by_cases h0 : off = 0
  · subst h0
    by_cases h1 : tot = 0
    · subst h1
      obtain rfl : res = true := by rw [HV.out]; rfl
      clear HV T4
      go_enter Try.func44, Try.ntmps44
      go_wp2_with fail
      refine (W1.out _).mono ?_
      rintro e w1 ⟨rfl, rfl⟩
      go_wp2_with fail
      refine (W2.out _).mono ?_
      rintro e w1 ⟨rfl, rfl⟩
      go_wp2_with fail
      refine (W3.out _).mono ?_
      rintro e w1 ⟨rfl, rfl⟩
      go_wp2
      go_ret
      exact ⟨ret_b rfl, (Below.refl _ _).alloc (Nat.le_refl _) _⟩
    ·
      replace HV : Hid (res = (b4 && b5)) := by show _ = _; rw [HV.out]; simp [h1]
      have hnb : (tot == 0) = false := by rw [beq_eq_false_iff_ne]; exact h1
      clear h1
      cases b4
      · obtain rfl : res = false := by rw [HV.out]; rfl
        clear HV T4
        go_enter Try.func44, Try.ntmps44
        go_wp2_with fail
        refine (W1.out _).mono ?_
        rintro e w1 ⟨rfl, rfl⟩
        go_wp2_with fail
        refine (W2.out _).mono ?_
        rintro e w1 ⟨rfl, rfl⟩
        go_wp2_with fail
        refine (W3.out _).mono ?_
        rintro e w1 ⟨rfl, rfl⟩
        go_wp2_with fail
        refine (W4.out _).mono ?_
        rintro e w1 ⟨rfl, rfl⟩
        go_wp2
        go_ret
        exact ⟨ret_b rfl, (Below.refl _ _).alloc (Nat.le_refl _) _⟩
      · obtain ⟨t1, t2⟩ := T4.out rfl
        clear T4
        replace HV : Hid (res = b5) := by show _ = _; rw [HV.out]; rfl
        go_enter Try.func44, Try.ntmps44
        go_wp2_with fail
        refine (W1.out _).mono ?_
        rintro e w1 ⟨rfl, rfl⟩
        go_wp2_with fail
        refine (W2.out _).mono ?_
        rintro e w1 ⟨rfl, rfl⟩
        go_wp2_with fail
        refine (W3.out _).mono ?_
        rintro e w1 ⟨rfl, rfl⟩
        go_wp2_with fail
        refine (W4.out _).mono ?_
        rintro e w1 ⟨rfl, rfl⟩
        go_wp2_with fail
        refine (W5.out _).mono ?_
        rintro e w1 ⟨rfl, rfl⟩
        go_wp2
        go_ret
        exact ⟨ret_b HV.out.symm, (Below.refl _ _).alloc (Nat.le_refl _) _⟩
  ·
    replace HV : Hid (res = (b4 && b5)) := by show _ = _; rw [HV.out]; simp [h0]
    have hnb : (off == 0) = false := by rw [beq_eq_false_iff_ne]; exact h0
    clear h0
    cases b4
    · obtain rfl : res = false := by rw [HV.out]; rfl
      clear HV T4
      go_enter Try.func44, Try.ntmps44
      go_wp2_with fail
      refine (W1.out _).mono ?_
      rintro e w1 ⟨rfl, rfl⟩
      go_wp2_with fail
      refine (W2.out _).mono ?_
      rintro e w1 ⟨rfl, rfl⟩
      go_wp2_with fail
      refine (W3.out _).mono ?_
      rintro e w1 ⟨rfl, rfl⟩
      go_wp2_with fail
      refine (W4.out _).mono ?_
      rintro e w1 ⟨rfl, rfl⟩
      go_wp2
      go_ret
      exact ⟨ret_b rfl, (Below.refl _ _).alloc (Nat.le_refl _) _⟩
    · obtain ⟨t1, t2⟩ := T4.out rfl
      clear T4
      replace HV : Hid (res = b5) := by show _ = _; rw [HV.out]; rfl
      go_enter Try.func44, Try.ntmps44
      go_wp2_with fail
      refine (W1.out _).mono ?_
      rintro e w1 ⟨rfl, rfl⟩
      go_wp2_with fail
      refine (W2.out _).mono ?_
      rintro e w1 ⟨rfl, rfl⟩
      go_wp2_with fail
      refine (W3.out _).mono ?_
      rintro e w1 ⟨rfl, rfl⟩
      go_wp2_with fail
      refine (W4.out _).mono ?_
      rintro e w1 ⟨rfl, rfl⟩
      go_wp2_with fail
      refine (W5.out _).mono ?_
      rintro e w1 ⟨rfl, rfl⟩
      go_wp2
      go_ret
      exact ⟨ret_b HV.out.symm, (Below.refl _ _).alloc (Nat.le_refl _) _⟩
end Go.Proofs.Ytlknjdfiedkhbaa
