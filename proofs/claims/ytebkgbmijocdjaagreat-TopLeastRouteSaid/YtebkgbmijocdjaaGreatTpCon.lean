/- The contact layer of the program, walked: within, Check, segments, pass, duration, check, Fits, Duration, Overlap. Conditions: valid contacts where a duration is computed. -/
import Derived.Test.YtebkgbmijocdjaaGreatTpSpec
namespace Go.Proofs.YtebkgbmijocdjaaGreat.Tp
open Go Go.RowKit

def wi (n lo hi : Int) : Bool := decide (lo ≤ n) && decide (n ≤ hi)
theorem wi_iff {n lo hi : Int} : wi n lo hi = true ↔ lo ≤ n ∧ n ≤ hi := by simp [wi]
theorem wi_not {n lo hi : Int} : wi n lo hi = false ↔ ¬ (lo ≤ n ∧ n ≤ hi) := by rw [← wi_iff]; simp
theorem within_any (n lo hi : Int) (w : World) : Calls Tryz.prog 156 #[.int .i64 n, .int .i64 lo, .int .i64 hi] w fun e w' => e = .returned (.bool (wi n lo hi)) ∧ w = w' := by
  by_cases h1 : lo ≤ n
  · by_cases h2 : n ≤ hi
    · go_enter Tryz.func156, Tryz.ntmps156
      go_wp2
      go_ret
      exact ⟨ret_b (by rw [wi_iff.2 ⟨h1, h2⟩]), rfl⟩
    · go_enter Tryz.func156, Tryz.ntmps156
      go_wp2
      go_ret
      exact ⟨ret_b (by rw [wi_not.2 (fun h => by omega)]), rfl⟩
  · have d : decide (n ≥ lo) = false := by simpa using h1
    go_enter Tryz.func156, Tryz.ntmps156
    go_wp2
    go_ret
    exact ⟨ret_b (by rw [wi_not.2 (fun h => by omega)]), rfl⟩

set_option maxHeartbeats 2000000 in
set_option maxRecDepth 100000 in
theorem ctCheck_any (c : Ct) (w : World) : Calls Tryz.prog 103 #[.agg #[.int .i64 c.src, .int .i64 c.dst, .int .i64 c.beg, .int .i64 c.fin, .int .i64 c.rate, .int .i64 c.rng, .int .i64 c.loss]] w (RetErr (CtOK c) w) := by
  have HO : Hid (CtOK c ↔ (wi c.src 0 15 = true ∧ wi c.dst 0 15 = true ∧ wi c.rate 1 1000 = true ∧ wi c.rng 1 1048576 = true ∧ wi c.loss 0 16 = true) ∧ c.src ≠ c.dst ∧ 0 ≤ c.beg ∧ c.beg < c.fin ∧ c.fin ≤ 1099511627776 - 2 * c.rng) := by
    show _ ↔ _
    simp only [wi_iff, CtOK, and_assoc]
  have HR : Hid (wi c.rng 1 1048576 = true → 1 ≤ c.rng ∧ c.rng ≤ 1048576) := fun h => wi_iff.1 h
  have W1 := Lib.hid (fun w => within_any c.src 0 15 w)
  have W2 := Lib.hid (fun w => within_any c.dst 0 15 w)
  have W3 := Lib.hid (fun w => within_any c.rate 1 1000 w)
  have W4 := Lib.hid (fun w => within_any c.rng 1 1048576 w)
  have W5 := Lib.hid (fun w => within_any c.loss 0 16 w)
  generalize wi c.src 0 15 = b1 at HO W1
  generalize wi c.dst 0 15 = b2 at HO W2
  generalize wi c.rate 1 1000 = b3 at HO W3
  generalize wi c.rng 1 1048576 = b4 at HO HR W4
  generalize wi c.loss 0 16 = b5 at HO W5
  obtain ⟨a1, a2, a3, a4, a5, a6, a7⟩ := c
  simp only at HO HR W1 W2 W3 W4 W5 ⊢
  have HB : Hid (Below w.heap.size w (w.alloc (.cells #[.int .i64 a1, .int .i64 a2, .int .i64 a3, .int .i64 a4, .int .i64 a5, .int .i64 a6, .int .i64 a7] 104))) := (Below.refl _ _).alloc (Nat.le_refl _) _
  cases b1 with
  | false =>
    go_enter Tryz.func103, Tryz.ntmps103
    go_wp2_with fail
    refine (W1.out _).mono ?_
    rintro e w1 ⟨rfl, rfl⟩
    go_wp2
    go_ret
    exact retErr_no (by decide) (fun h => by have := (HO.out.1 h).1.1; cases this) HB.out
  | true =>
    cases b2 with
    | false =>
      go_enter Tryz.func103, Tryz.ntmps103
      go_wp2_with fail
      refine (W1.out _).mono ?_
      rintro e w1 ⟨rfl, rfl⟩
      go_wp2_with fail
      refine (W2.out _).mono ?_
      rintro e w2 ⟨rfl, rfl⟩
      go_wp2
      go_ret
      exact retErr_no (by decide) (fun h => by have := (HO.out.1 h).1.2.1; cases this) HB.out
    | true =>
      cases b3 with
      | false =>
        go_enter Tryz.func103, Tryz.ntmps103
        go_wp2_with fail
        refine (W1.out _).mono ?_
        rintro e w1 ⟨rfl, rfl⟩
        go_wp2_with fail
        refine (W2.out _).mono ?_
        rintro e w2 ⟨rfl, rfl⟩
        go_wp2_with fail
        refine (W3.out _).mono ?_
        rintro e w3 ⟨rfl, rfl⟩
        go_wp2
        go_ret
        exact retErr_no (by decide) (fun h => by have := (HO.out.1 h).1.2.2.1; cases this) HB.out
      | true =>
        cases b4 with
        | false =>
          go_enter Tryz.func103, Tryz.ntmps103
          go_wp2_with fail
          refine (W1.out _).mono ?_
          rintro e w1 ⟨rfl, rfl⟩
          go_wp2_with fail
          refine (W2.out _).mono ?_
          rintro e w2 ⟨rfl, rfl⟩
          go_wp2_with fail
          refine (W3.out _).mono ?_
          rintro e w3 ⟨rfl, rfl⟩
          go_wp2_with fail
          refine (W4.out _).mono ?_
          rintro e w4 ⟨rfl, rfl⟩
          go_wp2
          go_ret
          exact retErr_no (by decide) (fun h => by have := (HO.out.1 h).1.2.2.2.1; cases this) HB.out
        | true =>
          cases b5 with
          | false =>
            go_enter Tryz.func103, Tryz.ntmps103
            go_wp2_with fail
            refine (W1.out _).mono ?_
            rintro e w1 ⟨rfl, rfl⟩
            go_wp2_with fail
            refine (W2.out _).mono ?_
            rintro e w2 ⟨rfl, rfl⟩
            go_wp2_with fail
            refine (W3.out _).mono ?_
            rintro e w3 ⟨rfl, rfl⟩
            go_wp2_with fail
            refine (W4.out _).mono ?_
            rintro e w4 ⟨rfl, rfl⟩
            go_wp2_with fail
            refine (W5.out _).mono ?_
            rintro e w5 ⟨rfl, rfl⟩
            go_wp2
            go_ret
            exact retErr_no (by decide) (fun h => by have := (HO.out.1 h).1.2.2.2.2; cases this) HB.out
          | true =>
            obtain ⟨r1, r2⟩ := HR.out rfl
            by_cases h1 : a1 = a2
            · have HN : Hid (a1 = a2) := h1
              have hb : (a1 == a2) = true := by simpa using h1
              clear h1
              go_enter Tryz.func103, Tryz.ntmps103
              go_wp2_with fail
              refine (W1.out _).mono ?_
              rintro e w1 ⟨rfl, rfl⟩
              go_wp2_with fail
              refine (W2.out _).mono ?_
              rintro e w2 ⟨rfl, rfl⟩
              go_wp2_with fail
              refine (W3.out _).mono ?_
              rintro e w3 ⟨rfl, rfl⟩
              go_wp2_with fail
              refine (W4.out _).mono ?_
              rintro e w4 ⟨rfl, rfl⟩
              go_wp2_with fail
              refine (W5.out _).mono ?_
              rintro e w5 ⟨rfl, rfl⟩
              go_wp2
              go_ret
              exact retErr_no (by decide) (fun h => (HO.out.1 h).2.1 HN.out) HB.out
            · have HN : Hid (¬ a1 = a2) := h1
              have hb : (a1 == a2) = false := by simpa using h1
              clear h1
              by_cases h2 : a3 < 0
              · go_enter Tryz.func103, Tryz.ntmps103
                go_wp2_with fail
                refine (W1.out _).mono ?_
                rintro e w1 ⟨rfl, rfl⟩
                go_wp2_with fail
                refine (W2.out _).mono ?_
                rintro e w2 ⟨rfl, rfl⟩
                go_wp2_with fail
                refine (W3.out _).mono ?_
                rintro e w3 ⟨rfl, rfl⟩
                go_wp2_with fail
                refine (W4.out _).mono ?_
                rintro e w4 ⟨rfl, rfl⟩
                go_wp2_with fail
                refine (W5.out _).mono ?_
                rintro e w5 ⟨rfl, rfl⟩
                go_wp2
                go_ret
                exact retErr_no (by decide) (fun h => by have := (HO.out.1 h).2.2.1; omega) HB.out
              · have d2 : decide (a3 < 0) = false := by simpa using h2
                by_cases h3 : a4 ≤ a3
                · have d3 : decide (a3 ≥ a4) = true := by simpa using h3
                  go_enter Tryz.func103, Tryz.ntmps103
                  go_wp2_with fail
                  refine (W1.out _).mono ?_
                  rintro e w1 ⟨rfl, rfl⟩
                  go_wp2_with fail
                  refine (W2.out _).mono ?_
                  rintro e w2 ⟨rfl, rfl⟩
                  go_wp2_with fail
                  refine (W3.out _).mono ?_
                  rintro e w3 ⟨rfl, rfl⟩
                  go_wp2_with fail
                  refine (W4.out _).mono ?_
                  rintro e w4 ⟨rfl, rfl⟩
                  go_wp2_with fail
                  refine (W5.out _).mono ?_
                  rintro e w5 ⟨rfl, rfl⟩
                  go_wp2
                  go_ret
                  exact retErr_no (by decide) (fun h => by have := (HO.out.1 h).2.2.2.1; omega) HB.out
                · have d3 : decide (a3 ≥ a4) = false := by simpa using h3
                  by_cases h4 : 1099511627776 - 2 * a6 < a4
                  · go_enter Tryz.func103, Tryz.ntmps103
                    go_wp2_with fail
                    refine (W1.out _).mono ?_
                    rintro e w1 ⟨rfl, rfl⟩
                    go_wp2_with fail
                    refine (W2.out _).mono ?_
                    rintro e w2 ⟨rfl, rfl⟩
                    go_wp2_with fail
                    refine (W3.out _).mono ?_
                    rintro e w3 ⟨rfl, rfl⟩
                    go_wp2_with fail
                    refine (W4.out _).mono ?_
                    rintro e w4 ⟨rfl, rfl⟩
                    go_wp2_with fail
                    refine (W5.out _).mono ?_
                    rintro e w5 ⟨rfl, rfl⟩
                    go_wp2
                    go_ret
                    exact retErr_no (by decide) (fun h => by have := (HO.out.1 h).2.2.2.2; omega) HB.out
                  · go_enter Tryz.func103, Tryz.ntmps103
                    go_wp2_with fail
                    refine (W1.out _).mono ?_
                    rintro e w1 ⟨rfl, rfl⟩
                    go_wp2_with fail
                    refine (W2.out _).mono ?_
                    rintro e w2 ⟨rfl, rfl⟩
                    go_wp2_with fail
                    refine (W3.out _).mono ?_
                    rintro e w3 ⟨rfl, rfl⟩
                    go_wp2_with fail
                    refine (W4.out _).mono ?_
                    rintro e w4 ⟨rfl, rfl⟩
                    go_wp2_with fail
                    refine (W5.out _).mono ?_
                    rintro e w5 ⟨rfl, rfl⟩
                    go_wp2
                    go_ret
                    exact retErr_yes (HO.out.2 ⟨⟨by trivial, by trivial, by trivial, by trivial, by trivial⟩, HN.out, by omega, by omega, by omega⟩) HB.out
theorem ticks_any (c : Ct) (n : Int) (w : World) (h1 : 1 ≤ c.rate) (h2 : c.rate ≤ 1000) (h3 : 1 ≤ n) (h4 : n ≤ 16) : Calls Tryz.prog 171 #[.agg #[.int .i64 c.src, .int .i64 c.dst, .int .i64 c.beg, .int .i64 c.fin, .int .i64 c.rate, .int .i64 c.rng, .int .i64 c.loss], .int .i64 n] w fun e w' => e = .returned (.int .i64 (ticks c n)) ∧ w' = w.alloc (.cells #[.int .i64 c.src, .int .i64 c.dst, .int .i64 c.beg, .int .i64 c.fin, .int .i64 c.rate, .int .i64 c.rng, .int .i64 c.loss] 104) := by
  have HT : Hid (ticks c n = (n + 8 + c.rate - 1) / c.rate) := rfl
  generalize ticks c n = t at HT
  obtain ⟨a1, a2, a3, a4, a5, a6, a7⟩ := c
  simp only at HT h1 h2 ⊢
  have h5 : (a5 == 0) = false := by rw [beq_eq_false_iff_ne]; omega
  go_enter Tryz.func171, Tryz.ntmps171
  go_wp2
  go_ret
  exact ⟨ret_i HT.out.symm, rfl⟩
end Go.Proofs.YtebkgbmijocdjaaGreat.Tp
