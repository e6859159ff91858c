/- Check of the reference, walked. Condition: a length below the model's greatest. -/
import Derived.Test.YtlknjdfiedkhbaaJoChk
namespace Go.Proofs.Ytlknjdfiedkhbaa
open Go Go.RowKit
open Jo (RId Itm Rec wi vId ckI ck zId zIt idA itA rcA)

set_option maxHeartbeats 4000000 in
set_option maxRecDepth 100000 in
theorem checkR_a (r : Rec) (w : World) (W1 : Hid (∀ w, Calls Try.prog 42 #[.int .i64 r.kind, .int .i64 1, .int .i64 4] w fun e w' => e = .returned (.bool false) ∧ w = w')) : Calls Try.prog 21 #[.agg (rcA r)] w fun e w' => e = .returned (.int .i64 8) ∧ Below w.heap.size w w' := by
  have B0 := Bk.new w 34 (rcA r)
  have HB0 : Hid (Below w.heap.size w (w.alloc (.cells (rcA r) 34))) := (Below.refl _ _).alloc (Nat.le_refl _) _
  have HK := Lib.hid B0
  clear B0
  have c0 := HK.out.at 0 (v := .int .i64 r.kind) rfl
  go_enter Try.func21, Try.ntmps21
  go_wp2_with fail
  refine (W1.out _).mono ?_
  rintro e w2 ⟨rfl, rfl⟩
  go_wp2
  go_ret
  exact ⟨rfl, HB0.out⟩
set_option maxHeartbeats 4000000 in
set_option maxRecDepth 100000 in
theorem checkR_b (r : Rec) (w : World) (W1 : Hid (∀ w, Calls Try.prog 42 #[.int .i64 r.kind, .int .i64 1, .int .i64 4] w fun e w' => e = .returned (.bool true) ∧ w = w')) (W2 : Hid (∀ w, Calls Try.prog 42 #[.int .i64 r.time, .int .i64 0, .int .i64 1099511627776] w fun e w' => e = .returned (.bool false) ∧ w = w')) : Calls Try.prog 21 #[.agg (rcA r)] w fun e w' => e = .returned (.int .i64 2) ∧ Below w.heap.size w w' := by
  have B0 := Bk.new w 34 (rcA r)
  have HB0 : Hid (Below w.heap.size w (w.alloc (.cells (rcA r) 34))) := (Below.refl _ _).alloc (Nat.le_refl _) _
  have HK := Lib.hid B0
  clear B0
  have c0 := HK.out.at 0 (v := .int .i64 r.kind) rfl
  have c18 := HK.out.at 18 (v := .int .i64 r.time) rfl
  go_enter Try.func21, Try.ntmps21
  go_wp2_with fail
  refine (W1.out _).mono ?_
  rintro e w2 ⟨rfl, rfl⟩
  go_wp2_with fail
  refine (W2.out _).mono ?_
  rintro e w2 ⟨rfl, rfl⟩
  go_wp2
  go_ret
  exact ⟨rfl, HB0.out⟩
set_option maxHeartbeats 4000000 in
set_option maxRecDepth 100000 in
theorem checkR_c (r : Rec) (w : World) (hk : r.kind = 1 ∨ r.kind = 3) (q : Int) (hq : (q != 0) = true) (W1 : Hid (∀ w, Calls Try.prog 42 #[.int .i64 r.kind, .int .i64 1, .int .i64 4] w fun e w' => e = .returned (.bool true) ∧ w = w')) (W2 : Hid (∀ w, Calls Try.prog 42 #[.int .i64 r.time, .int .i64 0, .int .i64 1099511627776] w fun e w' => e = .returned (.bool true) ∧ w = w')) (C1 : Hid (∀ w, Calls Try.prog 43 #[.agg (itA r.item)] w fun e w' => e = .returned (.int .i64 q) ∧ Below w.heap.size w w')) : Calls Try.prog 21 #[.agg (rcA r)] w fun e w' => e = .returned (.int .i64 q) ∧ Below w.heap.size w w' := by
  have B0 := Bk.new w 34 (rcA r)
  have HB0 : Hid (Below w.heap.size w (w.alloc (.cells (rcA r) 34))) := (Below.refl _ _).alloc (Nat.le_refl _) _
  have HK := Lib.hid B0
  clear B0
  rcases hk with hk | hk
  all_goals
    have c0 := HK.out.at 0 (v := .int .i64 r.kind) rfl
    have c18 := HK.out.at 18 (v := .int .i64 r.time) rfl
    have c1 := HK.out.at 1 (v := .int .i64 r.item.tick) rfl
    have c2 := HK.out.at 2 (v := .int .i64 r.item.id.src) rfl
    have c3 := HK.out.at 3 (v := .int .i64 r.item.id.cre) rfl
    have c4 := HK.out.at 4 (v := .int .i64 r.item.id.seq) rfl
    have c5 := HK.out.at 5 (v := .int .i64 r.item.id.off) rfl
    have c6 := HK.out.at 6 (v := .int .i64 r.item.id.tot) rfl
    have c7 := HK.out.at 7 (v := .int .i64 r.item.dest) rfl
    have c8 := HK.out.at 8 (v := .int .i64 r.item.exp) rfl
    have c9 := HK.out.at 9 (v := .int .i64 r.item.prio) rfl
    have c10 := HK.out.at 10 (v := .bool r.item.cust) rfl
    have c11 := HK.out.at 11 (v := .string r.item.data) rfl
    rw [hk] at c0 W1
    clear hk
    go_enter Try.func21, Try.ntmps21
    go_wp2_with fail
    refine (W1.out _).mono ?_
    rintro e w2 ⟨rfl, rfl⟩
    go_wp2_with fail
    refine (W2.out _).mono ?_
    rintro e w2 ⟨rfl, rfl⟩
    go_wp2_with fail
    refine (C1.out _).mono ?_
    rintro e w1 ⟨rfl, hb1⟩
    clear c0 c18 c1 c2 c3 c4 c5 c6 c7 c8 c9 c10 c11
    replace HK := Lib.hid (HK.out.below hb1 HK.out.lt)
    replace HB0 := Lib.hid (HB0.out.trans (hb1.mono HB0.out.size))
    clear hb1
    go_wp2
    go_ret
    exact ⟨rfl, HB0.out⟩
set_option maxHeartbeats 4000000 in
set_option maxRecDepth 100000 in
theorem checkR_d (r : Rec) (w : World) (hk : r.kind = 1 ∨ r.kind = 3) (HZ : Hid (r.id.src = 0 ∧ r.id.cre = 0 ∧ r.id.seq = 0 ∧ r.id.off = 0 ∧ r.id.tot = 0)) (ht : r.tick = 0) (W1 : Hid (∀ w, Calls Try.prog 42 #[.int .i64 r.kind, .int .i64 1, .int .i64 4] w fun e w' => e = .returned (.bool true) ∧ w = w')) (W2 : Hid (∀ w, Calls Try.prog 42 #[.int .i64 r.time, .int .i64 0, .int .i64 1099511627776] w fun e w' => e = .returned (.bool true) ∧ w = w')) (C1 : Hid (∀ w, Calls Try.prog 43 #[.agg (itA r.item)] w fun e w' => e = .returned (.int .i64 0) ∧ Below w.heap.size w w')) : Calls Try.prog 21 #[.agg (rcA r)] w fun e w' => e = .returned (.int .i64 0) ∧ Below w.heap.size w w' := by
  have B0 := Bk.new w 34 (rcA r)
  have HB0 : Hid (Below w.heap.size w (w.alloc (.cells (rcA r) 34))) := (Below.refl _ _).alloc (Nat.le_refl _) _
  have HK := Lib.hid B0
  clear B0
  rcases hk with hk | hk
  all_goals
    have c0 := HK.out.at 0 (v := .int .i64 r.kind) rfl
    have c18 := HK.out.at 18 (v := .int .i64 r.time) rfl
    have c1 := HK.out.at 1 (v := .int .i64 r.item.tick) rfl
    have c2 := HK.out.at 2 (v := .int .i64 r.item.id.src) rfl
    have c3 := HK.out.at 3 (v := .int .i64 r.item.id.cre) rfl
    have c4 := HK.out.at 4 (v := .int .i64 r.item.id.seq) rfl
    have c5 := HK.out.at 5 (v := .int .i64 r.item.id.off) rfl
    have c6 := HK.out.at 6 (v := .int .i64 r.item.id.tot) rfl
    have c7 := HK.out.at 7 (v := .int .i64 r.item.dest) rfl
    have c8 := HK.out.at 8 (v := .int .i64 r.item.exp) rfl
    have c9 := HK.out.at 9 (v := .int .i64 r.item.prio) rfl
    have c10 := HK.out.at 10 (v := .bool r.item.cust) rfl
    have c11 := HK.out.at 11 (v := .string r.item.data) rfl
    rw [hk] at c0 W1
    clear hk
    go_enter Try.func21, Try.ntmps21
    go_wp2_with fail
    refine (W1.out _).mono ?_
    rintro e w2 ⟨rfl, rfl⟩
    go_wp2_with fail
    refine (W2.out _).mono ?_
    rintro e w2 ⟨rfl, rfl⟩
    go_wp2_with fail
    refine (C1.out _).mono ?_
    rintro e w1 ⟨rfl, hb1⟩
    clear c0 c18 c1 c2 c3 c4 c5 c6 c7 c8 c9 c10 c11
    replace HK := Lib.hid (HK.out.below hb1 HK.out.lt)
    replace HB0 := Lib.hid (HB0.out.trans (hb1.mono HB0.out.size))
    clear hb1
    have c12 := HK.out.at 12 (v := .int .i64 r.id.src) rfl
    have c13 := HK.out.at 13 (v := .int .i64 r.id.cre) rfl
    have c14 := HK.out.at 14 (v := .int .i64 r.id.seq) rfl
    have c15 := HK.out.at 15 (v := .int .i64 r.id.off) rfl
    have c16 := HK.out.at 16 (v := .int .i64 r.id.tot) rfl
    have c17 := HK.out.at 17 (v := .int .i64 r.tick) rfl
    have hz := HZ.out
    rw [hz.1] at c12
    rw [hz.2.1] at c13
    rw [hz.2.2.1] at c14
    rw [hz.2.2.2.1] at c15
    rw [hz.2.2.2.2] at c16
    clear hz
    go_wp2
    go_ret
    exact ⟨rfl, HB0.out⟩
set_option maxHeartbeats 4000000 in
set_option maxRecDepth 100000 in
theorem checkR_e (r : Rec) (w : World) (hk : r.kind = 1 ∨ r.kind = 3) (HZ : Hid (r.id.src = 0 ∧ r.id.cre = 0 ∧ r.id.seq = 0 ∧ r.id.off = 0 ∧ r.id.tot = 0)) (ht : (r.tick != 0) = true) (W1 : Hid (∀ w, Calls Try.prog 42 #[.int .i64 r.kind, .int .i64 1, .int .i64 4] w fun e w' => e = .returned (.bool true) ∧ w = w')) (W2 : Hid (∀ w, Calls Try.prog 42 #[.int .i64 r.time, .int .i64 0, .int .i64 1099511627776] w fun e w' => e = .returned (.bool true) ∧ w = w')) (C1 : Hid (∀ w, Calls Try.prog 43 #[.agg (itA r.item)] w fun e w' => e = .returned (.int .i64 0) ∧ Below w.heap.size w w')) : Calls Try.prog 21 #[.agg (rcA r)] w fun e w' => e = .returned (.int .i64 1) ∧ Below w.heap.size w w' := by
  have B0 := Bk.new w 34 (rcA r)
  have HB0 : Hid (Below w.heap.size w (w.alloc (.cells (rcA r) 34))) := (Below.refl _ _).alloc (Nat.le_refl _) _
  have HK := Lib.hid B0
  clear B0
  rcases hk with hk | hk
  all_goals
    have c0 := HK.out.at 0 (v := .int .i64 r.kind) rfl
    have c18 := HK.out.at 18 (v := .int .i64 r.time) rfl
    have c1 := HK.out.at 1 (v := .int .i64 r.item.tick) rfl
    have c2 := HK.out.at 2 (v := .int .i64 r.item.id.src) rfl
    have c3 := HK.out.at 3 (v := .int .i64 r.item.id.cre) rfl
    have c4 := HK.out.at 4 (v := .int .i64 r.item.id.seq) rfl
    have c5 := HK.out.at 5 (v := .int .i64 r.item.id.off) rfl
    have c6 := HK.out.at 6 (v := .int .i64 r.item.id.tot) rfl
    have c7 := HK.out.at 7 (v := .int .i64 r.item.dest) rfl
    have c8 := HK.out.at 8 (v := .int .i64 r.item.exp) rfl
    have c9 := HK.out.at 9 (v := .int .i64 r.item.prio) rfl
    have c10 := HK.out.at 10 (v := .bool r.item.cust) rfl
    have c11 := HK.out.at 11 (v := .string r.item.data) rfl
    rw [hk] at c0 W1
    clear hk
    go_enter Try.func21, Try.ntmps21
    go_wp2_with fail
    refine (W1.out _).mono ?_
    rintro e w2 ⟨rfl, rfl⟩
    go_wp2_with fail
    refine (W2.out _).mono ?_
    rintro e w2 ⟨rfl, rfl⟩
    go_wp2_with fail
    refine (C1.out _).mono ?_
    rintro e w1 ⟨rfl, hb1⟩
    clear c0 c18 c1 c2 c3 c4 c5 c6 c7 c8 c9 c10 c11
    replace HK := Lib.hid (HK.out.below hb1 HK.out.lt)
    replace HB0 := Lib.hid (HB0.out.trans (hb1.mono HB0.out.size))
    clear hb1
    have c12 := HK.out.at 12 (v := .int .i64 r.id.src) rfl
    have c13 := HK.out.at 13 (v := .int .i64 r.id.cre) rfl
    have c14 := HK.out.at 14 (v := .int .i64 r.id.seq) rfl
    have c15 := HK.out.at 15 (v := .int .i64 r.id.off) rfl
    have c16 := HK.out.at 16 (v := .int .i64 r.id.tot) rfl
    have c17 := HK.out.at 17 (v := .int .i64 r.tick) rfl
    have hz := HZ.out
    rw [hz.1] at c12
    rw [hz.2.1] at c13
    rw [hz.2.2.1] at c14
    rw [hz.2.2.2.1] at c15
    rw [hz.2.2.2.2] at c16
    clear hz
    go_wp2
    go_ret
    exact ⟨rfl, HB0.out⟩
set_option maxHeartbeats 4000000 in
set_option maxRecDepth 100000 in
theorem checkR_f (r : Rec) (w : World) (hk : r.kind = 1 ∨ r.kind = 3) (HN : Hid (¬ (r.id.src = 0 ∧ r.id.cre = 0 ∧ r.id.seq = 0 ∧ r.id.off = 0 ∧ r.id.tot = 0))) (W1 : Hid (∀ w, Calls Try.prog 42 #[.int .i64 r.kind, .int .i64 1, .int .i64 4] w fun e w' => e = .returned (.bool true) ∧ w = w')) (W2 : Hid (∀ w, Calls Try.prog 42 #[.int .i64 r.time, .int .i64 0, .int .i64 1099511627776] w fun e w' => e = .returned (.bool true) ∧ w = w')) (C1 : Hid (∀ w, Calls Try.prog 43 #[.agg (itA r.item)] w fun e w' => e = .returned (.int .i64 0) ∧ Below w.heap.size w w')) : Calls Try.prog 21 #[.agg (rcA r)] w fun e w' => e = .returned (.int .i64 1) ∧ Below w.heap.size w w' := by
  have B0 := Bk.new w 34 (rcA r)
  have HB0 : Hid (Below w.heap.size w (w.alloc (.cells (rcA r) 34))) := (Below.refl _ _).alloc (Nat.le_refl _) _
  have HK := Lib.hid B0
  clear B0
  rcases hk with hk | hk
  all_goals
    have c0 := HK.out.at 0 (v := .int .i64 r.kind) rfl
    have c18 := HK.out.at 18 (v := .int .i64 r.time) rfl
    have c1 := HK.out.at 1 (v := .int .i64 r.item.tick) rfl
    have c2 := HK.out.at 2 (v := .int .i64 r.item.id.src) rfl
    have c3 := HK.out.at 3 (v := .int .i64 r.item.id.cre) rfl
    have c4 := HK.out.at 4 (v := .int .i64 r.item.id.seq) rfl
    have c5 := HK.out.at 5 (v := .int .i64 r.item.id.off) rfl
    have c6 := HK.out.at 6 (v := .int .i64 r.item.id.tot) rfl
    have c7 := HK.out.at 7 (v := .int .i64 r.item.dest) rfl
    have c8 := HK.out.at 8 (v := .int .i64 r.item.exp) rfl
    have c9 := HK.out.at 9 (v := .int .i64 r.item.prio) rfl
    have c10 := HK.out.at 10 (v := .bool r.item.cust) rfl
    have c11 := HK.out.at 11 (v := .string r.item.data) rfl
    rw [hk] at c0 W1
    clear hk
    go_enter Try.func21, Try.ntmps21
    go_wp2_with fail
    refine (W1.out _).mono ?_
    rintro e w2 ⟨rfl, rfl⟩
    go_wp2_with fail
    refine (W2.out _).mono ?_
    rintro e w2 ⟨rfl, rfl⟩
    go_wp2_with fail
    refine (C1.out _).mono ?_
    rintro e w1 ⟨rfl, hb1⟩
    clear c0 c18 c1 c2 c3 c4 c5 c6 c7 c8 c9 c10 c11
    replace HK := Lib.hid (HK.out.below hb1 HK.out.lt)
    replace HB0 := Lib.hid (HB0.out.trans (hb1.mono HB0.out.size))
    clear hb1
    have c12 := HK.out.at 12 (v := .int .i64 r.id.src) rfl
    have c13 := HK.out.at 13 (v := .int .i64 r.id.cre) rfl
    have c14 := HK.out.at 14 (v := .int .i64 r.id.seq) rfl
    have c15 := HK.out.at 15 (v := .int .i64 r.id.off) rfl
    have c16 := HK.out.at 16 (v := .int .i64 r.id.tot) rfl
    have c17 := HK.out.at 17 (v := .int .i64 r.tick) rfl
    go_wp2
    all_goals first | (go_ret; exact ⟨rfl, HB0.out⟩) | exact (HN.out ⟨by assumption, by assumption, by assumption, by assumption, by assumption⟩).elim
set_option maxHeartbeats 4000000 in
set_option maxRecDepth 100000 in
theorem checkR_g2 (r : Rec) (w : World) (hk : r.kind = 2) (W1 : Hid (∀ w, Calls Try.prog 42 #[.int .i64 r.kind, .int .i64 1, .int .i64 4] w fun e w' => e = .returned (.bool true) ∧ w = w')) (W2 : Hid (∀ w, Calls Try.prog 42 #[.int .i64 r.time, .int .i64 0, .int .i64 1099511627776] w fun e w' => e = .returned (.bool true) ∧ w = w')) (V1 : Hid (∀ w, Calls Try.prog 44 #[.agg (idA r.id)] w fun e w' => e = .returned (.bool false) ∧ Below w.heap.size w w')) : Calls Try.prog 21 #[.agg (rcA r)] w fun e w' => e = .returned (.int .i64 2) ∧ Below w.heap.size w w' := by
  have B0 := Bk.new w 34 (rcA r)
  have HB0 : Hid (Below w.heap.size w (w.alloc (.cells (rcA r) 34))) := (Below.refl _ _).alloc (Nat.le_refl _) _
  have HK := Lib.hid B0
  clear B0
  have c0 := HK.out.at 0 (v := .int .i64 r.kind) rfl
  have c18 := HK.out.at 18 (v := .int .i64 r.time) rfl
  have c12 := HK.out.at 12 (v := .int .i64 r.id.src) rfl
  have c13 := HK.out.at 13 (v := .int .i64 r.id.cre) rfl
  have c14 := HK.out.at 14 (v := .int .i64 r.id.seq) rfl
  have c15 := HK.out.at 15 (v := .int .i64 r.id.off) rfl
  have c16 := HK.out.at 16 (v := .int .i64 r.id.tot) rfl
  rw [hk] at c0 W1
  go_enter Try.func21, Try.ntmps21
  go_wp2_with fail
  refine (W1.out _).mono ?_
  rintro e w2 ⟨rfl, rfl⟩
  go_wp2_with fail
  refine (W2.out _).mono ?_
  rintro e w2 ⟨rfl, rfl⟩
  go_wp2_with fail
  refine (V1.out _).mono ?_
  rintro e w1 ⟨rfl, hb1⟩
  clear c0 c18 c12 c13 c14 c15 c16
  replace HK := Lib.hid (HK.out.below hb1 HK.out.lt)
  replace HB0 := Lib.hid (HB0.out.trans (hb1.mono HB0.out.size))
  clear hb1
  have c0 := HK.out.at 0 (v := .int .i64 r.kind) rfl
  rw [hk] at c0
  clear hk
  go_wp2
  go_ret
  exact ⟨rfl, HB0.out⟩
set_option maxHeartbeats 4000000 in
set_option maxRecDepth 100000 in
theorem checkR_g4 (r : Rec) (w : World) (hk : r.kind = 4) (W1 : Hid (∀ w, Calls Try.prog 42 #[.int .i64 r.kind, .int .i64 1, .int .i64 4] w fun e w' => e = .returned (.bool true) ∧ w = w')) (W2 : Hid (∀ w, Calls Try.prog 42 #[.int .i64 r.time, .int .i64 0, .int .i64 1099511627776] w fun e w' => e = .returned (.bool true) ∧ w = w')) (V1 : Hid (∀ w, Calls Try.prog 44 #[.agg (idA r.id)] w fun e w' => e = .returned (.bool false) ∧ Below w.heap.size w w')) : Calls Try.prog 21 #[.agg (rcA r)] w fun e w' => e = .returned (.int .i64 2) ∧ Below w.heap.size w w' := by
  have B0 := Bk.new w 34 (rcA r)
  have HB0 : Hid (Below w.heap.size w (w.alloc (.cells (rcA r) 34))) := (Below.refl _ _).alloc (Nat.le_refl _) _
  have HK := Lib.hid B0
  clear B0
  have c0 := HK.out.at 0 (v := .int .i64 r.kind) rfl
  have c18 := HK.out.at 18 (v := .int .i64 r.time) rfl
  have c12 := HK.out.at 12 (v := .int .i64 r.id.src) rfl
  have c13 := HK.out.at 13 (v := .int .i64 r.id.cre) rfl
  have c14 := HK.out.at 14 (v := .int .i64 r.id.seq) rfl
  have c15 := HK.out.at 15 (v := .int .i64 r.id.off) rfl
  have c16 := HK.out.at 16 (v := .int .i64 r.id.tot) rfl
  rw [hk] at c0 W1
  go_enter Try.func21, Try.ntmps21
  go_wp2_with fail
  refine (W1.out _).mono ?_
  rintro e w2 ⟨rfl, rfl⟩
  go_wp2_with fail
  refine (W2.out _).mono ?_
  rintro e w2 ⟨rfl, rfl⟩
  go_wp2_with fail
  refine (V1.out _).mono ?_
  rintro e w1 ⟨rfl, hb1⟩
  clear c0 c18 c12 c13 c14 c15 c16
  replace HK := Lib.hid (HK.out.below hb1 HK.out.lt)
  replace HB0 := Lib.hid (HB0.out.trans (hb1.mono HB0.out.size))
  clear hb1
  have c0 := HK.out.at 0 (v := .int .i64 r.kind) rfl
  rw [hk] at c0
  clear hk
  go_wp2
  go_ret
  exact ⟨rfl, HB0.out⟩
set_option maxHeartbeats 4000000 in
set_option maxRecDepth 100000 in
theorem checkR_h (r : Rec) (w : World) (hk : r.kind = 4) (W1 : Hid (∀ w, Calls Try.prog 42 #[.int .i64 r.kind, .int .i64 1, .int .i64 4] w fun e w' => e = .returned (.bool true) ∧ w = w')) (W2 : Hid (∀ w, Calls Try.prog 42 #[.int .i64 r.time, .int .i64 0, .int .i64 1099511627776] w fun e w' => e = .returned (.bool true) ∧ w = w')) (W3 : Hid (∀ w, Calls Try.prog 42 #[.int .i64 r.tick, .int .i64 0, .int .i64 1152921504606846976] w fun e w' => e = .returned (.bool false) ∧ w = w')) (V1 : Hid (∀ w, Calls Try.prog 44 #[.agg (idA r.id)] w fun e w' => e = .returned (.bool true) ∧ Below w.heap.size w w')) : Calls Try.prog 21 #[.agg (rcA r)] w fun e w' => e = .returned (.int .i64 2) ∧ Below w.heap.size w w' := by
  have B0 := Bk.new w 34 (rcA r)
  have HB0 : Hid (Below w.heap.size w (w.alloc (.cells (rcA r) 34))) := (Below.refl _ _).alloc (Nat.le_refl _) _
  have HK := Lib.hid B0
  clear B0
  have c0 := HK.out.at 0 (v := .int .i64 r.kind) rfl
  have c18 := HK.out.at 18 (v := .int .i64 r.time) rfl
  have c12 := HK.out.at 12 (v := .int .i64 r.id.src) rfl
  have c13 := HK.out.at 13 (v := .int .i64 r.id.cre) rfl
  have c14 := HK.out.at 14 (v := .int .i64 r.id.seq) rfl
  have c15 := HK.out.at 15 (v := .int .i64 r.id.off) rfl
  have c16 := HK.out.at 16 (v := .int .i64 r.id.tot) rfl
  rw [hk] at c0 W1
  go_enter Try.func21, Try.ntmps21
  go_wp2_with fail
  refine (W1.out _).mono ?_
  rintro e w2 ⟨rfl, rfl⟩
  go_wp2_with fail
  refine (W2.out _).mono ?_
  rintro e w2 ⟨rfl, rfl⟩
  go_wp2_with fail
  refine (V1.out _).mono ?_
  rintro e w1 ⟨rfl, hb1⟩
  clear c0 c18 c12 c13 c14 c15 c16
  replace HK := Lib.hid (HK.out.below hb1 HK.out.lt)
  replace HB0 := Lib.hid (HB0.out.trans (hb1.mono HB0.out.size))
  clear hb1
  have c0 := HK.out.at 0 (v := .int .i64 r.kind) rfl
  have c17 := HK.out.at 17 (v := .int .i64 r.tick) rfl
  rw [hk] at c0
  clear hk
  go_wp2_with fail
  refine (W3.out _).mono ?_
  rintro e w2 ⟨rfl, rfl⟩
  go_wp2
  go_ret
  exact ⟨rfl, HB0.out⟩
set_option maxHeartbeats 4000000 in
set_option maxRecDepth 100000 in
theorem checkR_i4 (r : Rec) (w : World) (hk : r.kind = 4) (HZ : Hid (r.item = zIt)) (W1 : Hid (∀ w, Calls Try.prog 42 #[.int .i64 r.kind, .int .i64 1, .int .i64 4] w fun e w' => e = .returned (.bool true) ∧ w = w')) (W2 : Hid (∀ w, Calls Try.prog 42 #[.int .i64 r.time, .int .i64 0, .int .i64 1099511627776] w fun e w' => e = .returned (.bool true) ∧ w = w')) (W3 : Hid (∀ w, Calls Try.prog 42 #[.int .i64 r.tick, .int .i64 0, .int .i64 1152921504606846976] w fun e w' => e = .returned (.bool true) ∧ w = w')) (V1 : Hid (∀ w, Calls Try.prog 44 #[.agg (idA r.id)] w fun e w' => e = .returned (.bool true) ∧ Below w.heap.size w w')) : Calls Try.prog 21 #[.agg (rcA r)] w fun e w' => e = .returned (.int .i64 0) ∧ Below w.heap.size w w' := by
  have B0 := Bk.new w 34 (rcA r)
  have HB0 : Hid (Below w.heap.size w (w.alloc (.cells (rcA r) 34))) := (Below.refl _ _).alloc (Nat.le_refl _) _
  have HK := Lib.hid B0
  clear B0
  have c0 := HK.out.at 0 (v := .int .i64 r.kind) rfl
  have c18 := HK.out.at 18 (v := .int .i64 r.time) rfl
  have c12 := HK.out.at 12 (v := .int .i64 r.id.src) rfl
  have c13 := HK.out.at 13 (v := .int .i64 r.id.cre) rfl
  have c14 := HK.out.at 14 (v := .int .i64 r.id.seq) rfl
  have c15 := HK.out.at 15 (v := .int .i64 r.id.off) rfl
  have c16 := HK.out.at 16 (v := .int .i64 r.id.tot) rfl
  rw [hk] at c0 W1
  go_enter Try.func21, Try.ntmps21
  go_wp2_with fail
  refine (W1.out _).mono ?_
  rintro e w2 ⟨rfl, rfl⟩
  go_wp2_with fail
  refine (W2.out _).mono ?_
  rintro e w2 ⟨rfl, rfl⟩
  go_wp2_with fail
  refine (V1.out _).mono ?_
  rintro e w1 ⟨rfl, hb1⟩
  clear c0 c18 c12 c13 c14 c15 c16
  replace HK := Lib.hid (HK.out.below hb1 HK.out.lt)
  replace HB0 := Lib.hid (HB0.out.trans (hb1.mono HB0.out.size))
  clear hb1
  have c0 := HK.out.at 0 (v := .int .i64 r.kind) rfl
  have c17 := HK.out.at 17 (v := .int .i64 r.tick) rfl
  have c1 := HK.out.at 1 (v := .int .i64 r.item.tick) rfl
  have c2 := HK.out.at 2 (v := .int .i64 r.item.id.src) rfl
  have c3 := HK.out.at 3 (v := .int .i64 r.item.id.cre) rfl
  have c4 := HK.out.at 4 (v := .int .i64 r.item.id.seq) rfl
  have c5 := HK.out.at 5 (v := .int .i64 r.item.id.off) rfl
  have c6 := HK.out.at 6 (v := .int .i64 r.item.id.tot) rfl
  have c7 := HK.out.at 7 (v := .int .i64 r.item.dest) rfl
  have c8 := HK.out.at 8 (v := .int .i64 r.item.exp) rfl
  have c9 := HK.out.at 9 (v := .int .i64 r.item.prio) rfl
  have c10 := HK.out.at 10 (v := .bool r.item.cust) rfl
  have c11 := HK.out.at 11 (v := .string r.item.data) rfl
  rw [hk] at c0
  clear hk
  go_wp2_with fail
  refine (W3.out _).mono ?_
  rintro e w2 ⟨rfl, rfl⟩
  have hz := HZ.out
  rw [hz] at c1
  rw [hz] at c2
  rw [hz] at c3
  rw [hz] at c4
  rw [hz] at c5
  rw [hz] at c6
  rw [hz] at c7
  rw [hz] at c8
  rw [hz] at c9
  rw [hz] at c10
  rw [hz] at c11
  clear hz
  simp only [zIt, zId] at c1 c2 c3 c4 c5 c6 c7 c8 c9 c10 c11
  go_wp2
  go_ret
  exact ⟨rfl, HB0.out⟩
set_option maxHeartbeats 4000000 in
set_option maxRecDepth 100000 in
theorem checkR_i2 (r : Rec) (w : World) (hk : r.kind = 2) (ht : r.tick = 0) (HZ : Hid (r.item = zIt)) (W1 : Hid (∀ w, Calls Try.prog 42 #[.int .i64 r.kind, .int .i64 1, .int .i64 4] w fun e w' => e = .returned (.bool true) ∧ w = w')) (W2 : Hid (∀ w, Calls Try.prog 42 #[.int .i64 r.time, .int .i64 0, .int .i64 1099511627776] w fun e w' => e = .returned (.bool true) ∧ w = w')) (V1 : Hid (∀ w, Calls Try.prog 44 #[.agg (idA r.id)] w fun e w' => e = .returned (.bool true) ∧ Below w.heap.size w w')) : Calls Try.prog 21 #[.agg (rcA r)] w fun e w' => e = .returned (.int .i64 0) ∧ Below w.heap.size w w' := by
  have B0 := Bk.new w 34 (rcA r)
  have HB0 : Hid (Below w.heap.size w (w.alloc (.cells (rcA r) 34))) := (Below.refl _ _).alloc (Nat.le_refl _) _
  have HK := Lib.hid B0
  clear B0
  have c0 := HK.out.at 0 (v := .int .i64 r.kind) rfl
  have c18 := HK.out.at 18 (v := .int .i64 r.time) rfl
  have c12 := HK.out.at 12 (v := .int .i64 r.id.src) rfl
  have c13 := HK.out.at 13 (v := .int .i64 r.id.cre) rfl
  have c14 := HK.out.at 14 (v := .int .i64 r.id.seq) rfl
  have c15 := HK.out.at 15 (v := .int .i64 r.id.off) rfl
  have c16 := HK.out.at 16 (v := .int .i64 r.id.tot) rfl
  rw [hk] at c0 W1
  go_enter Try.func21, Try.ntmps21
  go_wp2_with fail
  refine (W1.out _).mono ?_
  rintro e w2 ⟨rfl, rfl⟩
  go_wp2_with fail
  refine (W2.out _).mono ?_
  rintro e w2 ⟨rfl, rfl⟩
  go_wp2_with fail
  refine (V1.out _).mono ?_
  rintro e w1 ⟨rfl, hb1⟩
  clear c0 c18 c12 c13 c14 c15 c16
  replace HK := Lib.hid (HK.out.below hb1 HK.out.lt)
  replace HB0 := Lib.hid (HB0.out.trans (hb1.mono HB0.out.size))
  clear hb1
  have c0 := HK.out.at 0 (v := .int .i64 r.kind) rfl
  have c17 := HK.out.at 17 (v := .int .i64 r.tick) rfl
  have c1 := HK.out.at 1 (v := .int .i64 r.item.tick) rfl
  have c2 := HK.out.at 2 (v := .int .i64 r.item.id.src) rfl
  have c3 := HK.out.at 3 (v := .int .i64 r.item.id.cre) rfl
  have c4 := HK.out.at 4 (v := .int .i64 r.item.id.seq) rfl
  have c5 := HK.out.at 5 (v := .int .i64 r.item.id.off) rfl
  have c6 := HK.out.at 6 (v := .int .i64 r.item.id.tot) rfl
  have c7 := HK.out.at 7 (v := .int .i64 r.item.dest) rfl
  have c8 := HK.out.at 8 (v := .int .i64 r.item.exp) rfl
  have c9 := HK.out.at 9 (v := .int .i64 r.item.prio) rfl
  have c10 := HK.out.at 10 (v := .bool r.item.cust) rfl
  have c11 := HK.out.at 11 (v := .string r.item.data) rfl
  rw [hk] at c0
  clear hk
  have hz := HZ.out
  rw [hz] at c1
  rw [hz] at c2
  rw [hz] at c3
  rw [hz] at c4
  rw [hz] at c5
  rw [hz] at c6
  rw [hz] at c7
  rw [hz] at c8
  rw [hz] at c9
  rw [hz] at c10
  rw [hz] at c11
  clear hz
  simp only [zIt, zId] at c1 c2 c3 c4 c5 c6 c7 c8 c9 c10 c11
  go_wp2
  go_ret
  exact ⟨rfl, HB0.out⟩
set_option maxHeartbeats 4000000 in
set_option maxRecDepth 100000 in
theorem checkR_j2 (r : Rec) (w : World) (hk : r.kind = 2) (ht : (r.tick != 0) = true) (HZ : Hid (r.item = zIt)) (W1 : Hid (∀ w, Calls Try.prog 42 #[.int .i64 r.kind, .int .i64 1, .int .i64 4] w fun e w' => e = .returned (.bool true) ∧ w = w')) (W2 : Hid (∀ w, Calls Try.prog 42 #[.int .i64 r.time, .int .i64 0, .int .i64 1099511627776] w fun e w' => e = .returned (.bool true) ∧ w = w')) (V1 : Hid (∀ w, Calls Try.prog 44 #[.agg (idA r.id)] w fun e w' => e = .returned (.bool true) ∧ Below w.heap.size w w')) : Calls Try.prog 21 #[.agg (rcA r)] w fun e w' => e = .returned (.int .i64 1) ∧ Below w.heap.size w w' := by
  have B0 := Bk.new w 34 (rcA r)
  have HB0 : Hid (Below w.heap.size w (w.alloc (.cells (rcA r) 34))) := (Below.refl _ _).alloc (Nat.le_refl _) _
  have HK := Lib.hid B0
  clear B0
  have c0 := HK.out.at 0 (v := .int .i64 r.kind) rfl
  have c18 := HK.out.at 18 (v := .int .i64 r.time) rfl
  have c12 := HK.out.at 12 (v := .int .i64 r.id.src) rfl
  have c13 := HK.out.at 13 (v := .int .i64 r.id.cre) rfl
  have c14 := HK.out.at 14 (v := .int .i64 r.id.seq) rfl
  have c15 := HK.out.at 15 (v := .int .i64 r.id.off) rfl
  have c16 := HK.out.at 16 (v := .int .i64 r.id.tot) rfl
  rw [hk] at c0 W1
  go_enter Try.func21, Try.ntmps21
  go_wp2_with fail
  refine (W1.out _).mono ?_
  rintro e w2 ⟨rfl, rfl⟩
  go_wp2_with fail
  refine (W2.out _).mono ?_
  rintro e w2 ⟨rfl, rfl⟩
  go_wp2_with fail
  refine (V1.out _).mono ?_
  rintro e w1 ⟨rfl, hb1⟩
  clear c0 c18 c12 c13 c14 c15 c16
  replace HK := Lib.hid (HK.out.below hb1 HK.out.lt)
  replace HB0 := Lib.hid (HB0.out.trans (hb1.mono HB0.out.size))
  clear hb1
  have c0 := HK.out.at 0 (v := .int .i64 r.kind) rfl
  have c17 := HK.out.at 17 (v := .int .i64 r.tick) rfl
  have c1 := HK.out.at 1 (v := .int .i64 r.item.tick) rfl
  have c2 := HK.out.at 2 (v := .int .i64 r.item.id.src) rfl
  have c3 := HK.out.at 3 (v := .int .i64 r.item.id.cre) rfl
  have c4 := HK.out.at 4 (v := .int .i64 r.item.id.seq) rfl
  have c5 := HK.out.at 5 (v := .int .i64 r.item.id.off) rfl
  have c6 := HK.out.at 6 (v := .int .i64 r.item.id.tot) rfl
  have c7 := HK.out.at 7 (v := .int .i64 r.item.dest) rfl
  have c8 := HK.out.at 8 (v := .int .i64 r.item.exp) rfl
  have c9 := HK.out.at 9 (v := .int .i64 r.item.prio) rfl
  have c10 := HK.out.at 10 (v := .bool r.item.cust) rfl
  have c11 := HK.out.at 11 (v := .string r.item.data) rfl
  rw [hk] at c0
  clear hk
  have hz := HZ.out
  rw [hz] at c1
  rw [hz] at c2
  rw [hz] at c3
  rw [hz] at c4
  rw [hz] at c5
  rw [hz] at c6
  rw [hz] at c7
  rw [hz] at c8
  rw [hz] at c9
  rw [hz] at c10
  rw [hz] at c11
  clear hz
  simp only [zIt, zId] at c1 c2 c3 c4 c5 c6 c7 c8 c9 c10 c11
  go_wp2
  go_ret
  exact ⟨rfl, HB0.out⟩
set_option maxHeartbeats 4000000 in
set_option maxRecDepth 100000 in
theorem checkR_k4 (r : Rec) (w : World) (hk : r.kind = 4) (HN : Hid (¬ (r.item.tick = 0 ∧ r.item.id.src = 0 ∧ r.item.id.cre = 0 ∧ r.item.id.seq = 0 ∧ r.item.id.off = 0 ∧ r.item.id.tot = 0 ∧ r.item.dest = 0 ∧ r.item.exp = 0 ∧ r.item.prio = 0 ∧ r.item.cust = false ∧ r.item.data = ⟨#[]⟩))) (W1 : Hid (∀ w, Calls Try.prog 42 #[.int .i64 r.kind, .int .i64 1, .int .i64 4] w fun e w' => e = .returned (.bool true) ∧ w = w')) (W2 : Hid (∀ w, Calls Try.prog 42 #[.int .i64 r.time, .int .i64 0, .int .i64 1099511627776] w fun e w' => e = .returned (.bool true) ∧ w = w')) (W3 : Hid (∀ w, Calls Try.prog 42 #[.int .i64 r.tick, .int .i64 0, .int .i64 1152921504606846976] w fun e w' => e = .returned (.bool true) ∧ w = w')) (V1 : Hid (∀ w, Calls Try.prog 44 #[.agg (idA r.id)] w fun e w' => e = .returned (.bool true) ∧ Below w.heap.size w w')) : Calls Try.prog 21 #[.agg (rcA r)] w fun e w' => e = .returned (.int .i64 1) ∧ Below w.heap.size w w' := by
  have B0 := Bk.new w 34 (rcA r)
  have HB0 : Hid (Below w.heap.size w (w.alloc (.cells (rcA r) 34))) := (Below.refl _ _).alloc (Nat.le_refl _) _
  have HK := Lib.hid B0
  clear B0
  have c0 := HK.out.at 0 (v := .int .i64 r.kind) rfl
  have c18 := HK.out.at 18 (v := .int .i64 r.time) rfl
  have c12 := HK.out.at 12 (v := .int .i64 r.id.src) rfl
  have c13 := HK.out.at 13 (v := .int .i64 r.id.cre) rfl
  have c14 := HK.out.at 14 (v := .int .i64 r.id.seq) rfl
  have c15 := HK.out.at 15 (v := .int .i64 r.id.off) rfl
  have c16 := HK.out.at 16 (v := .int .i64 r.id.tot) rfl
  rw [hk] at c0 W1
  go_enter Try.func21, Try.ntmps21
  go_wp2_with fail
  refine (W1.out _).mono ?_
  rintro e w2 ⟨rfl, rfl⟩
  go_wp2_with fail
  refine (W2.out _).mono ?_
  rintro e w2 ⟨rfl, rfl⟩
  go_wp2_with fail
  refine (V1.out _).mono ?_
  rintro e w1 ⟨rfl, hb1⟩
  clear c0 c18 c12 c13 c14 c15 c16
  replace HK := Lib.hid (HK.out.below hb1 HK.out.lt)
  replace HB0 := Lib.hid (HB0.out.trans (hb1.mono HB0.out.size))
  clear hb1
  have c0 := HK.out.at 0 (v := .int .i64 r.kind) rfl
  have c17 := HK.out.at 17 (v := .int .i64 r.tick) rfl
  have c1 := HK.out.at 1 (v := .int .i64 r.item.tick) rfl
  have c2 := HK.out.at 2 (v := .int .i64 r.item.id.src) rfl
  have c3 := HK.out.at 3 (v := .int .i64 r.item.id.cre) rfl
  have c4 := HK.out.at 4 (v := .int .i64 r.item.id.seq) rfl
  have c5 := HK.out.at 5 (v := .int .i64 r.item.id.off) rfl
  have c6 := HK.out.at 6 (v := .int .i64 r.item.id.tot) rfl
  have c7 := HK.out.at 7 (v := .int .i64 r.item.dest) rfl
  have c8 := HK.out.at 8 (v := .int .i64 r.item.exp) rfl
  have c9 := HK.out.at 9 (v := .int .i64 r.item.prio) rfl
  have c10 := HK.out.at 10 (v := .bool r.item.cust) rfl
  have c11 := HK.out.at 11 (v := .string r.item.data) rfl
  rw [hk] at c0
  clear hk
  go_wp2_with fail
  refine (W3.out _).mono ?_
  rintro e w2 ⟨rfl, rfl⟩
  go_wp2
  all_goals first | (go_ret; exact ⟨rfl, HB0.out⟩) | exact (HN.out ⟨by assumption, by assumption, by assumption, by assumption, by assumption, by assumption, by assumption, by assumption, by assumption, by (first | assumption | (simp_all)), by (apply str_zero; assumption)⟩).elim
set_option maxHeartbeats 4000000 in
set_option maxRecDepth 100000 in
theorem checkR_k2 (r : Rec) (w : World) (hk : r.kind = 2) (HN : Hid (¬ (r.item.tick = 0 ∧ r.item.id.src = 0 ∧ r.item.id.cre = 0 ∧ r.item.id.seq = 0 ∧ r.item.id.off = 0 ∧ r.item.id.tot = 0 ∧ r.item.dest = 0 ∧ r.item.exp = 0 ∧ r.item.prio = 0 ∧ r.item.cust = false ∧ r.item.data = ⟨#[]⟩))) (W1 : Hid (∀ w, Calls Try.prog 42 #[.int .i64 r.kind, .int .i64 1, .int .i64 4] w fun e w' => e = .returned (.bool true) ∧ w = w')) (W2 : Hid (∀ w, Calls Try.prog 42 #[.int .i64 r.time, .int .i64 0, .int .i64 1099511627776] w fun e w' => e = .returned (.bool true) ∧ w = w')) (V1 : Hid (∀ w, Calls Try.prog 44 #[.agg (idA r.id)] w fun e w' => e = .returned (.bool true) ∧ Below w.heap.size w w')) : Calls Try.prog 21 #[.agg (rcA r)] w fun e w' => e = .returned (.int .i64 1) ∧ Below w.heap.size w w' := by
  have B0 := Bk.new w 34 (rcA r)
  have HB0 : Hid (Below w.heap.size w (w.alloc (.cells (rcA r) 34))) := (Below.refl _ _).alloc (Nat.le_refl _) _
  have HK := Lib.hid B0
  clear B0
  have c0 := HK.out.at 0 (v := .int .i64 r.kind) rfl
  have c18 := HK.out.at 18 (v := .int .i64 r.time) rfl
  have c12 := HK.out.at 12 (v := .int .i64 r.id.src) rfl
  have c13 := HK.out.at 13 (v := .int .i64 r.id.cre) rfl
  have c14 := HK.out.at 14 (v := .int .i64 r.id.seq) rfl
  have c15 := HK.out.at 15 (v := .int .i64 r.id.off) rfl
  have c16 := HK.out.at 16 (v := .int .i64 r.id.tot) rfl
  rw [hk] at c0 W1
  go_enter Try.func21, Try.ntmps21
  go_wp2_with fail
  refine (W1.out _).mono ?_
  rintro e w2 ⟨rfl, rfl⟩
  go_wp2_with fail
  refine (W2.out _).mono ?_
  rintro e w2 ⟨rfl, rfl⟩
  go_wp2_with fail
  refine (V1.out _).mono ?_
  rintro e w1 ⟨rfl, hb1⟩
  clear c0 c18 c12 c13 c14 c15 c16
  replace HK := Lib.hid (HK.out.below hb1 HK.out.lt)
  replace HB0 := Lib.hid (HB0.out.trans (hb1.mono HB0.out.size))
  clear hb1
  have c0 := HK.out.at 0 (v := .int .i64 r.kind) rfl
  have c17 := HK.out.at 17 (v := .int .i64 r.tick) rfl
  have c1 := HK.out.at 1 (v := .int .i64 r.item.tick) rfl
  have c2 := HK.out.at 2 (v := .int .i64 r.item.id.src) rfl
  have c3 := HK.out.at 3 (v := .int .i64 r.item.id.cre) rfl
  have c4 := HK.out.at 4 (v := .int .i64 r.item.id.seq) rfl
  have c5 := HK.out.at 5 (v := .int .i64 r.item.id.off) rfl
  have c6 := HK.out.at 6 (v := .int .i64 r.item.id.tot) rfl
  have c7 := HK.out.at 7 (v := .int .i64 r.item.dest) rfl
  have c8 := HK.out.at 8 (v := .int .i64 r.item.exp) rfl
  have c9 := HK.out.at 9 (v := .int .i64 r.item.prio) rfl
  have c10 := HK.out.at 10 (v := .bool r.item.cust) rfl
  have c11 := HK.out.at 11 (v := .string r.item.data) rfl
  rw [hk] at c0
  clear hk
  go_wp2
  all_goals first | (go_ret; exact ⟨rfl, HB0.out⟩) | exact (HN.out ⟨by assumption, by assumption, by assumption, by assumption, by assumption, by assumption, by assumption, by assumption, by assumption, by (first | assumption | (simp_all)), by (apply str_zero; assumption)⟩).elim

theorem checkR_any (r : Rec) (hr : r.item.data.size ≤ maxLen) (w : World) : Calls Try.prog 21 #[.agg (rcA r)] w fun e w' => e = .returned (.int .i64 (ck r)) ∧ Below w.heap.size w w' := by
  have W1 := fun w => in_any r.kind 1 4 w
  have W2 := fun w => in_any r.time 0 1099511627776 w
  have W3 := fun w => in_any r.tick 0 1152921504606846976 w
  have C1 := fun w => checkItemR_any r.item hr w
  have V1 := fun w => validId_any r.id w
  cases h1 : wi r.kind 1 4
  · rw [ck_kind h1]; rw [h1] at W1; exact checkR_a r w (Lib.hid W1)
  cases h2 : wi r.time 0 1099511627776
  · rw [ck_time h1 h2]; rw [h1] at W1; rw [h2] at W2; exact checkR_b r w (Lib.hid W1) (Lib.hid W2)
  have hk := kinds h1
  rw [h1] at W1
  rw [h2] at W2
  by_cases h13 : r.kind = 1 ∨ r.kind = 3
  · rw [ck_item h1 h2 h13]
    by_cases hi : ckI r.item = 0
    · rw [hi] at C1
      rw [if_pos hi]
      by_cases hz : r.id = zId
      · by_cases ht : r.tick = 0
        · rw [if_pos ⟨hz, ht⟩]
          exact checkR_d r w h13 (Lib.hid ((zId_iff _).1 hz)) ht (Lib.hid W1) (Lib.hid W2) (Lib.hid C1)
        · rw [if_neg (fun h => ht h.2)]
          exact checkR_e r w h13 (Lib.hid ((zId_iff _).1 hz)) (by rw [bne_iff_ne]; exact ht) (Lib.hid W1) (Lib.hid W2) (Lib.hid C1)
      · rw [if_neg (fun h => hz h.1)]
        exact checkR_f r w h13 (Lib.hid (fun h => hz ((zId_iff _).2 h))) (Lib.hid W1) (Lib.hid W2) (Lib.hid C1)
    · rw [if_neg hi]
      exact checkR_c r w h13 _ (by rw [bne_iff_ne]; exact hi) (Lib.hid W1) (Lib.hid W2) (Lib.hid C1)
  · rw [ck_else h1 h2 h13]
    cases hv : vId r.id
    · rw [hv] at V1
      rcases hk with hk | hk | hk | hk
      · exact absurd (.inl hk) h13
      · exact checkR_g2 r w hk (Lib.hid W1) (Lib.hid W2) (Lib.hid V1)
      · exact absurd (.inr hk) h13
      · exact checkR_g4 r w hk (Lib.hid W1) (Lib.hid W2) (Lib.hid V1)
    · rw [hv] at V1
      rcases hk with hk | hk | hk | hk
      · exact absurd (.inl hk) h13
      · have e : (true && (!decide (r.kind = 4) || wi r.tick 0 1152921504606846976)) = true := by rw [hk]; rfl
        rw [if_pos e]
        by_cases hz : r.item = zIt
        · by_cases ht : r.tick = 0
          · rw [if_pos ⟨hz, fun h => h.2 ht⟩]
            exact checkR_i2 r w hk ht (Lib.hid hz) (Lib.hid W1) (Lib.hid W2) (Lib.hid V1)
          · rw [if_neg (fun h => h.2 ⟨hk, ht⟩)]
            exact checkR_j2 r w hk (by rw [bne_iff_ne]; exact ht) (Lib.hid hz) (Lib.hid W1) (Lib.hid W2) (Lib.hid V1)
        · rw [if_neg (fun h => hz h.1)]
          exact checkR_k2 r w hk (Lib.hid (fun h => hz ((zIt_iff _).2 h))) (Lib.hid W1) (Lib.hid W2) (Lib.hid V1)
      · exact absurd (.inr hk) h13
      · cases h3 : wi r.tick 0 1152921504606846976
        · rw [h3] at W3
          rw [if_neg (by rw [hk]; decide)]
          exact checkR_h r w hk (Lib.hid W1) (Lib.hid W2) (Lib.hid W3) (Lib.hid V1)
        · rw [h3] at W3
          rw [if_pos (by rw [hk]; decide)]
          by_cases hz : r.item = zIt
          · rw [if_pos ⟨hz, fun h => by rw [hk] at h; exact absurd h.1 (by decide)⟩]
            exact checkR_i4 r w hk (Lib.hid hz) (Lib.hid W1) (Lib.hid W2) (Lib.hid W3) (Lib.hid V1)
          · rw [if_neg (fun h => hz h.1)]
            exact checkR_k4 r w hk (Lib.hid (fun h => hz ((zIt_iff _).2 h))) (Lib.hid W1) (Lib.hid W2) (Lib.hid W3) (Lib.hid V1)

end Go.Proofs.Ytlknjdfiedkhbaa
