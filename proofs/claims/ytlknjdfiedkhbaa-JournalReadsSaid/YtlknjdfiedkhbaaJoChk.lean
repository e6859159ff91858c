/- Check of the program and of the reference, walked. Condition: a length below the model's greatest. -/
import Derived.Test.YtlknjdfiedkhbaaJoItem
import Derived.Lib.Strings
namespace Go.Proofs.Ytlknjdfiedkhbaa
open Go Go.RowKit
open Jo (RId Itm Rec wi vId ckI ck zId zIt idA itA rcA)

theorem str_zero {s : ByteArray} (h : s.toList = []) : s = ⟨#[]⟩ := by
  rw [Go.Lib.toList_data] at h
  obtain ⟨⟨l⟩⟩ := s
  simp at h
  rw [h]
theorem ck_kind {r : Rec} (h : wi r.kind 1 4 = false) : ck r = 8 := by unfold ck; rw [h]; rfl
theorem ck_time {r : Rec} (h : wi r.kind 1 4 = true) (h2 : wi r.time 0 1099511627776 = false) : ck r = 2 := by unfold ck; rw [h, h2]; rfl
theorem ck_item {r : Rec} (h : wi r.kind 1 4 = true) (h2 : wi r.time 0 1099511627776 = true) (hk : r.kind = 1 ∨ r.kind = 3) : ck r = if ckI r.item = 0 then (if r.id = zId ∧ r.tick = 0 then 0 else 1) else ckI r.item := by
  unfold ck; rw [if_pos h, if_pos h2, if_pos hk]
theorem ck_else {r : Rec} (h : wi r.kind 1 4 = true) (h2 : wi r.time 0 1099511627776 = true) (hk : ¬ (r.kind = 1 ∨ r.kind = 3)) : ck r = if vId r.id && (!decide (r.kind = 4) || wi r.tick 0 1152921504606846976) then (if r.item = zIt ∧ ¬ (r.kind = 2 ∧ r.tick ≠ 0) then 0 else 1) else 2 := by
  unfold ck; rw [if_pos h, if_pos h2, if_neg hk]
theorem kinds {k : Int} (h : wi k 1 4 = true) : k = 1 ∨ k = 2 ∨ k = 3 ∨ k = 4 := by
  simp [wi] at h; omega
theorem zId_iff (x : RId) : x = zId ↔ x.src = 0 ∧ x.cre = 0 ∧ x.seq = 0 ∧ x.off = 0 ∧ x.tot = 0 := by
  cases x; simp [zId]
theorem zIt_iff (x : Itm) : x = zIt ↔ x.tick = 0 ∧ x.id.src = 0 ∧ x.id.cre = 0 ∧ x.id.seq = 0 ∧ x.id.off = 0 ∧ x.id.tot = 0 ∧ x.dest = 0 ∧ x.exp = 0 ∧ x.prio = 0 ∧ x.cust = false ∧ x.data = ⟨#[]⟩ := by
  obtain ⟨t, ⟨a, b, c, d, e⟩, f, g, h, i, j⟩ := x
  simp [zIt, zId, and_assoc]

set_option maxHeartbeats 4000000 in
set_option maxRecDepth 100000 in
theorem check_a (r : Rec) (w : World) (W1 : Hid (∀ w, Calls Try.prog 30 #[.int .i64 r.kind, .int .i64 1, .int .i64 4] w fun e w' => e = .returned (.bool false) ∧ w = w')) : Calls Try.prog 14 #[.agg (rcA r)] w fun e w' => e = .returned (.int .i64 8) ∧ Below w.heap.size w w' := by
  have B0 := Bk.new w 34 (rcA r)
  have HB0 : Hid (Below w.heap.size w (w.alloc (.cells (rcA r) 34))) := (Below.refl _ _).alloc (Nat.le_refl _) _
  have HK := Lib.hid B0
  clear B0
  have c0 := HK.out.at 0 (v := .int .i64 r.kind) rfl
  go_enter Try.func14, Try.ntmps14
  go_wp2_with fail
  refine (W1.out _).mono ?_
  rintro e w2 ⟨rfl, rfl⟩
  go_wp2
  go_ret
  exact ⟨rfl, HB0.out⟩
set_option maxHeartbeats 4000000 in
set_option maxRecDepth 100000 in
theorem check_b (r : Rec) (w : World) (W1 : Hid (∀ w, Calls Try.prog 30 #[.int .i64 r.kind, .int .i64 1, .int .i64 4] w fun e w' => e = .returned (.bool true) ∧ w = w')) (W2 : Hid (∀ w, Calls Try.prog 30 #[.int .i64 r.time, .int .i64 0, .int .i64 1099511627776] w fun e w' => e = .returned (.bool false) ∧ w = w')) : Calls Try.prog 14 #[.agg (rcA r)] w fun e w' => e = .returned (.int .i64 2) ∧ Below w.heap.size w w' := by
  have B0 := Bk.new w 34 (rcA r)
  have HB0 : Hid (Below w.heap.size w (w.alloc (.cells (rcA r) 34))) := (Below.refl _ _).alloc (Nat.le_refl _) _
  have HK := Lib.hid B0
  clear B0
  have c0 := HK.out.at 0 (v := .int .i64 r.kind) rfl
  have c18 := HK.out.at 18 (v := .int .i64 r.time) rfl
  go_enter Try.func14, Try.ntmps14
  go_wp2_with fail
  refine (W1.out _).mono ?_
  rintro e w2 ⟨rfl, rfl⟩
  go_wp2_with fail
  refine (W2.out _).mono ?_
  rintro e w2 ⟨rfl, rfl⟩
  go_wp2
  go_ret
  exact ⟨rfl, HB0.out⟩
set_option maxHeartbeats 4000000 in
set_option maxRecDepth 100000 in
theorem check_c (r : Rec) (w : World) (hk : r.kind = 1 ∨ r.kind = 3) (q : Int) (hq : (q != 0) = true) (W1 : Hid (∀ w, Calls Try.prog 30 #[.int .i64 r.kind, .int .i64 1, .int .i64 4] w fun e w' => e = .returned (.bool true) ∧ w = w')) (W2 : Hid (∀ w, Calls Try.prog 30 #[.int .i64 r.time, .int .i64 0, .int .i64 1099511627776] w fun e w' => e = .returned (.bool true) ∧ w = w')) (C1 : Hid (∀ w, Calls Try.prog 31 #[.agg (itA r.item)] w fun e w' => e = .returned (.int .i64 q) ∧ Below w.heap.size w w')) : Calls Try.prog 14 #[.agg (rcA r)] w fun e w' => e = .returned (.int .i64 q) ∧ Below w.heap.size w w' := by
  have B0 := Bk.new w 34 (rcA r)
  have HB0 : Hid (Below w.heap.size w (w.alloc (.cells (rcA r) 34))) := (Below.refl _ _).alloc (Nat.le_refl _) _
  have HK := Lib.hid B0
  clear B0
  rcases hk with hk | hk
  all_goals
    have c0 := HK.out.at 0 (v := .int .i64 r.kind) rfl
    have c18 := HK.out.at 18 (v := .int .i64 r.time) rfl
    have c1 := HK.out.at 1 (v := .int .i64 r.item.tick) rfl
    have c2 := HK.out.at 2 (v := .int .i64 r.item.id.src) rfl
    have c3 := HK.out.at 3 (v := .int .i64 r.item.id.cre) rfl
    have c4 := HK.out.at 4 (v := .int .i64 r.item.id.seq) rfl
    have c5 := HK.out.at 5 (v := .int .i64 r.item.id.off) rfl
    have c6 := HK.out.at 6 (v := .int .i64 r.item.id.tot) rfl
    have c7 := HK.out.at 7 (v := .int .i64 r.item.dest) rfl
    have c8 := HK.out.at 8 (v := .int .i64 r.item.exp) rfl
    have c9 := HK.out.at 9 (v := .int .i64 r.item.prio) rfl
    have c10 := HK.out.at 10 (v := .bool r.item.cust) rfl
    have c11 := HK.out.at 11 (v := .string r.item.data) rfl
    rw [hk] at c0 W1
    clear hk
    go_enter Try.func14, Try.ntmps14
    go_wp2_with fail
    refine (W1.out _).mono ?_
    rintro e w2 ⟨rfl, rfl⟩
    go_wp2_with fail
    refine (W2.out _).mono ?_
    rintro e w2 ⟨rfl, rfl⟩
    go_wp2_with fail
    refine (C1.out _).mono ?_
    rintro e w1 ⟨rfl, hb1⟩
    clear c0 c18 c1 c2 c3 c4 c5 c6 c7 c8 c9 c10 c11
    replace HK := Lib.hid (HK.out.below hb1 HK.out.lt)
    replace HB0 := Lib.hid (HB0.out.trans (hb1.mono HB0.out.size))
    clear hb1
    go_wp2
    go_ret
    exact ⟨rfl, HB0.out⟩
set_option maxHeartbeats 4000000 in
set_option maxRecDepth 100000 in
theorem check_d (r : Rec) (w : World) (hk : r.kind = 1 ∨ r.kind = 3) (HZ : Hid (r.id.src = 0 ∧ r.id.cre = 0 ∧ r.id.seq = 0 ∧ r.id.off = 0 ∧ r.id.tot = 0)) (ht : r.tick = 0) (W1 : Hid (∀ w, Calls Try.prog 30 #[.int .i64 r.kind, .int .i64 1, .int .i64 4] w fun e w' => e = .returned (.bool true) ∧ w = w')) (W2 : Hid (∀ w, Calls Try.prog 30 #[.int .i64 r.time, .int .i64 0, .int .i64 1099511627776] w fun e w' => e = .returned (.bool true) ∧ w = w')) (C1 : Hid (∀ w, Calls Try.prog 31 #[.agg (itA r.item)] w fun e w' => e = .returned (.int .i64 0) ∧ Below w.heap.size w w')) : Calls Try.prog 14 #[.agg (rcA r)] w fun e w' => e = .returned (.int .i64 0) ∧ Below w.heap.size w w' := by
  have B0 := Bk.new w 34 (rcA r)
  have HB0 : Hid (Below w.heap.size w (w.alloc (.cells (rcA r) 34))) := (Below.refl _ _).alloc (Nat.le_refl _) _
  have HK := Lib.hid B0
  clear B0
  rcases hk with hk | hk
  all_goals
    have c0 := HK.out.at 0 (v := .int .i64 r.kind) rfl
    have c18 := HK.out.at 18 (v := .int .i64 r.time) rfl
    have c1 := HK.out.at 1 (v := .int .i64 r.item.tick) rfl
    have c2 := HK.out.at 2 (v := .int .i64 r.item.id.src) rfl
    have c3 := HK.out.at 3 (v := .int .i64 r.item.id.cre) rfl
    have c4 := HK.out.at 4 (v := .int .i64 r.item.id.seq) rfl
    have c5 := HK.out.at 5 (v := .int .i64 r.item.id.off) rfl
    have c6 := HK.out.at 6 (v := .int .i64 r.item.id.tot) rfl
    have c7 := HK.out.at 7 (v := .int .i64 r.item.dest) rfl
    have c8 := HK.out.at 8 (v := .int .i64 r.item.exp) rfl
    have c9 := HK.out.at 9 (v := .int .i64 r.item.prio) rfl
    have c10 := HK.out.at 10 (v := .bool r.item.cust) rfl
    have c11 := HK.out.at 11 (v := .string r.item.data) rfl
    rw [hk] at c0 W1
    clear hk
    go_enter Try.func14, Try.ntmps14
    go_wp2_with fail
    refine (W1.out _).mono ?_
    rintro e w2 ⟨rfl, rfl⟩
    go_wp2_with fail
    refine (W2.out _).mono ?_
    rintro e w2 ⟨rfl, rfl⟩
    go_wp2_with fail
    refine (C1.out _).mono ?_
    rintro e w1 ⟨rfl, hb1⟩
    clear c0 c18 c1 c2 c3 c4 c5 c6 c7 c8 c9 c10 c11
    replace HK := Lib.hid (HK.out.below hb1 HK.out.lt)
    replace HB0 := Lib.hid (HB0.out.trans (hb1.mono HB0.out.size))
    clear hb1
    have c12 := HK.out.at 12 (v := .int .i64 r.id.src) rfl
    have c13 := HK.out.at 13 (v := .int .i64 r.id.cre) rfl
    have c14 := HK.out.at 14 (v := .int .i64 r.id.seq) rfl
    have c15 := HK.out.at 15 (v := .int .i64 r.id.off) rfl
    have c16 := HK.out.at 16 (v := .int .i64 r.id.tot) rfl
    have c17 := HK.out.at 17 (v := .int .i64 r.tick) rfl
    have hz := HZ.out
    rw [hz.1] at c12
    rw [hz.2.1] at c13
    rw [hz.2.2.1] at c14
    rw [hz.2.2.2.1] at c15
    rw [hz.2.2.2.2] at c16
    clear hz
    go_wp2
    go_ret
    exact ⟨rfl, HB0.out⟩
set_option maxHeartbeats 4000000 in
set_option maxRecDepth 100000 in
theorem check_e (r : Rec) (w : World) (hk : r.kind = 1 ∨ r.kind = 3) (HZ : Hid (r.id.src = 0 ∧ r.id.cre = 0 ∧ r.id.seq = 0 ∧ r.id.off = 0 ∧ r.id.tot = 0)) (ht : (r.tick != 0) = true) (W1 : Hid (∀ w, Calls Try.prog 30 #[.int .i64 r.kind, .int .i64 1, .int .i64 4] w fun e w' => e = .returned (.bool true) ∧ w = w')) (W2 : Hid (∀ w, Calls Try.prog 30 #[.int .i64 r.time, .int .i64 0, .int .i64 1099511627776] w fun e w' => e = .returned (.bool true) ∧ w = w')) (C1 : Hid (∀ w, Calls Try.prog 31 #[.agg (itA r.item)] w fun e w' => e = .returned (.int .i64 0) ∧ Below w.heap.size w w')) : Calls Try.prog 14 #[.agg (rcA r)] w fun e w' => e = .returned (.int .i64 1) ∧ Below w.heap.size w w' := by
  have B0 := Bk.new w 34 (rcA r)
  have HB0 : Hid (Below w.heap.size w (w.alloc (.cells (rcA r) 34))) := (Below.refl _ _).alloc (Nat.le_refl _) _
  have HK := Lib.hid B0
  clear B0
  rcases hk with hk | hk
  all_goals
    have c0 := HK.out.at 0 (v := .int .i64 r.kind) rfl
    have c18 := HK.out.at 18 (v := .int .i64 r.time) rfl
    have c1 := HK.out.at 1 (v := .int .i64 r.item.tick) rfl
    have c2 := HK.out.at 2 (v := .int .i64 r.item.id.src) rfl
    have c3 := HK.out.at 3 (v := .int .i64 r.item.id.cre) rfl
    have c4 := HK.out.at 4 (v := .int .i64 r.item.id.seq) rfl
    have c5 := HK.out.at 5 (v := .int .i64 r.item.id.off) rfl
    have c6 := HK.out.at 6 (v := .int .i64 r.item.id.tot) rfl
    have c7 := HK.out.at 7 (v := .int .i64 r.item.dest) rfl
    have c8 := HK.out.at 8 (v := .int .i64 r.item.exp) rfl
    have c9 := HK.out.at 9 (v := .int .i64 r.item.prio) rfl
    have c10 := HK.out.at 10 (v := .bool r.item.cust) rfl
    have c11 := HK.out.at 11 (v := .string r.item.data) rfl
    rw [hk] at c0 W1
    clear hk
    go_enter Try.func14, Try.ntmps14
    go_wp2_with fail
    refine (W1.out _).mono ?_
    rintro e w2 ⟨rfl, rfl⟩
    go_wp2_with fail
    refine (W2.out _).mono ?_
    rintro e w2 ⟨rfl, rfl⟩
    go_wp2_with fail
    refine (C1.out _).mono ?_
    rintro e w1 ⟨rfl, hb1⟩
    clear c0 c18 c1 c2 c3 c4 c5 c6 c7 c8 c9 c10 c11
    replace HK := Lib.hid (HK.out.below hb1 HK.out.lt)
    replace HB0 := Lib.hid (HB0.out.trans (hb1.mono HB0.out.size))
    clear hb1
    have c12 := HK.out.at 12 (v := .int .i64 r.id.src) rfl
    have c13 := HK.out.at 13 (v := .int .i64 r.id.cre) rfl
    have c14 := HK.out.at 14 (v := .int .i64 r.id.seq) rfl
    have c15 := HK.out.at 15 (v := .int .i64 r.id.off) rfl
    have c16 := HK.out.at 16 (v := .int .i64 r.id.tot) rfl
    have c17 := HK.out.at 17 (v := .int .i64 r.tick) rfl
    have hz := HZ.out
    rw [hz.1] at c12
    rw [hz.2.1] at c13
    rw [hz.2.2.1] at c14
    rw [hz.2.2.2.1] at c15
    rw [hz.2.2.2.2] at c16
    clear hz
    go_wp2
    go_ret
    exact ⟨rfl, HB0.out⟩
set_option maxHeartbeats 4000000 in
set_option maxRecDepth 100000 in
theorem check_f (r : Rec) (w : World) (hk : r.kind = 1 ∨ r.kind = 3) (HN : Hid (¬ (r.id.src = 0 ∧ r.id.cre = 0 ∧ r.id.seq = 0 ∧ r.id.off = 0 ∧ r.id.tot = 0))) (W1 : Hid (∀ w, Calls Try.prog 30 #[.int .i64 r.kind, .int .i64 1, .int .i64 4] w fun e w' => e = .returned (.bool true) ∧ w = w')) (W2 : Hid (∀ w, Calls Try.prog 30 #[.int .i64 r.time, .int .i64 0, .int .i64 1099511627776] w fun e w' => e = .returned (.bool true) ∧ w = w')) (C1 : Hid (∀ w, Calls Try.prog 31 #[.agg (itA r.item)] w fun e w' => e = .returned (.int .i64 0) ∧ Below w.heap.size w w')) : Calls Try.prog 14 #[.agg (rcA r)] w fun e w' => e = .returned (.int .i64 1) ∧ Below w.heap.size w w' := by
  have B0 := Bk.new w 34 (rcA r)
  have HB0 : Hid (Below w.heap.size w (w.alloc (.cells (rcA r) 34))) := (Below.refl _ _).alloc (Nat.le_refl _) _
  have HK := Lib.hid B0
  clear B0
  rcases hk with hk | hk
  all_goals
    have c0 := HK.out.at 0 (v := .int .i64 r.kind) rfl
    have c18 := HK.out.at 18 (v := .int .i64 r.time) rfl
    have c1 := HK.out.at 1 (v := .int .i64 r.item.tick) rfl
    have c2 := HK.out.at 2 (v := .int .i64 r.item.id.src) rfl
    have c3 := HK.out.at 3 (v := .int .i64 r.item.id.cre) rfl
    have c4 := HK.out.at 4 (v := .int .i64 r.item.id.seq) rfl
    have c5 := HK.out.at 5 (v := .int .i64 r.item.id.off) rfl
    have c6 := HK.out.at 6 (v := .int .i64 r.item.id.tot) rfl
    have c7 := HK.out.at 7 (v := .int .i64 r.item.dest) rfl
    have c8 := HK.out.at 8 (v := .int .i64 r.item.exp) rfl
    have c9 := HK.out.at 9 (v := .int .i64 r.item.prio) rfl
    have c10 := HK.out.at 10 (v := .bool r.item.cust) rfl
    have c11 := HK.out.at 11 (v := .string r.item.data) rfl
    rw [hk] at c0 W1
    clear hk
    go_enter Try.func14, Try.ntmps14
    go_wp2_with fail
    refine (W1.out _).mono ?_
    rintro e w2 ⟨rfl, rfl⟩
    go_wp2_with fail
    refine (W2.out _).mono ?_
    rintro e w2 ⟨rfl, rfl⟩
    go_wp2_with fail
    refine (C1.out _).mono ?_
    rintro e w1 ⟨rfl, hb1⟩
    clear c0 c18 c1 c2 c3 c4 c5 c6 c7 c8 c9 c10 c11
    replace HK := Lib.hid (HK.out.below hb1 HK.out.lt)
    replace HB0 := Lib.hid (HB0.out.trans (hb1.mono HB0.out.size))
    clear hb1
    have c12 := HK.out.at 12 (v := .int .i64 r.id.src) rfl
    have c13 := HK.out.at 13 (v := .int .i64 r.id.cre) rfl
    have c14 := HK.out.at 14 (v := .int .i64 r.id.seq) rfl
    have c15 := HK.out.at 15 (v := .int .i64 r.id.off) rfl
    have c16 := HK.out.at 16 (v := .int .i64 r.id.tot) rfl
    have c17 := HK.out.at 17 (v := .int .i64 r.tick) rfl
    go_wp2
    all_goals first | (go_ret; exact ⟨rfl, HB0.out⟩) | exact (HN.out ⟨by assumption, by assumption, by assumption, by assumption, by assumption⟩).elim
set_option maxHeartbeats 4000000 in
set_option maxRecDepth 100000 in
theorem check_g2 (r : Rec) (w : World) (hk : r.kind = 2) (W1 : Hid (∀ w, Calls Try.prog 30 #[.int .i64 r.kind, .int .i64 1, .int .i64 4] w fun e w' => e = .returned (.bool true) ∧ w = w')) (W2 : Hid (∀ w, Calls Try.prog 30 #[.int .i64 r.time, .int .i64 0, .int .i64 1099511627776] w fun e w' => e = .returned (.bool true) ∧ w = w')) (V1 : Hid (∀ w, Calls Try.prog 32 #[.agg (idA r.id)] w fun e w' => e = .returned (.bool false) ∧ Below w.heap.size w w')) : Calls Try.prog 14 #[.agg (rcA r)] w fun e w' => e = .returned (.int .i64 2) ∧ Below w.heap.size w w' := by
  have B0 := Bk.new w 34 (rcA r)
  have HB0 : Hid (Below w.heap.size w (w.alloc (.cells (rcA r) 34))) := (Below.refl _ _).alloc (Nat.le_refl _) _
  have HK := Lib.hid B0
  clear B0
  have c0 := HK.out.at 0 (v := .int .i64 r.kind) rfl
  have c18 := HK.out.at 18 (v := .int .i64 r.time) rfl
  have c12 := HK.out.at 12 (v := .int .i64 r.id.src) rfl
  have c13 := HK.out.at 13 (v := .int .i64 r.id.cre) rfl
  have c14 := HK.out.at 14 (v := .int .i64 r.id.seq) rfl
  have c15 := HK.out.at 15 (v := .int .i64 r.id.off) rfl
  have c16 := HK.out.at 16 (v := .int .i64 r.id.tot) rfl
  rw [hk] at c0 W1
  go_enter Try.func14, Try.ntmps14
  go_wp2_with fail
  refine (W1.out _).mono ?_
  rintro e w2 ⟨rfl, rfl⟩
  go_wp2_with fail
  refine (W2.out _).mono ?_
  rintro e w2 ⟨rfl, rfl⟩
  go_wp2_with fail
  refine (V1.out _).mono ?_
  rintro e w1 ⟨rfl, hb1⟩
  clear c0 c18 c12 c13 c14 c15 c16
  replace HK := Lib.hid (HK.out.below hb1 HK.out.lt)
  replace HB0 := Lib.hid (HB0.out.trans (hb1.mono HB0.out.size))
  clear hb1
  have c0 := HK.out.at 0 (v := .int .i64 r.kind) rfl
  rw [hk] at c0
  clear hk
  go_wp2
  go_ret
  exact ⟨rfl, HB0.out⟩
set_option maxHeartbeats 4000000 in
set_option maxRecDepth 100000 in
theorem check_g4 (r : Rec) (w : World) (hk : r.kind = 4) (W1 : Hid (∀ w, Calls Try.prog 30 #[.int .i64 r.kind, .int .i64 1, .int .i64 4] w fun e w' => e = .returned (.bool true) ∧ w = w')) (W2 : Hid (∀ w, Calls Try.prog 30 #[.int .i64 r.time, .int .i64 0, .int .i64 1099511627776] w fun e w' => e = .returned (.bool true) ∧ w = w')) (V1 : Hid (∀ w, Calls Try.prog 32 #[.agg (idA r.id)] w fun e w' => e = .returned (.bool false) ∧ Below w.heap.size w w')) : Calls Try.prog 14 #[.agg (rcA r)] w fun e w' => e = .returned (.int .i64 2) ∧ Below w.heap.size w w' := by
  have B0 := Bk.new w 34 (rcA r)
  have HB0 : Hid (Below w.heap.size w (w.alloc (.cells (rcA r) 34))) := (Below.refl _ _).alloc (Nat.le_refl _) _
  have HK := Lib.hid B0
  clear B0
  have c0 := HK.out.at 0 (v := .int .i64 r.kind) rfl
  have c18 := HK.out.at 18 (v := .int .i64 r.time) rfl
  have c12 := HK.out.at 12 (v := .int .i64 r.id.src) rfl
  have c13 := HK.out.at 13 (v := .int .i64 r.id.cre) rfl
  have c14 := HK.out.at 14 (v := .int .i64 r.id.seq) rfl
  have c15 := HK.out.at 15 (v := .int .i64 r.id.off) rfl
  have c16 := HK.out.at 16 (v := .int .i64 r.id.tot) rfl
  rw [hk] at c0 W1
  go_enter Try.func14, Try.ntmps14
  go_wp2_with fail
  refine (W1.out _).mono ?_
  rintro e w2 ⟨rfl, rfl⟩
  go_wp2_with fail
  refine (W2.out _).mono ?_
  rintro e w2 ⟨rfl, rfl⟩
  go_wp2_with fail
  refine (V1.out _).mono ?_
  rintro e w1 ⟨rfl, hb1⟩
  clear c0 c18 c12 c13 c14 c15 c16
  replace HK := Lib.hid (HK.out.below hb1 HK.out.lt)
  replace HB0 := Lib.hid (HB0.out.trans (hb1.mono HB0.out.size))
  clear hb1
  have c0 := HK.out.at 0 (v := .int .i64 r.kind) rfl
  rw [hk] at c0
  clear hk
  go_wp2
  go_ret
  exact ⟨rfl, HB0.out⟩
set_option maxHeartbeats 4000000 in
set_option maxRecDepth 100000 in
theorem check_h (r : Rec) (w : World) (hk : r.kind = 4) (W1 : Hid (∀ w, Calls Try.prog 30 #[.int .i64 r.kind, .int .i64 1, .int .i64 4] w fun e w' => e = .returned (.bool true) ∧ w = w')) (W2 : Hid (∀ w, Calls Try.prog 30 #[.int .i64 r.time, .int .i64 0, .int .i64 1099511627776] w fun e w' => e = .returned (.bool true) ∧ w = w')) (W3 : Hid (∀ w, Calls Try.prog 30 #[.int .i64 r.tick, .int .i64 0, .int .i64 1152921504606846976] w fun e w' => e = .returned (.bool false) ∧ w = w')) (V1 : Hid (∀ w, Calls Try.prog 32 #[.agg (idA r.id)] w fun e w' => e = .returned (.bool true) ∧ Below w.heap.size w w')) : Calls Try.prog 14 #[.agg (rcA r)] w fun e w' => e = .returned (.int .i64 2) ∧ Below w.heap.size w w' := by
  have B0 := Bk.new w 34 (rcA r)
  have HB0 : Hid (Below w.heap.size w (w.alloc (.cells (rcA r) 34))) := (Below.refl _ _).alloc (Nat.le_refl _) _
  have HK := Lib.hid B0
  clear B0
  have c0 := HK.out.at 0 (v := .int .i64 r.kind) rfl
  have c18 := HK.out.at 18 (v := .int .i64 r.time) rfl
  have c12 := HK.out.at 12 (v := .int .i64 r.id.src) rfl
  have c13 := HK.out.at 13 (v := .int .i64 r.id.cre) rfl
  have c14 := HK.out.at 14 (v := .int .i64 r.id.seq) rfl
  have c15 := HK.out.at 15 (v := .int .i64 r.id.off) rfl
  have c16 := HK.out.at 16 (v := .int .i64 r.id.tot) rfl
  rw [hk] at c0 W1
  go_enter Try.func14, Try.ntmps14
  go_wp2_with fail
  refine (W1.out _).mono ?_
  rintro e w2 ⟨rfl, rfl⟩
  go_wp2_with fail
  refine (W2.out _).mono ?_
  rintro e w2 ⟨rfl, rfl⟩
  go_wp2_with fail
  refine (V1.out _).mono ?_
  rintro e w1 ⟨rfl, hb1⟩
  clear c0 c18 c12 c13 c14 c15 c16
  replace HK := Lib.hid (HK.out.below hb1 HK.out.lt)
  replace HB0 := Lib.hid (HB0.out.trans (hb1.mono HB0.out.size))
  clear hb1
  have c0 := HK.out.at 0 (v := .int .i64 r.kind) rfl
  have c17 := HK.out.at 17 (v := .int .i64 r.tick) rfl
  rw [hk] at c0
  clear hk
  go_wp2_with fail
  refine (W3.out _).mono ?_
  rintro e w2 ⟨rfl, rfl⟩
  go_wp2
  go_ret
  exact ⟨rfl, HB0.out⟩
set_option maxHeartbeats 4000000 in
set_option maxRecDepth 100000 in
theorem check_i4 (r : Rec) (w : World) (hk : r.kind = 4) (HZ : Hid (r.item = zIt)) (W1 : Hid (∀ w, Calls Try.prog 30 #[.int .i64 r.kind, .int .i64 1, .int .i64 4] w fun e w' => e = .returned (.bool true) ∧ w = w')) (W2 : Hid (∀ w, Calls Try.prog 30 #[.int .i64 r.time, .int .i64 0, .int .i64 1099511627776] w fun e w' => e = .returned (.bool true) ∧ w = w')) (W3 : Hid (∀ w, Calls Try.prog 30 #[.int .i64 r.tick, .int .i64 0, .int .i64 1152921504606846976] w fun e w' => e = .returned (.bool true) ∧ w = w')) (V1 : Hid (∀ w, Calls Try.prog 32 #[.agg (idA r.id)] w fun e w' => e = .returned (.bool true) ∧ Below w.heap.size w w')) : Calls Try.prog 14 #[.agg (rcA r)] w fun e w' => e = .returned (.int .i64 0) ∧ Below w.heap.size w w' := by
  have B0 := Bk.new w 34 (rcA r)
  have HB0 : Hid (Below w.heap.size w (w.alloc (.cells (rcA r) 34))) := (Below.refl _ _).alloc (Nat.le_refl _) _
  have HK := Lib.hid B0
  clear B0
  have c0 := HK.out.at 0 (v := .int .i64 r.kind) rfl
  have c18 := HK.out.at 18 (v := .int .i64 r.time) rfl
  have c12 := HK.out.at 12 (v := .int .i64 r.id.src) rfl
  have c13 := HK.out.at 13 (v := .int .i64 r.id.cre) rfl
  have c14 := HK.out.at 14 (v := .int .i64 r.id.seq) rfl
  have c15 := HK.out.at 15 (v := .int .i64 r.id.off) rfl
  have c16 := HK.out.at 16 (v := .int .i64 r.id.tot) rfl
  rw [hk] at c0 W1
  go_enter Try.func14, Try.ntmps14
  go_wp2_with fail
  refine (W1.out _).mono ?_
  rintro e w2 ⟨rfl, rfl⟩
  go_wp2_with fail
  refine (W2.out _).mono ?_
  rintro e w2 ⟨rfl, rfl⟩
  go_wp2_with fail
  refine (V1.out _).mono ?_
  rintro e w1 ⟨rfl, hb1⟩
  clear c0 c18 c12 c13 c14 c15 c16
  replace HK := Lib.hid (HK.out.below hb1 HK.out.lt)
  replace HB0 := Lib.hid (HB0.out.trans (hb1.mono HB0.out.size))
  clear hb1
  have c0 := HK.out.at 0 (v := .int .i64 r.kind) rfl
  have c17 := HK.out.at 17 (v := .int .i64 r.tick) rfl
  have c1 := HK.out.at 1 (v := .int .i64 r.item.tick) rfl
  have c2 := HK.out.at 2 (v := .int .i64 r.item.id.src) rfl
  have c3 := HK.out.at 3 (v := .int .i64 r.item.id.cre) rfl
  have c4 := HK.out.at 4 (v := .int .i64 r.item.id.seq) rfl
  have c5 := HK.out.at 5 (v := .int .i64 r.item.id.off) rfl
  have c6 := HK.out.at 6 (v := .int .i64 r.item.id.tot) rfl
  have c7 := HK.out.at 7 (v := .int .i64 r.item.dest) rfl
  have c8 := HK.out.at 8 (v := .int .i64 r.item.exp) rfl
  have c9 := HK.out.at 9 (v := .int .i64 r.item.prio) rfl
  have c10 := HK.out.at 10 (v := .bool r.item.cust) rfl
  have c11 := HK.out.at 11 (v := .string r.item.data) rfl
  rw [hk] at c0
  clear hk
  go_wp2_with fail
  refine (W3.out _).mono ?_
  rintro e w2 ⟨rfl, rfl⟩
  have hz := HZ.out
  rw [hz] at c1
  rw [hz] at c2
  rw [hz] at c3
  rw [hz] at c4
  rw [hz] at c5
  rw [hz] at c6
  rw [hz] at c7
  rw [hz] at c8
  rw [hz] at c9
  rw [hz] at c10
  rw [hz] at c11
  clear hz
  simp only [zIt, zId] at c1 c2 c3 c4 c5 c6 c7 c8 c9 c10 c11
  go_wp2
  go_ret
  exact ⟨rfl, HB0.out⟩
set_option maxHeartbeats 4000000 in
set_option maxRecDepth 100000 in
theorem check_i2 (r : Rec) (w : World) (hk : r.kind = 2) (ht : r.tick = 0) (HZ : Hid (r.item = zIt)) (W1 : Hid (∀ w, Calls Try.prog 30 #[.int .i64 r.kind, .int .i64 1, .int .i64 4] w fun e w' => e = .returned (.bool true) ∧ w = w')) (W2 : Hid (∀ w, Calls Try.prog 30 #[.int .i64 r.time, .int .i64 0, .int .i64 1099511627776] w fun e w' => e = .returned (.bool true) ∧ w = w')) (V1 : Hid (∀ w, Calls Try.prog 32 #[.agg (idA r.id)] w fun e w' => e = .returned (.bool true) ∧ Below w.heap.size w w')) : Calls Try.prog 14 #[.agg (rcA r)] w fun e w' => e = .returned (.int .i64 0) ∧ Below w.heap.size w w' := by
  have B0 := Bk.new w 34 (rcA r)
  have HB0 : Hid (Below w.heap.size w (w.alloc (.cells (rcA r) 34))) := (Below.refl _ _).alloc (Nat.le_refl _) _
  have HK := Lib.hid B0
  clear B0
  have c0 := HK.out.at 0 (v := .int .i64 r.kind) rfl
  have c18 := HK.out.at 18 (v := .int .i64 r.time) rfl
  have c12 := HK.out.at 12 (v := .int .i64 r.id.src) rfl
  have c13 := HK.out.at 13 (v := .int .i64 r.id.cre) rfl
  have c14 := HK.out.at 14 (v := .int .i64 r.id.seq) rfl
  have c15 := HK.out.at 15 (v := .int .i64 r.id.off) rfl
  have c16 := HK.out.at 16 (v := .int .i64 r.id.tot) rfl
  rw [hk] at c0 W1
  go_enter Try.func14, Try.ntmps14
  go_wp2_with fail
  refine (W1.out _).mono ?_
  rintro e w2 ⟨rfl, rfl⟩
  go_wp2_with fail
  refine (W2.out _).mono ?_
  rintro e w2 ⟨rfl, rfl⟩
  go_wp2_with fail
  refine (V1.out _).mono ?_
  rintro e w1 ⟨rfl, hb1⟩
  clear c0 c18 c12 c13 c14 c15 c16
  replace HK := Lib.hid (HK.out.below hb1 HK.out.lt)
  replace HB0 := Lib.hid (HB0.out.trans (hb1.mono HB0.out.size))
  clear hb1
  have c0 := HK.out.at 0 (v := .int .i64 r.kind) rfl
  have c17 := HK.out.at 17 (v := .int .i64 r.tick) rfl
  have c1 := HK.out.at 1 (v := .int .i64 r.item.tick) rfl
  have c2 := HK.out.at 2 (v := .int .i64 r.item.id.src) rfl
  have c3 := HK.out.at 3 (v := .int .i64 r.item.id.cre) rfl
  have c4 := HK.out.at 4 (v := .int .i64 r.item.id.seq) rfl
  have c5 := HK.out.at 5 (v := .int .i64 r.item.id.off) rfl
  have c6 := HK.out.at 6 (v := .int .i64 r.item.id.tot) rfl
  have c7 := HK.out.at 7 (v := .int .i64 r.item.dest) rfl
  have c8 := HK.out.at 8 (v := .int .i64 r.item.exp) rfl
  have c9 := HK.out.at 9 (v := .int .i64 r.item.prio) rfl
  have c10 := HK.out.at 10 (v := .bool r.item.cust) rfl
  have c11 := HK.out.at 11 (v := .string r.item.data) rfl
  rw [hk] at c0
  clear hk
  have hz := HZ.out
  rw [hz] at c1
  rw [hz] at c2
  rw [hz] at c3
  rw [hz] at c4
  rw [hz] at c5
  rw [hz] at c6
  rw [hz] at c7
  rw [hz] at c8
  rw [hz] at c9
  rw [hz] at c10
  rw [hz] at c11
  clear hz
  simp only [zIt, zId] at c1 c2 c3 c4 c5 c6 c7 c8 c9 c10 c11
  go_wp2
  go_ret
  exact ⟨rfl, HB0.out⟩
set_option maxHeartbeats 4000000 in
set_option maxRecDepth 100000 in
theorem check_j2 (r : Rec) (w : World) (hk : r.kind = 2) (ht : (r.tick != 0) = true) (HZ : Hid (r.item = zIt)) (W1 : Hid (∀ w, Calls Try.prog 30 #[.int .i64 r.kind, .int .i64 1, .int .i64 4] w fun e w' => e = .returned (.bool true) ∧ w = w')) (W2 : Hid (∀ w, Calls Try.prog 30 #[.int .i64 r.time, .int .i64 0, .int .i64 1099511627776] w fun e w' => e = .returned (.bool true) ∧ w = w')) (V1 : Hid (∀ w, Calls Try.prog 32 #[.agg (idA r.id)] w fun e w' => e = .returned (.bool true) ∧ Below w.heap.size w w')) : Calls Try.prog 14 #[.agg (rcA r)] w fun e w' => e = .returned (.int .i64 1) ∧ Below w.heap.size w w' := by
  have B0 := Bk.new w 34 (rcA r)
  have HB0 : Hid (Below w.heap.size w (w.alloc (.cells (rcA r) 34))) := (Below.refl _ _).alloc (Nat.le_refl _) _
  have HK := Lib.hid B0
  clear B0
  have c0 := HK.out.at 0 (v := .int .i64 r.kind) rfl
  have c18 := HK.out.at 18 (v := .int .i64 r.time) rfl
  have c12 := HK.out.at 12 (v := .int .i64 r.id.src) rfl
  have c13 := HK.out.at 13 (v := .int .i64 r.id.cre) rfl
  have c14 := HK.out.at 14 (v := .int .i64 r.id.seq) rfl
  have c15 := HK.out.at 15 (v := .int .i64 r.id.off) rfl
  have c16 := HK.out.at 16 (v := .int .i64 r.id.tot) rfl
  rw [hk] at c0 W1
  go_enter Try.func14, Try.ntmps14
  go_wp2_with fail
  refine (W1.out _).mono ?_
  rintro e w2 ⟨rfl, rfl⟩
  go_wp2_with fail
  refine (W2.out _).mono ?_
  rintro e w2 ⟨rfl, rfl⟩
  go_wp2_with fail
  refine (V1.out _).mono ?_
  rintro e w1 ⟨rfl, hb1⟩
  clear c0 c18 c12 c13 c14 c15 c16
  replace HK := Lib.hid (HK.out.below hb1 HK.out.lt)
  replace HB0 := Lib.hid (HB0.out.trans (hb1.mono HB0.out.size))
  clear hb1
  have c0 := HK.out.at 0 (v := .int .i64 r.kind) rfl
  have c17 := HK.out.at 17 (v := .int .i64 r.tick) rfl
  have c1 := HK.out.at 1 (v := .int .i64 r.item.tick) rfl
  have c2 := HK.out.at 2 (v := .int .i64 r.item.id.src) rfl
  have c3 := HK.out.at 3 (v := .int .i64 r.item.id.cre) rfl
  have c4 := HK.out.at 4 (v := .int .i64 r.item.id.seq) rfl
  have c5 := HK.out.at 5 (v := .int .i64 r.item.id.off) rfl
  have c6 := HK.out.at 6 (v := .int .i64 r.item.id.tot) rfl
  have c7 := HK.out.at 7 (v := .int .i64 r.item.dest) rfl
  have c8 := HK.out.at 8 (v := .int .i64 r.item.exp) rfl
  have c9 := HK.out.at 9 (v := .int .i64 r.item.prio) rfl
  have c10 := HK.out.at 10 (v := .bool r.item.cust) rfl
  have c11 := HK.out.at 11 (v := .string r.item.data) rfl
  rw [hk] at c0
  clear hk
  have hz := HZ.out
  rw [hz] at c1
  rw [hz] at c2
  rw [hz] at c3
  rw [hz] at c4
  rw [hz] at c5
  rw [hz] at c6
  rw [hz] at c7
  rw [hz] at c8
  rw [hz] at c9
  rw [hz] at c10
  rw [hz] at c11
  clear hz
  simp only [zIt, zId] at c1 c2 c3 c4 c5 c6 c7 c8 c9 c10 c11
  go_wp2
  go_ret
  exact ⟨rfl, HB0.out⟩
set_option maxHeartbeats 4000000 in
set_option maxRecDepth 100000 in
theorem check_k4 (r : Rec) (w : World) (hk : r.kind = 4) (HN : Hid (¬ (r.item.tick = 0 ∧ r.item.id.src = 0 ∧ r.item.id.cre = 0 ∧ r.item.id.seq = 0 ∧ r.item.id.off = 0 ∧ r.item.id.tot = 0 ∧ r.item.dest = 0 ∧ r.item.exp = 0 ∧ r.item.prio = 0 ∧ r.item.cust = false ∧ r.item.data = ⟨#[]⟩))) (W1 : Hid (∀ w, Calls Try.prog 30 #[.int .i64 r.kind, .int .i64 1, .int .i64 4] w fun e w' => e = .returned (.bool true) ∧ w = w')) (W2 : Hid (∀ w, Calls Try.prog 30 #[.int .i64 r.time, .int .i64 0, .int .i64 1099511627776] w fun e w' => e = .returned (.bool true) ∧ w = w')) (W3 : Hid (∀ w, Calls Try.prog 30 #[.int .i64 r.tick, .int .i64 0, .int .i64 1152921504606846976] w fun e w' => e = .returned (.bool true) ∧ w = w')) (V1 : Hid (∀ w, Calls Try.prog 32 #[.agg (idA r.id)] w fun e w' => e = .returned (.bool true) ∧ Below w.heap.size w w')) : Calls Try.prog 14 #[.agg (rcA r)] w fun e w' => e = .returned (.int .i64 1) ∧ Below w.heap.size w w' := by
  have B0 := Bk.new w 34 (rcA r)
  have HB0 : Hid (Below w.heap.size w (w.alloc (.cells (rcA r) 34))) := (Below.refl _ _).alloc (Nat.le_refl _) _
  have HK := Lib.hid B0
  clear B0
  have c0 := HK.out.at 0 (v := .int .i64 r.kind) rfl
  have c18 := HK.out.at 18 (v := .int .i64 r.time) rfl
  have c12 := HK.out.at 12 (v := .int .i64 r.id.src) rfl
  have c13 := HK.out.at 13 (v := .int .i64 r.id.cre) rfl
  have c14 := HK.out.at 14 (v := .int .i64 r.id.seq) rfl
  have c15 := HK.out.at 15 (v := .int .i64 r.id.off) rfl
  have c16 := HK.out.at 16 (v := .int .i64 r.id.tot) rfl
  rw [hk] at c0 W1
  go_enter Try.func14, Try.ntmps14
  go_wp2_with fail
  refine (W1.out _).mono ?_
  rintro e w2 ⟨rfl, rfl⟩
  go_wp2_with fail
  refine (W2.out _).mono ?_
  rintro e w2 ⟨rfl, rfl⟩
  go_wp2_with fail
  refine (V1.out _).mono ?_
  rintro e w1 ⟨rfl, hb1⟩
  clear c0 c18 c12 c13 c14 c15 c16
  replace HK := Lib.hid (HK.out.below hb1 HK.out.lt)
  replace HB0 := Lib.hid (HB0.out.trans (hb1.mono HB0.out.size))
  clear hb1
  have c0 := HK.out.at 0 (v := .int .i64 r.kind) rfl
  have c17 := HK.out.at 17 (v := .int .i64 r.tick) rfl
  have c1 := HK.out.at 1 (v := .int .i64 r.item.tick) rfl
  have c2 := HK.out.at 2 (v := .int .i64 r.item.id.src) rfl
  have c3 := HK.out.at 3 (v := .int .i64 r.item.id.cre) rfl
  have c4 := HK.out.at 4 (v := .int .i64 r.item.id.seq) rfl
  have c5 := HK.out.at 5 (v := .int .i64 r.item.id.off) rfl
  have c6 := HK.out.at 6 (v := .int .i64 r.item.id.tot) rfl
  have c7 := HK.out.at 7 (v := .int .i64 r.item.dest) rfl
  have c8 := HK.out.at 8 (v := .int .i64 r.item.exp) rfl
  have c9 := HK.out.at 9 (v := .int .i64 r.item.prio) rfl
  have c10 := HK.out.at 10 (v := .bool r.item.cust) rfl
  have c11 := HK.out.at 11 (v := .string r.item.data) rfl
  rw [hk] at c0
  clear hk
  go_wp2_with fail
  refine (W3.out _).mono ?_
  rintro e w2 ⟨rfl, rfl⟩
  go_wp2
  all_goals first | (go_ret; exact ⟨rfl, HB0.out⟩) | exact (HN.out ⟨by assumption, by assumption, by assumption, by assumption, by assumption, by assumption, by assumption, by assumption, by assumption, by (first | assumption | (simp_all)), by (apply str_zero; assumption)⟩).elim
set_option maxHeartbeats 4000000 in
set_option maxRecDepth 100000 in
theorem check_k2 (r : Rec) (w : World) (hk : r.kind = 2) (HN : Hid (¬ (r.item.tick = 0 ∧ r.item.id.src = 0 ∧ r.item.id.cre = 0 ∧ r.item.id.seq = 0 ∧ r.item.id.off = 0 ∧ r.item.id.tot = 0 ∧ r.item.dest = 0 ∧ r.item.exp = 0 ∧ r.item.prio = 0 ∧ r.item.cust = false ∧ r.item.data = ⟨#[]⟩))) (W1 : Hid (∀ w, Calls Try.prog 30 #[.int .i64 r.kind, .int .i64 1, .int .i64 4] w fun e w' => e = .returned (.bool true) ∧ w = w')) (W2 : Hid (∀ w, Calls Try.prog 30 #[.int .i64 r.time, .int .i64 0, .int .i64 1099511627776] w fun e w' => e = .returned (.bool true) ∧ w = w')) (V1 : Hid (∀ w, Calls Try.prog 32 #[.agg (idA r.id)] w fun e w' => e = .returned (.bool true) ∧ Below w.heap.size w w')) : Calls Try.prog 14 #[.agg (rcA r)] w fun e w' => e = .returned (.int .i64 1) ∧ Below w.heap.size w w' := by
  have B0 := Bk.new w 34 (rcA r)
  have HB0 : Hid (Below w.heap.size w (w.alloc (.cells (rcA r) 34))) := (Below.refl _ _).alloc (Nat.le_refl _) _
  have HK := Lib.hid B0
  clear B0
  have c0 := HK.out.at 0 (v := .int .i64 r.kind) rfl
  have c18 := HK.out.at 18 (v := .int .i64 r.time) rfl
  have c12 := HK.out.at 12 (v := .int .i64 r.id.src) rfl
  have c13 := HK.out.at 13 (v := .int .i64 r.id.cre) rfl
  have c14 := HK.out.at 14 (v := .int .i64 r.id.seq) rfl
  have c15 := HK.out.at 15 (v := .int .i64 r.id.off) rfl
  have c16 := HK.out.at 16 (v := .int .i64 r.id.tot) rfl
  rw [hk] at c0 W1
  go_enter Try.func14, Try.ntmps14
  go_wp2_with fail
  refine (W1.out _).mono ?_
  rintro e w2 ⟨rfl, rfl⟩
  go_wp2_with fail
  refine (W2.out _).mono ?_
  rintro e w2 ⟨rfl, rfl⟩
  go_wp2_with fail
  refine (V1.out _).mono ?_
  rintro e w1 ⟨rfl, hb1⟩
  clear c0 c18 c12 c13 c14 c15 c16
  replace HK := Lib.hid (HK.out.below hb1 HK.out.lt)
  replace HB0 := Lib.hid (HB0.out.trans (hb1.mono HB0.out.size))
  clear hb1
  have c0 := HK.out.at 0 (v := .int .i64 r.kind) rfl
  have c17 := HK.out.at 17 (v := .int .i64 r.tick) rfl
  have c1 := HK.out.at 1 (v := .int .i64 r.item.tick) rfl
  have c2 := HK.out.at 2 (v := .int .i64 r.item.id.src) rfl
  have c3 := HK.out.at 3 (v := .int .i64 r.item.id.cre) rfl
  have c4 := HK.out.at 4 (v := .int .i64 r.item.id.seq) rfl
  have c5 := HK.out.at 5 (v := .int .i64 r.item.id.off) rfl
  have c6 := HK.out.at 6 (v := .int .i64 r.item.id.tot) rfl
  have c7 := HK.out.at 7 (v := .int .i64 r.item.dest) rfl
  have c8 := HK.out.at 8 (v := .int .i64 r.item.exp) rfl
  have c9 := HK.out.at 9 (v := .int .i64 r.item.prio) rfl
  have c10 := HK.out.at 10 (v := .bool r.item.cust) rfl
  have c11 := HK.out.at 11 (v := .string r.item.data) rfl
  rw [hk] at c0
  clear hk
  go_wp2
  all_goals first | (go_ret; exact ⟨rfl, HB0.out⟩) | exact (HN.out ⟨by assumption, by assumption, by assumption, by assumption, by assumption, by assumption, by assumption, by assumption, by assumption, by (first | assumption | (simp_all)), by (apply str_zero; assumption)⟩).elim

theorem check_any (r : Rec) (hr : r.item.data.size ≤ maxLen) (w : World) : Calls Try.prog 14 #[.agg (rcA r)] w fun e w' => e = .returned (.int .i64 (ck r)) ∧ Below w.heap.size w w' := by
  have W1 := fun w => within_any r.kind 1 4 w
  have W2 := fun w => within_any r.time 0 1099511627776 w
  have W3 := fun w => within_any r.tick 0 1152921504606846976 w
  have C1 := fun w => checkItem_any r.item hr w
  have V1 := fun w => checkId_any r.id w
  cases h1 : wi r.kind 1 4
  · rw [ck_kind h1]; rw [h1] at W1; exact check_a r w (Lib.hid W1)
  cases h2 : wi r.time 0 1099511627776
  · rw [ck_time h1 h2]; rw [h1] at W1; rw [h2] at W2; exact check_b r w (Lib.hid W1) (Lib.hid W2)
  have hk := kinds h1
  rw [h1] at W1
  rw [h2] at W2
  by_cases h13 : r.kind = 1 ∨ r.kind = 3
  · rw [ck_item h1 h2 h13]
    by_cases hi : ckI r.item = 0
    · rw [hi] at C1
      rw [if_pos hi]
      by_cases hz : r.id = zId
      · by_cases ht : r.tick = 0
        · rw [if_pos ⟨hz, ht⟩]
          exact check_d r w h13 (Lib.hid ((zId_iff _).1 hz)) ht (Lib.hid W1) (Lib.hid W2) (Lib.hid C1)
        · rw [if_neg (fun h => ht h.2)]
          exact check_e r w h13 (Lib.hid ((zId_iff _).1 hz)) (by rw [bne_iff_ne]; exact ht) (Lib.hid W1) (Lib.hid W2) (Lib.hid C1)
      · rw [if_neg (fun h => hz h.1)]
        exact check_f r w h13 (Lib.hid (fun h => hz ((zId_iff _).2 h))) (Lib.hid W1) (Lib.hid W2) (Lib.hid C1)
    · rw [if_neg hi]
      exact check_c r w h13 _ (by rw [bne_iff_ne]; exact hi) (Lib.hid W1) (Lib.hid W2) (Lib.hid C1)
  · rw [ck_else h1 h2 h13]
    cases hv : vId r.id
    · rw [hv] at V1
      rcases hk with hk | hk | hk | hk
      · exact absurd (.inl hk) h13
      · exact check_g2 r w hk (Lib.hid W1) (Lib.hid W2) (Lib.hid V1)
      · exact absurd (.inr hk) h13
      · exact check_g4 r w hk (Lib.hid W1) (Lib.hid W2) (Lib.hid V1)
    · rw [hv] at V1
      rcases hk with hk | hk | hk | hk
      · exact absurd (.inl hk) h13
      · have e : (true && (!decide (r.kind = 4) || wi r.tick 0 1152921504606846976)) = true := by rw [hk]; rfl
        rw [if_pos e]
        by_cases hz : r.item = zIt
        · by_cases ht : r.tick = 0
          · rw [if_pos ⟨hz, fun h => h.2 ht⟩]
            exact check_i2 r w hk ht (Lib.hid hz) (Lib.hid W1) (Lib.hid W2) (Lib.hid V1)
          · rw [if_neg (fun h => h.2 ⟨hk, ht⟩)]
            exact check_j2 r w hk (by rw [bne_iff_ne]; exact ht) (Lib.hid hz) (Lib.hid W1) (Lib.hid W2) (Lib.hid V1)
        · rw [if_neg (fun h => hz h.1)]
          exact check_k2 r w hk (Lib.hid (fun h => hz ((zIt_iff _).2 h))) (Lib.hid W1) (Lib.hid W2) (Lib.hid V1)
      · exact absurd (.inr hk) h13
      · cases h3 : wi r.tick 0 1152921504606846976
        · rw [h3] at W3
          rw [if_neg (by rw [hk]; decide)]
          exact check_h r w hk (Lib.hid W1) (Lib.hid W2) (Lib.hid W3) (Lib.hid V1)
        · rw [h3] at W3
          rw [if_pos (by rw [hk]; decide)]
          by_cases hz : r.item = zIt
          · rw [if_pos ⟨hz, fun h => by rw [hk] at h; exact absurd h.1 (by decide)⟩]
            exact check_i4 r w hk (Lib.hid hz) (Lib.hid W1) (Lib.hid W2) (Lib.hid W3) (Lib.hid V1)
          · rw [if_neg (fun h => hz h.1)]
            exact check_k4 r w hk (Lib.hid (fun h => hz ((zIt_iff _).2 h))) (Lib.hid W1) (Lib.hid W2) (Lib.hid W3) (Lib.hid V1)

end Go.Proofs.Ytlknjdfiedkhbaa
