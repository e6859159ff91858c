/- checkItem of the program and of the reference, walked. Condition: a length below the model's greatest. -/
import Derived.Test.YtlknjdfiedkhbaaJoCheck
import Derived.Test.YtlknjdfiedkhbaaCrcT
namespace Go.Proofs.Ytlknjdfiedkhbaa
open Go Go.RowKit
open Jo (RId Itm Rec wi vId ckI ck zId zIt idA itA rcA)

theorem loadCells_part {P : Program} {w : World} {g : Nat} {t : TypeId} {C : Array Value} {D : List Value} {o n : Nat} (h : Bk w g t C) (hD : (C.toList.drop o).take n = D) (hn : D.length = n) : (loadCellsFrom ⟨g, o, none⟩ 0 n #[]).run P w = .ok D.toArray w := by
  have := run_loadCells_list (P := P) w ⟨g, o, none⟩ D (fun j v hv => by
    rw [Addr.add_mid, h.cell (o + j)]
    subst hD
    rw [List.getElem?_take] at hv
    split at hv
    · rw [List.getElem?_drop] at hv
      simpa using hv
    · exact absurd hv (by simp))
  rw [hn] at this
  simpa [loadCells] using this
theorem Bk.at {w : World} {g : Nat} {t : TypeId} {C : Array Value} (h : Bk w g t C) (j : Nat) {v : Value} (hv : C[j]? = some v) : w.cell? ⟨g, j, none⟩ = some v := (h.cell j).trans hv

set_option maxHeartbeats 4000000 in
set_option maxRecDepth 100000 in
theorem checkItem_any (x : Itm) (_hx : x.data.size ≤ maxLen) (w : World) : Calls Try.prog 31 #[.agg (itA x)] w fun e w' => e = .returned (.int .i64 (ckI x)) ∧ Below w.heap.size w w' := by
  have V1 := Lib.hid (checkId_any x.id)
  have W2 := Lib.hid (within_any x.tick 0 1152921504606846976)
  have W3 := Lib.hid (within_any x.dest 0 15)
  have W4 := Lib.hid (within_any x.exp 1 1099511627776)
  have W5 := Lib.hid (within_any x.prio 0 2)
  have W6 := Lib.hid (within_any x.data.size 1 65536)
  have HV : Hid (ckI x = if vId x.id && wi x.tick 0 1152921504606846976 && wi x.dest 0 15 && wi x.exp 1 1099511627776 && wi x.prio 0 2 then (if wi x.data.size 1 65536 then 0 else 4) else 2) := rfl
  have B0 := Bk.new w 32 (itA x)
  have HB0 : Hid (Below w.heap.size w (w.alloc (.cells (itA x) 32))) := (Below.refl _ _).alloc (Nat.le_refl _) _
  have c1 := B0.at 1 (v := .int .i64 x.id.src) rfl
  have c2 := B0.at 2 (v := .int .i64 x.id.cre) rfl
  have c3 := B0.at 3 (v := .int .i64 x.id.seq) rfl
  have c4 := B0.at 4 (v := .int .i64 x.id.off) rfl
  have c5 := B0.at 5 (v := .int .i64 x.id.tot) rfl
  have HK := Lib.hid B0
  clear B0
  generalize ckI x = res at HV ⊢
  generalize vId x.id = b1 at V1 HV
  generalize wi x.tick 0 1152921504606846976 = b2 at W2 HV
  generalize wi x.dest 0 15 = b3 at W3 HV
  generalize wi x.exp 1 1099511627776 = b4 at W4 HV
  generalize wi x.prio 0 2 = b5 at W5 HV
  generalize hb6 : wi x.data.size 1 65536 = b6 at W6 HV
  have HB6 := Lib.hid hb6
  clear hb6
  cases b1
  · obtain rfl : res = 2 := by rw [HV.out]; rfl
    clear HV
    go_enter Try.func31, Try.ntmps31
    go_wp2_with fail
    clear c1 c2 c3 c4 c5
    refine (V1.out _).mono ?_
    rintro e w1 ⟨rfl, hb1⟩
    replace HK := Lib.hid (HK.out.below hb1 HK.out.lt)
    replace HB0 := Lib.hid (HB0.out.trans (hb1.mono HB0.out.size))
    have c0 := HK.out.at 0 (v := .int .i64 x.tick) rfl
    have c6 := HK.out.at 6 (v := .int .i64 x.dest) rfl
    have c7 := HK.out.at 7 (v := .int .i64 x.exp) rfl
    have c8 := HK.out.at 8 (v := .int .i64 x.prio) rfl
    have c10 := HK.out.at 10 (v := .string x.data) rfl
    clear hb1
    go_wp2
    go_ret
    exact ⟨rfl, HB0.out⟩
  cases b2
  · obtain rfl : res = 2 := by rw [HV.out]; rfl
    clear HV
    go_enter Try.func31, Try.ntmps31
    go_wp2_with fail
    clear c1 c2 c3 c4 c5
    refine (V1.out _).mono ?_
    rintro e w1 ⟨rfl, hb1⟩
    replace HK := Lib.hid (HK.out.below hb1 HK.out.lt)
    replace HB0 := Lib.hid (HB0.out.trans (hb1.mono HB0.out.size))
    have c0 := HK.out.at 0 (v := .int .i64 x.tick) rfl
    have c6 := HK.out.at 6 (v := .int .i64 x.dest) rfl
    have c7 := HK.out.at 7 (v := .int .i64 x.exp) rfl
    have c8 := HK.out.at 8 (v := .int .i64 x.prio) rfl
    have c10 := HK.out.at 10 (v := .string x.data) rfl
    clear hb1
    go_wp2_with fail
    refine (W2.out _).mono ?_
    rintro e w2 ⟨rfl, rfl⟩
    go_wp2
    go_ret
    exact ⟨rfl, HB0.out⟩
  cases b3
  · obtain rfl : res = 2 := by rw [HV.out]; rfl
    clear HV
    go_enter Try.func31, Try.ntmps31
    go_wp2_with fail
    clear c1 c2 c3 c4 c5
    refine (V1.out _).mono ?_
    rintro e w1 ⟨rfl, hb1⟩
    replace HK := Lib.hid (HK.out.below hb1 HK.out.lt)
    replace HB0 := Lib.hid (HB0.out.trans (hb1.mono HB0.out.size))
    have c0 := HK.out.at 0 (v := .int .i64 x.tick) rfl
    have c6 := HK.out.at 6 (v := .int .i64 x.dest) rfl
    have c7 := HK.out.at 7 (v := .int .i64 x.exp) rfl
    have c8 := HK.out.at 8 (v := .int .i64 x.prio) rfl
    have c10 := HK.out.at 10 (v := .string x.data) rfl
    clear hb1
    go_wp2_with fail
    refine (W2.out _).mono ?_
    rintro e w2 ⟨rfl, rfl⟩
    go_wp2_with fail
    refine (W3.out _).mono ?_
    rintro e w2 ⟨rfl, rfl⟩
    go_wp2
    go_ret
    exact ⟨rfl, HB0.out⟩
  cases b4
  · obtain rfl : res = 2 := by rw [HV.out]; rfl
    clear HV
    go_enter Try.func31, Try.ntmps31
    go_wp2_with fail
    clear c1 c2 c3 c4 c5
    refine (V1.out _).mono ?_
    rintro e w1 ⟨rfl, hb1⟩
    replace HK := Lib.hid (HK.out.below hb1 HK.out.lt)
    replace HB0 := Lib.hid (HB0.out.trans (hb1.mono HB0.out.size))
    have c0 := HK.out.at 0 (v := .int .i64 x.tick) rfl
    have c6 := HK.out.at 6 (v := .int .i64 x.dest) rfl
    have c7 := HK.out.at 7 (v := .int .i64 x.exp) rfl
    have c8 := HK.out.at 8 (v := .int .i64 x.prio) rfl
    have c10 := HK.out.at 10 (v := .string x.data) rfl
    clear hb1
    go_wp2_with fail
    refine (W2.out _).mono ?_
    rintro e w2 ⟨rfl, rfl⟩
    go_wp2_with fail
    refine (W3.out _).mono ?_
    rintro e w2 ⟨rfl, rfl⟩
    go_wp2_with fail
    refine (W4.out _).mono ?_
    rintro e w2 ⟨rfl, rfl⟩
    go_wp2
    go_ret
    exact ⟨rfl, HB0.out⟩
  cases b5
  · obtain rfl : res = 2 := by rw [HV.out]; rfl
    clear HV
    go_enter Try.func31, Try.ntmps31
    go_wp2_with fail
    clear c1 c2 c3 c4 c5
    refine (V1.out _).mono ?_
    rintro e w1 ⟨rfl, hb1⟩
    replace HK := Lib.hid (HK.out.below hb1 HK.out.lt)
    replace HB0 := Lib.hid (HB0.out.trans (hb1.mono HB0.out.size))
    have c0 := HK.out.at 0 (v := .int .i64 x.tick) rfl
    have c6 := HK.out.at 6 (v := .int .i64 x.dest) rfl
    have c7 := HK.out.at 7 (v := .int .i64 x.exp) rfl
    have c8 := HK.out.at 8 (v := .int .i64 x.prio) rfl
    have c10 := HK.out.at 10 (v := .string x.data) rfl
    clear hb1
    go_wp2_with fail
    refine (W2.out _).mono ?_
    rintro e w2 ⟨rfl, rfl⟩
    go_wp2_with fail
    refine (W3.out _).mono ?_
    rintro e w2 ⟨rfl, rfl⟩
    go_wp2_with fail
    refine (W4.out _).mono ?_
    rintro e w2 ⟨rfl, rfl⟩
    go_wp2_with fail
    refine (W5.out _).mono ?_
    rintro e w2 ⟨rfl, rfl⟩
    go_wp2
    go_ret
    exact ⟨rfl, HB0.out⟩
  cases b6
  · obtain rfl : res = 4 := by rw [HV.out]; rfl
    clear HV
    go_enter Try.func31, Try.ntmps31
    go_wp2_with fail
    clear c1 c2 c3 c4 c5
    refine (V1.out _).mono ?_
    rintro e w1 ⟨rfl, hb1⟩
    replace HK := Lib.hid (HK.out.below hb1 HK.out.lt)
    replace HB0 := Lib.hid (HB0.out.trans (hb1.mono HB0.out.size))
    have c0 := HK.out.at 0 (v := .int .i64 x.tick) rfl
    have c6 := HK.out.at 6 (v := .int .i64 x.dest) rfl
    have c7 := HK.out.at 7 (v := .int .i64 x.exp) rfl
    have c8 := HK.out.at 8 (v := .int .i64 x.prio) rfl
    have c10 := HK.out.at 10 (v := .string x.data) rfl
    clear hb1
    go_wp2_with fail
    refine (W2.out _).mono ?_
    rintro e w2 ⟨rfl, rfl⟩
    go_wp2_with fail
    refine (W3.out _).mono ?_
    rintro e w2 ⟨rfl, rfl⟩
    go_wp2_with fail
    refine (W4.out _).mono ?_
    rintro e w2 ⟨rfl, rfl⟩
    go_wp2_with fail
    refine (W5.out _).mono ?_
    rintro e w2 ⟨rfl, rfl⟩
    go_wp2_with fail
    refine (W6.out _).mono ?_
    rintro e w2 ⟨rfl, rfl⟩
    go_wp2
    go_ret
    exact ⟨rfl, HB0.out⟩
  · obtain rfl : res = 0 := by rw [HV.out]; rfl
    clear HV
    go_enter Try.func31, Try.ntmps31
    go_wp2_with fail
    clear c1 c2 c3 c4 c5
    refine (V1.out _).mono ?_
    rintro e w1 ⟨rfl, hb1⟩
    replace HK := Lib.hid (HK.out.below hb1 HK.out.lt)
    replace HB0 := Lib.hid (HB0.out.trans (hb1.mono HB0.out.size))
    have c0 := HK.out.at 0 (v := .int .i64 x.tick) rfl
    have c6 := HK.out.at 6 (v := .int .i64 x.dest) rfl
    have c7 := HK.out.at 7 (v := .int .i64 x.exp) rfl
    have c8 := HK.out.at 8 (v := .int .i64 x.prio) rfl
    have c10 := HK.out.at 10 (v := .string x.data) rfl
    clear hb1
    go_wp2_with fail
    refine (W2.out _).mono ?_
    rintro e w2 ⟨rfl, rfl⟩
    go_wp2_with fail
    refine (W3.out _).mono ?_
    rintro e w2 ⟨rfl, rfl⟩
    go_wp2_with fail
    refine (W4.out _).mono ?_
    rintro e w2 ⟨rfl, rfl⟩
    go_wp2_with fail
    refine (W5.out _).mono ?_
    rintro e w2 ⟨rfl, rfl⟩
    go_wp2_with fail
    refine (W6.out _).mono ?_
    rintro e w2 ⟨rfl, rfl⟩
    go_wp2
    go_ret
    exact ⟨rfl, HB0.out⟩
set_option maxHeartbeats 4000000 in
set_option maxRecDepth 100000 in
theorem checkItemR_any (x : Itm) (hx : x.data.size ≤ maxLen) (w : World) : Calls Try.prog 43 #[.agg (itA x)] w fun e w' => e = .returned (.int .i64 (ckI x)) ∧ Below w.heap.size w w' := by
  unfold maxLen at hx
  have V1 := Lib.hid (validId_any x.id)
  have W2 := Lib.hid (in_any x.tick 0 1152921504606846976)
  have W3 := Lib.hid (in_any x.dest 0 15)
  have W4 := Lib.hid (in_any x.exp 1 1099511627776)
  have W5 := Lib.hid (in_any x.prio 0 2)
  have W6 := Lib.hid (in_any x.data.size 1 65536)
  have HV : Hid (ckI x = if vId x.id && wi x.tick 0 1152921504606846976 && wi x.dest 0 15 && wi x.exp 1 1099511627776 && wi x.prio 0 2 then (if wi x.data.size 1 65536 then 0 else 4) else 2) := rfl
  have B0 := Bk.new w 32 (itA x)
  have HB0 : Hid (Below w.heap.size w (w.alloc (.cells (itA x) 32))) := (Below.refl _ _).alloc (Nat.le_refl _) _
  have c1 := B0.at 1 (v := .int .i64 x.id.src) rfl
  have c2 := B0.at 2 (v := .int .i64 x.id.cre) rfl
  have c3 := B0.at 3 (v := .int .i64 x.id.seq) rfl
  have c4 := B0.at 4 (v := .int .i64 x.id.off) rfl
  have c5 := B0.at 5 (v := .int .i64 x.id.tot) rfl
  have HK := Lib.hid B0
  clear B0
  generalize ckI x = res at HV ⊢
  generalize vId x.id = b1 at V1 HV
  generalize wi x.tick 0 1152921504606846976 = b2 at W2 HV
  generalize wi x.dest 0 15 = b3 at W3 HV
  generalize wi x.exp 1 1099511627776 = b4 at W4 HV
  generalize wi x.prio 0 2 = b5 at W5 HV
  generalize hb6 : wi x.data.size 1 65536 = b6 at W6 HV
  have HB6 := Lib.hid hb6
  clear hb6
  cases b1
  · obtain rfl : res = 2 := by rw [HV.out]; rfl
    clear HV
    go_enter Try.func43, Try.ntmps43
    go_wp2_with fail
    clear c1 c2 c3 c4 c5
    refine (V1.out _).mono ?_
    rintro e w1 ⟨rfl, hb1⟩
    replace HK := Lib.hid (HK.out.below hb1 HK.out.lt)
    replace HB0 := Lib.hid (HB0.out.trans (hb1.mono HB0.out.size))
    have c0 := HK.out.at 0 (v := .int .i64 x.tick) rfl
    have c6 := HK.out.at 6 (v := .int .i64 x.dest) rfl
    have c7 := HK.out.at 7 (v := .int .i64 x.exp) rfl
    have c8 := HK.out.at 8 (v := .int .i64 x.prio) rfl
    have c10 := HK.out.at 10 (v := .string x.data) rfl
    clear hb1
    go_wp2
    go_ret
    exact ⟨rfl, HB0.out⟩
  cases b2
  · obtain rfl : res = 2 := by rw [HV.out]; rfl
    clear HV
    go_enter Try.func43, Try.ntmps43
    go_wp2_with fail
    clear c1 c2 c3 c4 c5
    refine (V1.out _).mono ?_
    rintro e w1 ⟨rfl, hb1⟩
    replace HK := Lib.hid (HK.out.below hb1 HK.out.lt)
    replace HB0 := Lib.hid (HB0.out.trans (hb1.mono HB0.out.size))
    have c0 := HK.out.at 0 (v := .int .i64 x.tick) rfl
    have c6 := HK.out.at 6 (v := .int .i64 x.dest) rfl
    have c7 := HK.out.at 7 (v := .int .i64 x.exp) rfl
    have c8 := HK.out.at 8 (v := .int .i64 x.prio) rfl
    have c10 := HK.out.at 10 (v := .string x.data) rfl
    clear hb1
    go_wp2_with fail
    refine (W2.out _).mono ?_
    rintro e w2 ⟨rfl, rfl⟩
    go_wp2
    go_ret
    exact ⟨rfl, HB0.out⟩
  cases b3
  · obtain rfl : res = 2 := by rw [HV.out]; rfl
    clear HV
    go_enter Try.func43, Try.ntmps43
    go_wp2_with fail
    clear c1 c2 c3 c4 c5
    refine (V1.out _).mono ?_
    rintro e w1 ⟨rfl, hb1⟩
    replace HK := Lib.hid (HK.out.below hb1 HK.out.lt)
    replace HB0 := Lib.hid (HB0.out.trans (hb1.mono HB0.out.size))
    have c0 := HK.out.at 0 (v := .int .i64 x.tick) rfl
    have c6 := HK.out.at 6 (v := .int .i64 x.dest) rfl
    have c7 := HK.out.at 7 (v := .int .i64 x.exp) rfl
    have c8 := HK.out.at 8 (v := .int .i64 x.prio) rfl
    have c10 := HK.out.at 10 (v := .string x.data) rfl
    clear hb1
    go_wp2_with fail
    refine (W2.out _).mono ?_
    rintro e w2 ⟨rfl, rfl⟩
    go_wp2_with fail
    refine (W3.out _).mono ?_
    rintro e w2 ⟨rfl, rfl⟩
    go_wp2
    go_ret
    exact ⟨rfl, HB0.out⟩
  cases b4
  · obtain rfl : res = 2 := by rw [HV.out]; rfl
    clear HV
    go_enter Try.func43, Try.ntmps43
    go_wp2_with fail
    clear c1 c2 c3 c4 c5
    refine (V1.out _).mono ?_
    rintro e w1 ⟨rfl, hb1⟩
    replace HK := Lib.hid (HK.out.below hb1 HK.out.lt)
    replace HB0 := Lib.hid (HB0.out.trans (hb1.mono HB0.out.size))
    have c0 := HK.out.at 0 (v := .int .i64 x.tick) rfl
    have c6 := HK.out.at 6 (v := .int .i64 x.dest) rfl
    have c7 := HK.out.at 7 (v := .int .i64 x.exp) rfl
    have c8 := HK.out.at 8 (v := .int .i64 x.prio) rfl
    have c10 := HK.out.at 10 (v := .string x.data) rfl
    clear hb1
    go_wp2_with fail
    refine (W2.out _).mono ?_
    rintro e w2 ⟨rfl, rfl⟩
    go_wp2_with fail
    refine (W3.out _).mono ?_
    rintro e w2 ⟨rfl, rfl⟩
    go_wp2_with fail
    refine (W4.out _).mono ?_
    rintro e w2 ⟨rfl, rfl⟩
    go_wp2
    go_ret
    exact ⟨rfl, HB0.out⟩
  cases b5
  · obtain rfl : res = 2 := by rw [HV.out]; rfl
    clear HV
    go_enter Try.func43, Try.ntmps43
    go_wp2_with fail
    clear c1 c2 c3 c4 c5
    refine (V1.out _).mono ?_
    rintro e w1 ⟨rfl, hb1⟩
    replace HK := Lib.hid (HK.out.below hb1 HK.out.lt)
    replace HB0 := Lib.hid (HB0.out.trans (hb1.mono HB0.out.size))
    have c0 := HK.out.at 0 (v := .int .i64 x.tick) rfl
    have c6 := HK.out.at 6 (v := .int .i64 x.dest) rfl
    have c7 := HK.out.at 7 (v := .int .i64 x.exp) rfl
    have c8 := HK.out.at 8 (v := .int .i64 x.prio) rfl
    have c10 := HK.out.at 10 (v := .string x.data) rfl
    clear hb1
    go_wp2_with fail
    refine (W2.out _).mono ?_
    rintro e w2 ⟨rfl, rfl⟩
    go_wp2_with fail
    refine (W3.out _).mono ?_
    rintro e w2 ⟨rfl, rfl⟩
    go_wp2_with fail
    refine (W4.out _).mono ?_
    rintro e w2 ⟨rfl, rfl⟩
    go_wp2_with fail
    refine (W5.out _).mono ?_
    rintro e w2 ⟨rfl, rfl⟩
    go_wp2
    go_ret
    exact ⟨rfl, HB0.out⟩
  by_cases s1 : x.data.size < 1
  · obtain rfl : b6 = false := by rw [← HB6.out]; simp [wi]; omega
    obtain rfl : res = 4 := by rw [HV.out]; rfl
    clear HV
    go_enter Try.func43, Try.ntmps43
    go_wp2_with fail
    clear c1 c2 c3 c4 c5
    refine (V1.out _).mono ?_
    rintro e w1 ⟨rfl, hb1⟩
    replace HK := Lib.hid (HK.out.below hb1 HK.out.lt)
    replace HB0 := Lib.hid (HB0.out.trans (hb1.mono HB0.out.size))
    have c0 := HK.out.at 0 (v := .int .i64 x.tick) rfl
    have c6 := HK.out.at 6 (v := .int .i64 x.dest) rfl
    have c7 := HK.out.at 7 (v := .int .i64 x.exp) rfl
    have c8 := HK.out.at 8 (v := .int .i64 x.prio) rfl
    have c10 := HK.out.at 10 (v := .string x.data) rfl
    clear hb1
    go_wp2_with fail
    refine (W2.out _).mono ?_
    rintro e w2 ⟨rfl, rfl⟩
    go_wp2_with fail
    refine (W3.out _).mono ?_
    rintro e w2 ⟨rfl, rfl⟩
    go_wp2_with fail
    refine (W4.out _).mono ?_
    rintro e w2 ⟨rfl, rfl⟩
    go_wp2_with fail
    refine (W5.out _).mono ?_
    rintro e w2 ⟨rfl, rfl⟩
    go_wp2
    go_ret
    exact ⟨rfl, HB0.out⟩
  by_cases s2 : 65536 < x.data.size
  · obtain rfl : b6 = false := by rw [← HB6.out]; simp [wi]; omega
    obtain rfl : res = 4 := by rw [HV.out]; rfl
    clear HV
    go_enter Try.func43, Try.ntmps43
    go_wp2_with fail
    clear c1 c2 c3 c4 c5
    refine (V1.out _).mono ?_
    rintro e w1 ⟨rfl, hb1⟩
    replace HK := Lib.hid (HK.out.below hb1 HK.out.lt)
    replace HB0 := Lib.hid (HB0.out.trans (hb1.mono HB0.out.size))
    have c0 := HK.out.at 0 (v := .int .i64 x.tick) rfl
    have c6 := HK.out.at 6 (v := .int .i64 x.dest) rfl
    have c7 := HK.out.at 7 (v := .int .i64 x.exp) rfl
    have c8 := HK.out.at 8 (v := .int .i64 x.prio) rfl
    have c10 := HK.out.at 10 (v := .string x.data) rfl
    clear hb1
    go_wp2_with fail
    refine (W2.out _).mono ?_
    rintro e w2 ⟨rfl, rfl⟩
    go_wp2_with fail
    refine (W3.out _).mono ?_
    rintro e w2 ⟨rfl, rfl⟩
    go_wp2_with fail
    refine (W4.out _).mono ?_
    rintro e w2 ⟨rfl, rfl⟩
    go_wp2_with fail
    refine (W5.out _).mono ?_
    rintro e w2 ⟨rfl, rfl⟩
    go_wp2
    go_ret
    exact ⟨rfl, HB0.out⟩
  · obtain rfl : b6 = true := by rw [← HB6.out]; simp [wi]; omega
    obtain rfl : res = 0 := by rw [HV.out]; rfl
    clear HV
    go_enter Try.func43, Try.ntmps43
    go_wp2_with fail
    clear c1 c2 c3 c4 c5
    refine (V1.out _).mono ?_
    rintro e w1 ⟨rfl, hb1⟩
    replace HK := Lib.hid (HK.out.below hb1 HK.out.lt)
    replace HB0 := Lib.hid (HB0.out.trans (hb1.mono HB0.out.size))
    have c0 := HK.out.at 0 (v := .int .i64 x.tick) rfl
    have c6 := HK.out.at 6 (v := .int .i64 x.dest) rfl
    have c7 := HK.out.at 7 (v := .int .i64 x.exp) rfl
    have c8 := HK.out.at 8 (v := .int .i64 x.prio) rfl
    have c10 := HK.out.at 10 (v := .string x.data) rfl
    clear hb1
    go_wp2_with fail
    refine (W2.out _).mono ?_
    rintro e w2 ⟨rfl, rfl⟩
    go_wp2_with fail
    refine (W3.out _).mono ?_
    rintro e w2 ⟨rfl, rfl⟩
    go_wp2_with fail
    refine (W4.out _).mono ?_
    rintro e w2 ⟨rfl, rfl⟩
    go_wp2_with fail
    refine (W5.out _).mono ?_
    rintro e w2 ⟨rfl, rfl⟩
    go_wp2
    go_ret
    exact ⟨rfl, HB0.out⟩
end Go.Proofs.Ytlknjdfiedkhbaa
