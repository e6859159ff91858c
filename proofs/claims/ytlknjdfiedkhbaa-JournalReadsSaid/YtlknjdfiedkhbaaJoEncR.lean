/- idNumbers, bit and Encode of the reference, walked. Condition: a length below the model's greatest. -/
import Derived.Test.YtlknjdfiedkhbaaJoEnc
import Derived.Test.YtlknjdfiedkhbaaJoChkR
import Derived.Test.YtlknjdfiedkhbaaCrcW
import Derived.Test.YtlknjdfiedkhbaaViW
import Derived.Deep.RegionHeld3
import Derived.Deep.DeepCutAuto
import Derived.Deep.DrawnRows
namespace Go.Proofs.Ytlknjdfiedkhbaa
open Go Go.RowKit
open Jo (RId Itm Rec wi vId ckI ck zId zIt idA itA rcA)
attribute [-simp] Try.isAgg34 Try.sizeOf34 Try.typeInfo34
attribute [local go_sem ↓] Go.wp_at_zero Go.wp_at_succ

theorem bit_any (b : Bool) (w : World) : Calls Try.prog 39 #[.bool b] w fun e w' => e = .returned (.int .i64 (if b then 1 else 0)) ∧ w = w' := by
  cases b
  · go_enter Try.func39, Try.ntmps39
    go_wp2
    go_ret
    exact ⟨rfl, rfl⟩
  · go_enter Try.func39, Try.ntmps39
    go_wp2
    go_ret
    exact ⟨rfl, rfl⟩

set_option maxHeartbeats 1000000 in
theorem idNumbers_any (x : RId) (w : World) : Calls Try.prog 38 #[.agg (idA x)] w fun e w' => e = .returned (.string (str (numL (idN x)))) ∧ Below w.heap.size w w' := by
  obtain ⟨src, cre, seq, off, tot⟩ := x
  change Calls _ _ #[.agg #[.int .i64 src, .int .i64 cre, .int .i64 seq, .int .i64 off, .int .i64 tot]] w _
  have HB0 : Hid (Below w.heap.size w (w.alloc (.cells #[.int .i64 src, .int .i64 cre, .int .i64 seq, .int .i64 off, .int .i64 tot] 30))) := (Below.refl _ _).alloc (Nat.le_refl _) _
  have hI := ints_lit (w.alloc (.cells #[.int .i64 src, .int .i64 cre, .int .i64 seq, .int .i64 off, .int .i64 tot] 30)) [src, cre, seq, off, tot] 3
  rw [World.size_alloc] at hI
  have HI := Lib.hid hI
  clear hI
  go_enter Try.func38, Try.ntmps38
  go_wp2_with fail
  refine (numbersR_any _ _ [src, cre, seq, off, tot] _ HI.out (Nat.le_of_ble_eq_true rfl)).mono ?_
  rintro e w1 ⟨rfl, hb1⟩
  replace HB0 := Lib.hid (HB0.out.trans ((below_box1 hb1).mono HB0.out.size))
  clear hb1
  go_wp2
  go_ret
  exact ⟨rfl, HB0.out⟩

set_option maxHeartbeats 8000000 in
set_option maxRecDepth 100000 in
theorem encodeR_a (r : Rec) (w : World) (q : Int) (hq : (q != 0) = true) (C1 : Hid (∀ w, Calls Try.prog 21 #[.agg (rcA r)] w fun e w' => e = .returned (.int .i64 q) ∧ Below w.heap.size w w')) (HR : Hid (recL r = [] ∧ recE r = q)) : Calls Try.prog 20 #[.agg (rcA r)] w fun e w' => e = .returned (.tuple #[.string (str (recL r)), .int .i64 (recE r)]) ∧ Below w.heap.size w w' := by
  have B0 := Bk.new w 34 (rcA r)
  have HB0 : Hid (Below w.heap.size w (w.alloc (.cells (rcA r) 34))) := (Below.refl _ _).alloc (Nat.le_refl _) _
  have hlc := loadCells_bk (P := Try.prog) B0 (Jo.rcA_size r)
  have HK := Lib.hid B0
  clear B0
  go_enter Try.func20, Try.ntmps20
  go_wp2_with fail
  generalize w.alloc (.cells (rcA r) 34) = W0 at HB0 HK hlc ⊢
  simp only [Try.isAgg34, Try.sizeOf34, Result.andThen, ↓reduceIte, hlc]
  rw [Oper.upon_value]
  clear hlc
  go_wp2_with fail
  refine (C1.out _).mono ?_
  rintro e w1 ⟨rfl, hb1⟩
  replace HK := Lib.hid (HK.out.below hb1 HK.out.lt)
  replace HB0 := Lib.hid (HB0.out.trans (hb1.mono HB0.out.size))
  clear hb1
  go_wp2
  go_ret2
  exact ⟨two_e (by rw [HR.out.1]; rfl) HR.out.2.symm, HB0.out⟩

set_option maxHeartbeats 8000000 in
set_option maxRecDepth 100000 in
theorem encodeR_k2 (r : Rec) (w : World) (hk : Hid (r.kind = 2)) (C1 : Hid (∀ w, Calls Try.prog 21 #[.agg (rcA r)] w fun e w' => e = .returned (.int .i64 0) ∧ Below w.heap.size w w')) (Z : Hid (∀ w, Calls Try.prog 41 #[.string (str (bodyL r))] w fun e w' => e = .returned (.tuple #[.string (str (sealL (bodyL r))), .int .i64 (sealE (bodyL r))]) ∧ Below w.heap.size w w')) (HR : Hid (str (recL r) = str (sealL (bodyL r)) ∧ recE r = sealE (bodyL r))) : Calls Try.prog 20 #[.agg (rcA r)] w fun e w' => e = .returned (.tuple #[.string (str (recL r)), .int .i64 (recE r)]) ∧ Below w.heap.size w w' := by
  have B0 := Bk.new w 34 (rcA r)
  have HB0 : Hid (Below w.heap.size w (w.alloc (.cells (rcA r) 34))) := (Below.refl _ _).alloc (Nat.le_refl _) _
  have hlc := loadCells_bk (P := Try.prog) B0 (Jo.rcA_size r)
  have HK := Lib.hid B0
  clear B0
  go_enter Try.func20, Try.ntmps20
  go_wp2_with fail
  generalize w.alloc (.cells (rcA r) 34) = W0 at HB0 HK hlc ⊢
  simp only [Try.isAgg34, Try.sizeOf34, Result.andThen, ↓reduceIte, hlc]
  rw [Oper.upon_value]
  clear hlc
  go_wp2_with fail
  refine (C1.out _).mono ?_
  rintro e w1 ⟨rfl, hb1⟩
  replace HK := Lib.hid (HK.out.below hb1 HK.out.lt)
  replace HB0 := Lib.hid (HB0.out.trans (hb1.mono HB0.out.size))
  clear hb1
  have c0 := HK.out.at 0 (v := .int .i64 r.kind) rfl
  have c18 := HK.out.at 18 (v := .int .i64 r.time) rfl
  go_wp2_with fail
  refine (numbersR_any _ _ [r.kind, r.time] _ (ints_lit w1 [r.kind, r.time] 3) (Nat.le_of_ble_eq_true rfl)).mono ?_
  rintro e w1 ⟨rfl, hb1⟩
  replace hb1 := below_box1 hb1
  clear c0 c18
  replace HK := Lib.hid (HK.out.below hb1 HK.out.lt)
  replace HB0 := Lib.hid (HB0.out.trans (hb1.mono HB0.out.size))
  clear hb1
  have s1 : (str (numL [r.kind, r.time])).size ≤ 18 := by rw [str_size]; exact numL_len [r.kind, r.time]
  generalize hS1 : str (numL [r.kind, r.time]) = S1 at s1 ⊢
  have HS1 := Lib.hid hS1
  clear hS1
  have c0 := HK.out.at 0 (v := .int .i64 r.kind) rfl
  have c12 := HK.out.at 12 (v := .int .i64 r.id.src) rfl
  have c13 := HK.out.at 13 (v := .int .i64 r.id.cre) rfl
  have c14 := HK.out.at 14 (v := .int .i64 r.id.seq) rfl
  have c15 := HK.out.at 15 (v := .int .i64 r.id.off) rfl
  have c16 := HK.out.at 16 (v := .int .i64 r.id.tot) rfl
  rw [hk.out] at c0
  go_wp2_with fail
  refine (idNumbers_any r.id _).mono ?_
  rintro e w1 ⟨rfl, hb1⟩
  clear c0 c12 c13 c14 c15 c16
  replace HK := Lib.hid (HK.out.below hb1 HK.out.lt)
  replace HB0 := Lib.hid (HB0.out.trans (hb1.mono HB0.out.size))
  clear hb1
  have s2 : (str (numL (idN r.id))).size ≤ 45 := by rw [str_size]; exact numL_len (idN r.id)
  generalize hS2 : str (numL (idN r.id)) = S2 at s2 ⊢
  have hsz : S1.size + S2.size ≤ 200 := by omega
  have hcat : S1 ++ S2 = str (bodyL r) := by rw [← HS1.out, ← hS2, str_append, body_two hk.out]
  clear hS2
  go_wp2_with fail
  refine (Z.out _).mono ?_
  rintro e w1 ⟨rfl, hb1⟩
  replace HK := Lib.hid (HK.out.below hb1 HK.out.lt)
  replace HB0 := Lib.hid (HB0.out.trans (hb1.mono HB0.out.size))
  clear hb1
  generalize str (sealL (bodyL r)) = F at HR ⊢
  generalize sealE (bodyL r) = E at HR ⊢
  go_wp2
  go_ret2
  exact ⟨two_e HR.out.1.symm HR.out.2.symm, HB0.out⟩

/-- what the drawn region keeps -/
theorem keepB {w W W' : World} (hb : Below W.heap.size W W') (h : Below w.heap.size w W) : Below w.heap.size w W' := h.trans (hb.mono h.size)
theorem keepA {w W : World} {o : Obj} (h : Below w.heap.size w W) : Below w.heap.size w (W.alloc o) := h.alloc h.size o
theorem IntsAt.alloc {w : World} {A : Option Addr} {l : List Int} (h : IntsAt w A l) (o : Obj) : IntsAt (w.alloc o) A l := h.below ((Below.refl _ _).alloc (Nat.le_refl _) o)
theorem IntsAt.drew1 {w : World} {A : Option Addr} {l : List Int} (h : IntsAt w A l) : IntsAt w.drew A l := h
theorem IntsAt.belowF {w w' : World} {A : Option Addr} {l : List Int} (hb : Below w.heap.size w w') (h : IntsAt w A l) : IntsAt w' A l := h.below hb
theorem keepC {W W' : World} {a : Addr} {v : Value} (hb : Below W.heap.size W W') (h : W.cell? a = some v) : W'.cell? a = some v := (hb.cell (World.block_lt_of_cell? _ _ h)).trans h
theorem keepD {W : World} {o : Obj} {a : Addr} {v : Value} (h : W.cell? a = some v) : (W.alloc o).cell? a = some v := (((Below.refl W.heap.size W).alloc (Nat.le_refl _) o).cell (World.block_lt_of_cell? _ _ h)).trans h
set_option maxHeartbeats 8000000 in
set_option maxRecDepth 100000 in
theorem encodeR_k4 (r : Rec) (w : World) (hk : Hid (r.kind = 4)) (C1 : Hid (∀ w, Calls Try.prog 21 #[.agg (rcA r)] w fun e w' => e = .returned (.int .i64 0) ∧ Below w.heap.size w w')) (Z : Hid (∀ w, Calls Try.prog 41 #[.string (str (bodyL r))] w fun e w' => e = .returned (.tuple #[.string (str (sealL (bodyL r))), .int .i64 (sealE (bodyL r))]) ∧ Below w.heap.size w w')) (HR : Hid (str (recL r) = str (sealL (bodyL r)) ∧ recE r = sealE (bodyL r))) : Calls Try.prog 20 #[.agg (rcA r)] w fun e w' => e = .returned (.tuple #[.string (str (recL r)), .int .i64 (recE r)]) ∧ Below w.heap.size w w' := by
  have B0 := Bk.new w 34 (rcA r)
  have HB0 : Hid (Below w.heap.size w (w.alloc (.cells (rcA r) 34))) := (Below.refl _ _).alloc (Nat.le_refl _) _
  have hlc := loadCells_bk (P := Try.prog) B0 (Jo.rcA_size r)
  have HK := Lib.hid B0
  clear B0
  go_enter Try.func20, Try.ntmps20
  go_wp2_with fail
  generalize w.alloc (.cells (rcA r) 34) = W0 at HB0 HK hlc ⊢
  simp only [Try.isAgg34, Try.sizeOf34, Result.andThen, ↓reduceIte, hlc]
  rw [Oper.upon_value]
  clear hlc
  go_wp2_with fail
  refine (C1.out _).mono ?_
  rintro e w1 ⟨rfl, hb1⟩
  replace HK := Lib.hid (HK.out.below hb1 HK.out.lt)
  replace HB0 := Lib.hid (HB0.out.trans (hb1.mono HB0.out.size))
  clear hb1
  have c0 := HK.out.at 0 (v := .int .i64 r.kind) rfl
  have c18 := HK.out.at 18 (v := .int .i64 r.time) rfl
  go_wp2_with fail
  refine (numbersR_any _ _ [r.kind, r.time] _ (ints_lit w1 [r.kind, r.time] 3) (Nat.le_of_ble_eq_true rfl)).mono ?_
  rintro e w1 ⟨rfl, hb1⟩
  replace hb1 := below_box1 hb1
  clear c0 c18
  replace HK := Lib.hid (HK.out.below hb1 HK.out.lt)
  replace HB0 := Lib.hid (HB0.out.trans (hb1.mono HB0.out.size))
  clear hb1
  have s1 : (str (numL [r.kind, r.time])).size ≤ 18 := by rw [str_size]; exact numL_len [r.kind, r.time]
  generalize hS1 : str (numL [r.kind, r.time]) = S1 at s1 ⊢
  have HS1 := Lib.hid hS1
  clear hS1
  have c0 := HK.out.at 0 (v := .int .i64 r.kind) rfl
  have c12 := HK.out.at 12 (v := .int .i64 r.id.src) rfl
  have c13 := HK.out.at 13 (v := .int .i64 r.id.cre) rfl
  have c14 := HK.out.at 14 (v := .int .i64 r.id.seq) rfl
  have c15 := HK.out.at 15 (v := .int .i64 r.id.off) rfl
  have c16 := HK.out.at 16 (v := .int .i64 r.id.tot) rfl
  have c17 := HK.out.at 17 (v := .int .i64 r.tick) rfl
  rw [hk.out] at c0
  have HI : Hid (∀ (A : Option Addr) (w1 : World), IntsAt w1 A [r.tick] → Calls Try.prog 37 #[.slice A 1 1] w1 fun e w' => e = .returned (.string (str (numL [r.tick]))) ∧ Below w1.heap.size w1 w') := fun A w1 h => numbersR_any A 1 [r.tick] w1 h (Nat.le_of_ble_eq_true rfl)
  have HD := Lib.hid (idNumbers_any r.id)
  have s2 : (str (numL (idN r.id))).size ≤ 45 := by rw [str_size]; exact numL_len (idN r.id)
  have s3 : (str (numL [r.tick])).size ≤ 9 := by rw [str_size]; exact numL_len [r.tick]
  generalize hS2 : str (numL (idN r.id)) = S2 at s2 HD
  generalize hS3 : str (numL [r.tick]) = S3 at s3 HI
  have hbw := HB0.out
  go_wp2
  have hsz : (9223372036854775807 < S1.size + S2.size) = False := by simp; omega
  have hsz2 : (9223372036854775807 < S1.size + S2.size + S3.size) = False := by simp; omega
  go_region_held3 (fun w' => w'.cell? ⟨w.heap.size, 12, none⟩ = some (.int .i64 r.id.src) ∧ w'.cell? ⟨w.heap.size, 13, none⟩ = some (.int .i64 r.id.cre) ∧ w'.cell? ⟨w.heap.size, 14, none⟩ = some (.int .i64 r.id.seq) ∧ w'.cell? ⟨w.heap.size, 15, none⟩ = some (.int .i64 r.id.off) ∧ w'.cell? ⟨w.heap.size, 16, none⟩ = some (.int .i64 r.id.tot) ∧ w'.cell? ⟨w.heap.size, 17, none⟩ = some (.int .i64 r.tick) ∧ Below w.heap.size w w') (((try go_split_ands); (try refine ⟨?_, ?_, ?_, ?_, ?_, ?_, ?_⟩) <;> (first | assumption | (exact keepC (by assumption) (by assumption)) | (exact keepD (by assumption)) | (exact keepB (by assumption) (by assumption)) | (exact keepA (by assumption)) | (exact Below.drew (by assumption)) | (simp [*]; done) | (simp; omega))))
    (first | (go_at_call 38; refine (HD.out _).mono ?_; rintro e w2 ⟨rfl, hbq⟩) | (go_at_call 37; (with_reducible show Calls _ _ #[Value.slice _ 1 1] _ _); refine (HI.out _ _ ?_).mono ?_; (focus (repeat (first | (with_reducible refine IntsAt.drew1 ?_) | ((with_reducible show IntsAt (World.alloc _ _) _ _); exact ints_lit _ [r.tick] _) | (refine IntsAt.belowF hbq ?_) | (with_reducible refine IntsAt.alloc ?_ _)))); rintro e w2 ⟨rfl, hbq⟩))
  all_goals
    have hcat : S1 ++ S2 ++ S3 = str (bodyL r) := by rw [← HS1.out, ← hS2, ← hS3, str_append, str_append, body_four hk.out]
    clear hS2 hS3 hsz hsz2
    have HBF : Hid (Below w.heap.size w w2) := by
      show Below _ _ _
      repeat first | assumption | (refine keepB (by assumption) ?_) | (refine keepA ?_) | (refine Below.drew ?_)
    go_wp2_with fail
    refine (Z.out _).mono ?_
    rintro e w3 ⟨rfl, hb3⟩
    replace HBF := Lib.hid (HBF.out.trans (hb3.mono HBF.out.size))
    clear hb3
    generalize str (sealL (bodyL r)) = F at HR ⊢
    generalize sealE (bodyL r) = E at HR ⊢
    go_wp2
    go_ret2
    exact ⟨two_e HR.out.1.symm HR.out.2.symm, HBF.out⟩

set_option maxHeartbeats 8000000 in
set_option maxRecDepth 100000 in
theorem encodeR_k13 (r : Rec) (w : World) (hk : Hid (r.kind = 1 ∨ r.kind = 3)) (hk1 : (r.kind == 2) = false) (hk2 : (r.kind == 4) = false) (T : List UInt8) (hT : T.length ≤ 65545) (HT : Hid (Vi.textL r.item.data.data.toList = T))
    (X : Hid (∀ w, Calls Try.prog 40 #[.string r.item.data] w fun e w' => e = .returned (.tuple #[.string (str T), .int .i64 0]) ∧ Below w.heap.size w w'))
    (C1 : Hid (∀ w, Calls Try.prog 21 #[.agg (rcA r)] w fun e w' => e = .returned (.int .i64 0) ∧ Below w.heap.size w w')) (Z : Hid (∀ w, Calls Try.prog 41 #[.string (str (bodyL r))] w fun e w' => e = .returned (.tuple #[.string (str (sealL (bodyL r))), .int .i64 (sealE (bodyL r))]) ∧ Below w.heap.size w w')) (HR : Hid (str (recL r) = str (sealL (bodyL r)) ∧ recE r = sealE (bodyL r))) : Calls Try.prog 20 #[.agg (rcA r)] w fun e w' => e = .returned (.tuple #[.string (str (recL r)), .int .i64 (recE r)]) ∧ Below w.heap.size w w' := by
  have B0 := Bk.new w 34 (rcA r)
  have HB0 : Hid (Below w.heap.size w (w.alloc (.cells (rcA r) 34))) := (Below.refl _ _).alloc (Nat.le_refl _) _
  have hlc := loadCells_bk (P := Try.prog) B0 (Jo.rcA_size r)
  have HK := Lib.hid B0
  clear B0
  go_enter Try.func20, Try.ntmps20
  go_wp2_with fail
  generalize w.alloc (.cells (rcA r) 34) = W0 at HB0 HK hlc ⊢
  simp only [Try.isAgg34, Try.sizeOf34, Result.andThen, ↓reduceIte, hlc]
  rw [Oper.upon_value]
  clear hlc
  go_wp2_with fail
  refine (C1.out _).mono ?_
  rintro e w1 ⟨rfl, hb1⟩
  replace HK := Lib.hid (HK.out.below hb1 HK.out.lt)
  replace HB0 := Lib.hid (HB0.out.trans (hb1.mono HB0.out.size))
  clear hb1
  have c0 := HK.out.at 0 (v := .int .i64 r.kind) rfl
  have c18 := HK.out.at 18 (v := .int .i64 r.time) rfl
  go_wp2_with fail
  refine (numbersR_any _ _ [r.kind, r.time] _ (ints_lit w1 [r.kind, r.time] 3) (Nat.le_of_ble_eq_true rfl)).mono ?_
  rintro e w1 ⟨rfl, hb1⟩
  replace hb1 := below_box1 hb1
  clear c0 c18
  replace HK := Lib.hid (HK.out.below hb1 HK.out.lt)
  replace HB0 := Lib.hid (HB0.out.trans (hb1.mono HB0.out.size))
  clear hb1
  have s1 : (str (numL [r.kind, r.time])).size ≤ 18 := by rw [str_size]; exact numL_len [r.kind, r.time]
  generalize hS1 : str (numL [r.kind, r.time]) = S1 at s1 ⊢
  have HS1 := Lib.hid hS1
  clear hS1
  have c0 := HK.out.at 0 (v := .int .i64 r.kind) rfl
  have c1 := HK.out.at 1 (v := .int .i64 r.item.tick) rfl
  have c2 := HK.out.at 2 (v := .int .i64 r.item.id.src) rfl
  have c3 := HK.out.at 3 (v := .int .i64 r.item.id.cre) rfl
  have c4 := HK.out.at 4 (v := .int .i64 r.item.id.seq) rfl
  have c5 := HK.out.at 5 (v := .int .i64 r.item.id.off) rfl
  have c6 := HK.out.at 6 (v := .int .i64 r.item.id.tot) rfl
  have c7 := HK.out.at 7 (v := .int .i64 r.item.dest) rfl
  have c8 := HK.out.at 8 (v := .int .i64 r.item.exp) rfl
  have c9 := HK.out.at 9 (v := .int .i64 r.item.prio) rfl
  have c10 := HK.out.at 10 (v := .bool r.item.cust) rfl
  have c11 := HK.out.at 11 (v := .string r.item.data) rfl
  have HI1 : Hid (∀ (A : Option Addr) (w1 : World), IntsAt w1 A [r.item.tick] → Calls Try.prog 37 #[.slice A 1 1] w1 fun e w' => e = .returned (.string (str (numL [r.item.tick]))) ∧ Below w1.heap.size w1 w') := fun A w1 h => numbersR_any A 1 [r.item.tick] w1 h (Nat.le_of_ble_eq_true rfl)
  have HI4 : Hid (∀ (A : Option Addr) (w1 : World), IntsAt w1 A [r.item.dest, r.item.exp, r.item.prio, if r.item.cust then 1 else 0] → Calls Try.prog 37 #[.slice A 4 4] w1 fun e w' => e = .returned (.string (str (numL [r.item.dest, r.item.exp, r.item.prio, if r.item.cust then 1 else 0]))) ∧ Below w1.heap.size w1 w') := fun A w1 h => numbersR_any A 4 [r.item.dest, r.item.exp, r.item.prio, if r.item.cust then 1 else 0] w1 h (Nat.le_of_ble_eq_true rfl)
  have HD := Lib.hid (idNumbers_any r.item.id)
  have HT1 := Lib.hid (bit_any r.item.cust)
  have s2 : (str (numL [r.item.tick])).size ≤ 9 := by rw [str_size]; exact numL_len [r.item.tick]
  have s3 : (str (numL (idN r.item.id))).size ≤ 45 := by rw [str_size]; exact numL_len (idN r.item.id)
  have s4 : (str (numL [r.item.dest, r.item.exp, r.item.prio, if r.item.cust then 1 else 0])).size ≤ 36 := by rw [str_size]; exact numL_len [r.item.dest, r.item.exp, r.item.prio, if r.item.cust then 1 else 0]
  generalize hS2 : str (numL [r.item.tick]) = S2 at s2 HI1
  generalize hS3 : str (numL (idN r.item.id)) = S3 at s3 HD
  generalize hS4 : str (numL [r.item.dest, r.item.exp, r.item.prio, if r.item.cust then 1 else 0]) = S4 at s4 HI4
  have HS2 := Lib.hid hS2
  have HS3 := Lib.hid hS3
  have HS4 := Lib.hid hS4
  clear hS2 hS3 hS4
  generalize hbt : (if r.item.cust = true then (1 : Int) else 0) = bt at HI4 HT1 HS4
  have HBT := Lib.hid hbt
  clear hbt
  go_wp2
  clear c0 c1 c2 c3 c4 c5 c6 c7 c8 c9 c10 c11
  change Code.wp _ _ _ _ (w1.alloc (.cells #[.int .i64 r.item.tick, .int .i64 r.item.id.src, .int .i64 r.item.id.cre, .int .i64 r.item.id.seq, .int .i64 r.item.id.off, .int .i64 r.item.id.tot, .int .i64 r.item.dest, .int .i64 r.item.exp, .int .i64 r.item.prio, .bool r.item.cust, .string r.item.data] 32))
  have B1 := Bk.new w1 32 #[.int .i64 r.item.tick, .int .i64 r.item.id.src, .int .i64 r.item.id.cre, .int .i64 r.item.id.seq, .int .i64 r.item.id.off, .int .i64 r.item.id.tot, .int .i64 r.item.dest, .int .i64 r.item.exp, .int .i64 r.item.prio, .bool r.item.cust, .string r.item.data]
  replace HK := Lib.hid (HK.out.alloc (.cells #[.int .i64 r.item.tick, .int .i64 r.item.id.src, .int .i64 r.item.id.cre, .int .i64 r.item.id.seq, .int .i64 r.item.id.off, .int .i64 r.item.id.tot, .int .i64 r.item.dest, .int .i64 r.item.exp, .int .i64 r.item.prio, .bool r.item.cust, .string r.item.data] 32))
  replace HB0 := Lib.hid (HB0.out.alloc HB0.out.size (.cells #[.int .i64 r.item.tick, .int .i64 r.item.id.src, .int .i64 r.item.id.cre, .int .i64 r.item.id.seq, .int .i64 r.item.id.off, .int .i64 r.item.id.tot, .int .i64 r.item.dest, .int .i64 r.item.exp, .int .i64 r.item.prio, .bool r.item.cust, .string r.item.data] 32))
  have HKI := Lib.hid B1
  clear B1
  generalize w1.alloc (.cells #[.int .i64 r.item.tick, .int .i64 r.item.id.src, .int .i64 r.item.id.cre, .int .i64 r.item.id.seq, .int .i64 r.item.id.off, .int .i64 r.item.id.tot, .int .i64 r.item.dest, .int .i64 r.item.exp, .int .i64 r.item.prio, .bool r.item.cust, .string r.item.data] 32) = W1 at HK HB0 HKI ⊢
  generalize w1.heap.size = g at HKI ⊢
  have d0 := HKI.out.at 0 (v := .int .i64 r.item.tick) rfl
  have d1 := HKI.out.at 1 (v := .int .i64 r.item.id.src) rfl
  have d2 := HKI.out.at 2 (v := .int .i64 r.item.id.cre) rfl
  have d3 := HKI.out.at 3 (v := .int .i64 r.item.id.seq) rfl
  have d4 := HKI.out.at 4 (v := .int .i64 r.item.id.off) rfl
  have d5 := HKI.out.at 5 (v := .int .i64 r.item.id.tot) rfl
  have d6 := HKI.out.at 6 (v := .int .i64 r.item.dest) rfl
  have d7 := HKI.out.at 7 (v := .int .i64 r.item.exp) rfl
  have d8 := HKI.out.at 8 (v := .int .i64 r.item.prio) rfl
  have d9 := HKI.out.at 9 (v := .bool r.item.cust) rfl
  have hbw := HB0.out
  have hsz : (9223372036854775807 < S1.size + S2.size) = False := by simp; omega
  have hsz2 : (9223372036854775807 < S1.size + S2.size + S3.size) = False := by simp; omega
  have hsz3 : (9223372036854775807 < S1.size + S2.size + S3.size + S4.size) = False := by simp; omega
  have d10 := HKI.out.at 10 (v := .string r.item.data) rfl
  go_region_held3 (fun w' => w'.cell? ⟨g, 0, none⟩ = some (.int .i64 r.item.tick) ∧ w'.cell? ⟨g, 1, none⟩ = some (.int .i64 r.item.id.src) ∧ w'.cell? ⟨g, 2, none⟩ = some (.int .i64 r.item.id.cre) ∧ w'.cell? ⟨g, 3, none⟩ = some (.int .i64 r.item.id.seq) ∧ w'.cell? ⟨g, 4, none⟩ = some (.int .i64 r.item.id.off) ∧ w'.cell? ⟨g, 5, none⟩ = some (.int .i64 r.item.id.tot) ∧ w'.cell? ⟨g, 6, none⟩ = some (.int .i64 r.item.dest) ∧ w'.cell? ⟨g, 7, none⟩ = some (.int .i64 r.item.exp) ∧ w'.cell? ⟨g, 8, none⟩ = some (.int .i64 r.item.prio) ∧ w'.cell? ⟨g, 9, none⟩ = some (.bool r.item.cust) ∧ w'.cell? ⟨g, 10, none⟩ = some (.string r.item.data) ∧ Below w.heap.size w w') (((try go_split_ands); (try refine ⟨?_, ?_, ?_, ?_, ?_, ?_, ?_, ?_, ?_, ?_, ?_, ?_⟩) <;> (first | assumption | (exact keepC (by assumption) (by assumption)) | (exact keepD (by assumption)) | (exact keepB (by assumption) (by assumption)) | (exact keepA (by assumption)) | (exact Below.drew (by assumption)) | (simp [*]; done) | (simp; omega))))
    (first | (go_at_call 38; refine (HD.out _).mono ?_; rintro e w2 ⟨rfl, hbq⟩) | (go_at_call 39; refine (HT1.out _).mono ?_; rintro e w2 ⟨rfl, rfl⟩) | (go_at_call 37; (with_reducible show Calls _ _ #[Value.slice _ 1 1] _ _); refine (HI1.out _ _ ?_).mono ?_; (focus (repeat (first | (with_reducible refine IntsAt.drew1 ?_) | ((with_reducible show IntsAt (World.alloc _ _) _ _); exact ints_lit _ [r.item.tick] _) | ((with_reducible refine IntsAt.belowF ?_ ?_); (with_reducible assumption)) | (with_reducible refine IntsAt.alloc ?_ _)))); rintro e w2 ⟨rfl, hbq⟩) | (go_at_call 37; (with_reducible show Calls _ _ #[Value.slice _ 4 4] _ _); refine (HI4.out _ _ ?_).mono ?_; (focus (repeat (first | (with_reducible refine IntsAt.drew1 ?_) | ((with_reducible show IntsAt (World.alloc _ _) _ _); exact ints_lit _ [r.item.dest, r.item.exp, r.item.prio, bt] _) | ((with_reducible refine IntsAt.belowF ?_ ?_); (with_reducible assumption)) | (with_reducible refine IntsAt.alloc ?_ _)))); rintro e w2 ⟨rfl, hbq⟩))
  all_goals
    have HBF : Hid (Below w.heap.size w w2) := by
      show Below _ _ _
      repeat first | assumption | (refine keepB (by assumption) ?_) | (refine keepA ?_) | (refine Below.drew ?_)
    have e10 : w2.cell? ⟨g, 10, none⟩ = some (.string r.item.data) := by
      go_split_ands
      assumption
    have hsum : (S1 ++ S2 ++ S3 ++ S4).size ≤ 200 := by simp only [ByteArray.size_append]; omega
    have s5 : (str T).size ≤ 65545 := by rw [str_size]; exact hT
    have hcat : S1 ++ S2 ++ S3 ++ S4 ++ str T = str (bodyL r) := by
      rw [← HS1.out, ← HS2.out, ← HS3.out, ← HS4.out, str_append, str_append, str_append, str_append, body_item hk.out, itemL, HT.out, HBT.out]
      have e : numL (r.item.tick :: (idN r.item.id ++ [r.item.dest, r.item.exp, r.item.prio, bt])) = numL [r.item.tick] ++ (numL (idN r.item.id) ++ numL [r.item.dest, r.item.exp, r.item.prio, bt]) := by
        rw [← numL_append, ← numL_append]; rfl
      rw [e]
      simp only [List.append_assoc]
    clear hsz hsz2 hsz3 d0 d1 d2 d3 d4 d5 d6 d7 d8 d9 d10
    generalize S1 ++ S2 ++ S3 ++ S4 = SS at hsum hcat ⊢
    generalize str T = TT at s5 hcat X
    have hsz4 : SS.size + TT.size ≤ 70000 := by omega
    go_wp2_with fail
    refine (X.out _).mono ?_
    rintro e w3 ⟨rfl, hb3⟩
    replace HBF := Lib.hid (HBF.out.trans (hb3.mono HBF.out.size))
    clear hb3 e10
    go_wp2_with fail
    refine (Z.out _).mono ?_
    rintro e w3 ⟨rfl, hb3⟩
    replace HBF := Lib.hid (HBF.out.trans (hb3.mono HBF.out.size))
    clear hb3
    generalize str (sealL (bodyL r)) = F at HR ⊢
    generalize sealE (bodyL r) = E at HR ⊢
    go_wp2
    go_ret2
    exact ⟨two_e HR.out.1.symm HR.out.2.symm, HBF.out⟩

theorem encodeR_any (r : Rec) (hr : r.item.data.size ≤ maxLen) (w : World) : Calls Try.prog 20 #[.agg (rcA r)] w fun e w' => e = .returned (.tuple #[.string (str (recL r)), .int .i64 (recE r)]) ∧ Below w.heap.size w w' := by
  have C1 := fun w => checkR_any r hr w
  by_cases h : ck r = 0
  · rw [h] at C1
    have Z := fun w => sealR_any (str (bodyL r)) (by rw [str_size]; have := body_len h; unfold maxLen; omega) w
    rw [str_list] at Z
    have HR : str (recL r) = str (sealL (bodyL r)) ∧ recE r = sealE (bodyL r) := ⟨by rw [(rec_yes h).1], (rec_yes h).2⟩
    by_cases h13 : r.kind = 1 ∨ r.kind = 3
    · have hs := ck_size h h13
      have X := fun w => textR_any r.item.data hr w
      rw [show Vi.textE r.item.data.data.toList = 0 by unfold Vi.textE; rw [if_pos (by simpa using hs)]] at X
      exact encodeR_k13 r w (Lib.hid h13) (by rw [beq_eq_false_iff_ne]; omega) (by rw [beq_eq_false_iff_ne]; omega) _ (textL_len9 (by simpa using hs)) (Lib.hid rfl) (Lib.hid X) (Lib.hid C1) (Lib.hid Z) (Lib.hid HR)
    · rcases ck_ranges h with hk | hk | hk | hk
      · exact absurd (.inl hk) h13
      · exact encodeR_k2 r w (Lib.hid hk) (Lib.hid C1) (Lib.hid Z) (Lib.hid HR)
      · exact absurd (.inr hk) h13
      · exact encodeR_k4 r w (Lib.hid hk) (Lib.hid C1) (Lib.hid Z) (Lib.hid HR)
  · exact encodeR_a r w (ck r) (by rw [bne_iff_ne]; exact h) (Lib.hid C1) (Lib.hid (rec_no h))
end Go.Proofs.Ytlknjdfiedkhbaa
