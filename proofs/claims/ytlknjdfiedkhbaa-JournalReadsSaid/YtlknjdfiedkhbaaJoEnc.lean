/- Encode of the program, walked. Condition: a length below the model's greatest. -/
import Derived.Test.YtlknjdfiedkhbaaJoChk
import Derived.Test.YtlknjdfiedkhbaaJoNum
import Derived.Test.YtlknjdfiedkhbaaCrcW
namespace Go.Proofs.Ytlknjdfiedkhbaa
open Go Go.RowKit
open Jo (RId Itm Rec wi vId ckI ck zId zIt idA itA rcA)
attribute [-simp] Try.isAgg34 Try.sizeOf34 Try.typeInfo34

/-- the numbers of an id -/
def idN (x : RId) : List Int := [x.src, x.cre, x.seq, x.off, x.tot]
/-- what stands in the frame of a record -/
def itemL (x : Itm) : List UInt8 := numL (x.tick :: (idN x.id ++ [x.dest, x.exp, x.prio, if x.cust then 1 else 0])) ++ Vi.textL x.data.data.toList
def bodyL (r : Rec) : List UInt8 :=
  numL [r.kind, r.time] ++ (if r.kind = 1 ∨ r.kind = 3 then itemL r.item else numL (idN r.id) ++ (if r.kind = 4 then numL [r.tick] else []))
/-- what Encode answers -/
def recL (r : Rec) : List UInt8 := if ck r = 0 then sealL (bodyL r) else []
def recE (r : Rec) : Int := if ck r = 0 then sealE (bodyL r) else ck r
theorem rec_no {r : Rec} (h : ck r ≠ 0) : recL r = [] ∧ recE r = ck r := by unfold recL recE; rw [if_neg h, if_neg h]; exact ⟨rfl, rfl⟩
theorem rec_yes {r : Rec} (h : ck r = 0) : recL r = sealL (bodyL r) ∧ recE r = sealE (bodyL r) := by unfold recL recE; rw [if_pos h, if_pos h]; exact ⟨rfl, rfl⟩
theorem below_box1 {w w' : World} {o : Obj} (h : Below (w.alloc o).heap.size (w.alloc o) w') : Below w.heap.size w w' :=
  ((Below.refl _ _).alloc (Nat.le_refl _) o).trans (h.mono (by simp))
theorem ints_lit (w : World) (l : List Int) (t : TypeId) : IntsAt (w.alloc (.cells (l.map (Value.int .i64)).toArray t)) (some ⟨w.heap.size, 0, none⟩) l :=
  IntsAt.mk (fun k hk => by
    have h := (Bk.new w t (l.map (Value.int .i64)).toArray).cell k
    rw [Nat.zero_add, h, List.getElem?_toArray, List.getElem?_map, elt, List.getElem?_eq_getElem hk]; rfl)
theorem sealE_cases (l : List UInt8) : (sealE l = 0) ∨ (sealE l = 4 ∧ sealL l = []) := by
  unfold sealE sealL
  by_cases h : l.length ≤ 65536
  · left; rw [if_pos h]
  · right; rw [if_neg h, if_neg h]; exact ⟨rfl, rfl⟩
theorem body_item {r : Rec} (h : r.kind = 1 ∨ r.kind = 3) : bodyL r = numL [r.kind, r.time] ++ itemL r.item := by unfold bodyL; rw [if_pos h]
theorem body_two {r : Rec} (h : r.kind = 2) : bodyL r = numL [r.kind, r.time] ++ numL (idN r.id) := by
  unfold bodyL; rw [if_neg (by omega), if_neg (by omega), List.append_nil]
theorem body_four {r : Rec} (h : r.kind = 4) : bodyL r = numL [r.kind, r.time] ++ numL (idN r.id) ++ numL [r.tick] := by
  unfold bodyL; rw [if_neg (by omega), if_pos h, List.append_assoc]
theorem ck_ranges {r : Rec} (h : ck r = 0) : r.kind = 1 ∨ r.kind = 2 ∨ r.kind = 3 ∨ r.kind = 4 := by
  cases h1 : wi r.kind 1 4
  · rw [ck_kind h1] at h; exact absurd h (by decide)
  · exact kinds h1
theorem ck_size {r : Rec} (h : ck r = 0) (hk : r.kind = 1 ∨ r.kind = 3) : r.item.data.size ≤ 65536 := by
  cases h1 : wi r.kind 1 4
  · rw [ck_kind h1] at h; exact absurd h (by decide)
  cases h2 : wi r.time 0 1099511627776
  · rw [ck_time h1 h2] at h; exact absurd h (by decide)
  rw [ck_item h1 h2 hk] at h
  have hi : ckI r.item = 0 := by
    by_cases c : ckI r.item = 0
    · exact c
    · rw [if_neg c] at h; exact absurd h c
  unfold ckI at hi
  split at hi
  · split at hi
    · rename_i h3
      simp [wi] at h3
      omega
    · exact absurd hi (by decide)
  · exact absurd hi (by decide)

set_option maxHeartbeats 4000000 in
set_option maxRecDepth 100000 in
theorem encode_a (r : Rec) (w : World) (q : Int) (hq : (q != 0) = true) (C1 : Hid (∀ w, Calls Try.prog 14 #[.agg (rcA r)] w fun e w' => e = .returned (.int .i64 q) ∧ Below w.heap.size w w')) (HR : Hid (recL r = [] ∧ recE r = q)) : Calls Try.prog 19 #[.agg (rcA r)] w fun e w' => e = .returned (.tuple #[.string (str (recL r)), .int .i64 (recE r)]) ∧ Below w.heap.size w w' := by
  have B0 := Bk.new w 34 (rcA r)
  have HB0 : Hid (Below w.heap.size w (w.alloc (.cells (rcA r) 34))) := (Below.refl _ _).alloc (Nat.le_refl _) _
  have hlc := loadCells_bk (P := Try.prog) B0 (Jo.rcA_size r)
  have HK := Lib.hid B0
  clear B0
  go_enter Try.func19, Try.ntmps19
  go_wp2_with fail
  generalize w.alloc (.cells (rcA r) 34) = W0 at HB0 HK hlc ⊢
  simp only [Try.isAgg34, Try.sizeOf34, Result.andThen, ↓reduceIte, hlc]
  rw [Oper.upon_value]
  clear hlc
  go_wp2_with fail
  refine (C1.out _).mono ?_
  rintro e w1 ⟨rfl, hb1⟩
  replace HK := Lib.hid (HK.out.below hb1 HK.out.lt)
  replace HB0 := Lib.hid (HB0.out.trans (hb1.mono HB0.out.size))
  clear hb1
  go_wp2
  go_ret2
  exact ⟨two_e (by rw [HR.out.1]; rfl) HR.out.2.symm, HB0.out⟩

set_option maxHeartbeats 4000000 in
set_option maxRecDepth 100000 in
theorem encode_k2 (r : Rec) (w : World) (hk : Hid (r.kind = 2)) (C1 : Hid (∀ w, Calls Try.prog 14 #[.agg (rcA r)] w fun e w' => e = .returned (.int .i64 0) ∧ Below w.heap.size w w')) (Z : Hid (∀ w, Calls Try.prog 36 #[.string (str (bodyL r))] w fun e w' => e = .returned (.tuple #[.string (str (sealL (bodyL r))), .int .i64 (sealE (bodyL r))]) ∧ Below w.heap.size w w')) (HR : Hid (str (recL r) = str (sealL (bodyL r)) ∧ recE r = sealE (bodyL r))) : Calls Try.prog 19 #[.agg (rcA r)] w fun e w' => e = .returned (.tuple #[.string (str (recL r)), .int .i64 (recE r)]) ∧ Below w.heap.size w w' := by
  have B0 := Bk.new w 34 (rcA r)
  have HB0 : Hid (Below w.heap.size w (w.alloc (.cells (rcA r) 34))) := (Below.refl _ _).alloc (Nat.le_refl _) _
  have hlc := loadCells_bk (P := Try.prog) B0 (Jo.rcA_size r)
  have HK := Lib.hid B0
  clear B0
  go_enter Try.func19, Try.ntmps19
  go_wp2_with fail
  generalize w.alloc (.cells (rcA r) 34) = W0 at HB0 HK hlc ⊢
  simp only [Try.isAgg34, Try.sizeOf34, Result.andThen, ↓reduceIte, hlc]
  rw [Oper.upon_value]
  clear hlc
  go_wp2_with fail
  refine (C1.out _).mono ?_
  rintro e w1 ⟨rfl, hb1⟩
  replace HK := Lib.hid (HK.out.below hb1 HK.out.lt)
  replace HB0 := Lib.hid (HB0.out.trans (hb1.mono HB0.out.size))
  clear hb1
  have c0 := HK.out.at 0 (v := .int .i64 r.kind) rfl
  have c18 := HK.out.at 18 (v := .int .i64 r.time) rfl
  go_wp2_with fail
  refine (numbers_any _ _ [r.kind, r.time] _ (ints_lit w1 [r.kind, r.time] 3) (Nat.le_of_ble_eq_true rfl)).mono ?_
  rintro e w1 ⟨rfl, hb1⟩
  replace hb1 := below_box1 hb1
  clear c0 c18
  replace HK := Lib.hid (HK.out.below hb1 HK.out.lt)
  replace HB0 := Lib.hid (HB0.out.trans (hb1.mono HB0.out.size))
  clear hb1
  have s1 : (str (numL [r.kind, r.time])).size ≤ 18 := by rw [str_size]; exact numL_len [r.kind, r.time]
  have HN1 : Hid (str (numL [r.kind, r.time]) = str (numL [r.kind, r.time])) := rfl
  have c0 := HK.out.at 0 (v := .int .i64 r.kind) rfl
  rw [hk.out] at c0
  generalize hS1 : str (numL [r.kind, r.time]) = S1 at s1 ⊢
  have HS1 := Lib.hid hS1
  clear hS1 HN1
  have c12 := HK.out.at 12 (v := .int .i64 r.id.src) rfl
  have c13 := HK.out.at 13 (v := .int .i64 r.id.cre) rfl
  have c14 := HK.out.at 14 (v := .int .i64 r.id.seq) rfl
  have c15 := HK.out.at 15 (v := .int .i64 r.id.off) rfl
  have c16 := HK.out.at 16 (v := .int .i64 r.id.tot) rfl
  go_wp2_with fail
  refine (numbers_any _ _ (idN r.id) _ (ints_lit w1 (idN r.id) 3) (Nat.le_of_ble_eq_true rfl)).mono ?_
  rintro e w1 ⟨rfl, hb1⟩
  replace hb1 := below_box1 hb1
  clear c12 c13 c14 c15 c16
  replace HK := Lib.hid (HK.out.below hb1 HK.out.lt)
  replace HB0 := Lib.hid (HB0.out.trans (hb1.mono HB0.out.size))
  clear hb1
  have c0 := HK.out.at 0 (v := .int .i64 r.kind) rfl
  rw [hk.out] at c0
  have s2 : (str (numL (idN r.id))).size ≤ 45 := by rw [str_size]; exact numL_len (idN r.id)
  generalize hS2 : str (numL (idN r.id)) = S2 at s2 ⊢
  have HS2 := Lib.hid hS2
  clear hS2
  have hsz : S1.size + S2.size ≤ 200 := by omega
  have hcat : S1 ++ S2 = str (bodyL r) := by rw [← HS1.out, ← HS2.out, str_append, body_two hk.out]
  go_wp2_with fail
  refine (Z.out _).mono ?_
  rintro e w1 ⟨rfl, hb1⟩
  replace HK := Lib.hid (HK.out.below hb1 HK.out.lt)
  replace HB0 := Lib.hid (HB0.out.trans (hb1.mono HB0.out.size))
  clear hb1
  rcases sealE_cases (bodyL r) with hz | ⟨hz, hl⟩
  · have HZ := Lib.hid hz
    rw [hz]
    clear hz
    generalize str (sealL (bodyL r)) = F at HR ⊢
    go_wp2
    go_ret2
    exact ⟨two_e HR.out.1.symm (by rw [HR.out.2, HZ.out]), HB0.out⟩
  · have HZ := Lib.hid hz
    have HL := Lib.hid hl
    rw [hz, hl]
    rw [hl] at HR
    clear hz hl
    go_wp2
    go_ret2
    exact ⟨two_e HR.out.1.symm (by rw [HR.out.2, HZ.out]), HB0.out⟩

set_option maxHeartbeats 4000000 in
set_option maxRecDepth 100000 in
theorem encode_k4 (r : Rec) (w : World) (hk : Hid (r.kind = 4)) (C1 : Hid (∀ w, Calls Try.prog 14 #[.agg (rcA r)] w fun e w' => e = .returned (.int .i64 0) ∧ Below w.heap.size w w')) (Z : Hid (∀ w, Calls Try.prog 36 #[.string (str (bodyL r))] w fun e w' => e = .returned (.tuple #[.string (str (sealL (bodyL r))), .int .i64 (sealE (bodyL r))]) ∧ Below w.heap.size w w')) (HR : Hid (str (recL r) = str (sealL (bodyL r)) ∧ recE r = sealE (bodyL r))) : Calls Try.prog 19 #[.agg (rcA r)] w fun e w' => e = .returned (.tuple #[.string (str (recL r)), .int .i64 (recE r)]) ∧ Below w.heap.size w w' := by
  have B0 := Bk.new w 34 (rcA r)
  have HB0 : Hid (Below w.heap.size w (w.alloc (.cells (rcA r) 34))) := (Below.refl _ _).alloc (Nat.le_refl _) _
  have hlc := loadCells_bk (P := Try.prog) B0 (Jo.rcA_size r)
  have HK := Lib.hid B0
  clear B0
  go_enter Try.func19, Try.ntmps19
  go_wp2_with fail
  generalize w.alloc (.cells (rcA r) 34) = W0 at HB0 HK hlc ⊢
  simp only [Try.isAgg34, Try.sizeOf34, Result.andThen, ↓reduceIte, hlc]
  rw [Oper.upon_value]
  clear hlc
  go_wp2_with fail
  refine (C1.out _).mono ?_
  rintro e w1 ⟨rfl, hb1⟩
  replace HK := Lib.hid (HK.out.below hb1 HK.out.lt)
  replace HB0 := Lib.hid (HB0.out.trans (hb1.mono HB0.out.size))
  clear hb1
  have c0 := HK.out.at 0 (v := .int .i64 r.kind) rfl
  have c18 := HK.out.at 18 (v := .int .i64 r.time) rfl
  go_wp2_with fail
  refine (numbers_any _ _ [r.kind, r.time] _ (ints_lit w1 [r.kind, r.time] 3) (Nat.le_of_ble_eq_true rfl)).mono ?_
  rintro e w1 ⟨rfl, hb1⟩
  replace hb1 := below_box1 hb1
  clear c0 c18
  replace HK := Lib.hid (HK.out.below hb1 HK.out.lt)
  replace HB0 := Lib.hid (HB0.out.trans (hb1.mono HB0.out.size))
  clear hb1
  have s1 : (str (numL [r.kind, r.time])).size ≤ 18 := by rw [str_size]; exact numL_len [r.kind, r.time]
  have HN1 : Hid (str (numL [r.kind, r.time]) = str (numL [r.kind, r.time])) := rfl
  have c0 := HK.out.at 0 (v := .int .i64 r.kind) rfl
  rw [hk.out] at c0
  generalize hS1 : str (numL [r.kind, r.time]) = S1 at s1 ⊢
  have HS1 := Lib.hid hS1
  clear hS1 HN1
  have c12 := HK.out.at 12 (v := .int .i64 r.id.src) rfl
  have c13 := HK.out.at 13 (v := .int .i64 r.id.cre) rfl
  have c14 := HK.out.at 14 (v := .int .i64 r.id.seq) rfl
  have c15 := HK.out.at 15 (v := .int .i64 r.id.off) rfl
  have c16 := HK.out.at 16 (v := .int .i64 r.id.tot) rfl
  go_wp2_with fail
  refine (numbers_any _ _ (idN r.id) _ (ints_lit w1 (idN r.id) 3) (Nat.le_of_ble_eq_true rfl)).mono ?_
  rintro e w1 ⟨rfl, hb1⟩
  replace hb1 := below_box1 hb1
  clear c12 c13 c14 c15 c16
  replace HK := Lib.hid (HK.out.below hb1 HK.out.lt)
  replace HB0 := Lib.hid (HB0.out.trans (hb1.mono HB0.out.size))
  clear hb1
  have c0 := HK.out.at 0 (v := .int .i64 r.kind) rfl
  rw [hk.out] at c0
  have s2 : (str (numL (idN r.id))).size ≤ 45 := by rw [str_size]; exact numL_len (idN r.id)
  generalize hS2 : str (numL (idN r.id)) = S2 at s2 ⊢
  have HS2 := Lib.hid hS2
  clear hS2
  have hsz : S1.size + S2.size ≤ 200 := by omega
  generalize hS12 : S1 ++ S2 = S12
  have HS12 := Lib.hid hS12
  have hz12 : S12.size ≤ 200 := by rw [← hS12, ByteArray.size_append]; exact hsz
  have c17 := HK.out.at 17 (v := .int .i64 r.tick) rfl
  go_wp2_with fail
  refine (numbers_any _ _ [r.tick] _ (ints_lit w1 [r.tick] 3) (Nat.le_of_ble_eq_true rfl)).mono ?_
  rintro e w1 ⟨rfl, hb1⟩
  replace hb1 := below_box1 hb1
  clear c17
  replace HK := Lib.hid (HK.out.below hb1 HK.out.lt)
  replace HB0 := Lib.hid (HB0.out.trans (hb1.mono HB0.out.size))
  clear hb1
  have s3 : (str (numL [r.tick])).size ≤ 9 := by rw [str_size]; exact numL_len [r.tick]
  generalize hS3 : str (numL [r.tick]) = S3 at s3 ⊢
  have HS3 := Lib.hid hS3
  clear hS3
  have hsz3 : S12.size + S3.size ≤ 400 := by omega
  have hcat : S12 ++ S3 = str (bodyL r) := by rw [← HS12.out, ← HS1.out, ← HS2.out, ← HS3.out, str_append, str_append, body_four hk.out]
  go_wp2_with fail
  refine (Z.out _).mono ?_
  rintro e w1 ⟨rfl, hb1⟩
  replace HK := Lib.hid (HK.out.below hb1 HK.out.lt)
  replace HB0 := Lib.hid (HB0.out.trans (hb1.mono HB0.out.size))
  clear hb1
  rcases sealE_cases (bodyL r) with hz | ⟨hz, hl⟩
  · have HZ := Lib.hid hz
    rw [hz]
    clear hz
    generalize str (sealL (bodyL r)) = F at HR ⊢
    go_wp2
    go_ret2
    exact ⟨two_e HR.out.1.symm (by rw [HR.out.2, HZ.out]), HB0.out⟩
  · have HZ := Lib.hid hz
    have HL := Lib.hid hl
    rw [hz, hl]
    rw [hl] at HR
    clear hz hl
    go_wp2
    go_ret2
    exact ⟨two_e HR.out.1.symm (by rw [HR.out.2, HZ.out]), HB0.out⟩

set_option maxHeartbeats 4000000 in
set_option maxRecDepth 100000 in
theorem encode_k1f (r : Rec) (w : World) (hk : Hid (r.kind = 1)) (hcu : Hid (r.item.cust = false)) (T : List UInt8) (hT : T.length ≤ 65545) (HT : Hid (Vi.textL r.item.data.data.toList = T))
    (X : Hid (∀ w, Calls Try.prog 35 #[.string r.item.data] w fun e w' => e = .returned (.tuple #[.string (str T), .int .i64 0]) ∧ Below w.heap.size w w'))
    (C1 : Hid (∀ w, Calls Try.prog 14 #[.agg (rcA r)] w fun e w' => e = .returned (.int .i64 0) ∧ Below w.heap.size w w')) (Z : Hid (∀ w, Calls Try.prog 36 #[.string (str (bodyL r))] w fun e w' => e = .returned (.tuple #[.string (str (sealL (bodyL r))), .int .i64 (sealE (bodyL r))]) ∧ Below w.heap.size w w')) (HR : Hid (str (recL r) = str (sealL (bodyL r)) ∧ recE r = sealE (bodyL r))) : Calls Try.prog 19 #[.agg (rcA r)] w fun e w' => e = .returned (.tuple #[.string (str (recL r)), .int .i64 (recE r)]) ∧ Below w.heap.size w w' := by
  have B0 := Bk.new w 34 (rcA r)
  have HB0 : Hid (Below w.heap.size w (w.alloc (.cells (rcA r) 34))) := (Below.refl _ _).alloc (Nat.le_refl _) _
  have hlc := loadCells_bk (P := Try.prog) B0 (Jo.rcA_size r)
  have HK := Lib.hid B0
  clear B0
  go_enter Try.func19, Try.ntmps19
  go_wp2_with fail
  generalize w.alloc (.cells (rcA r) 34) = W0 at HB0 HK hlc ⊢
  simp only [Try.isAgg34, Try.sizeOf34, Result.andThen, ↓reduceIte, hlc]
  rw [Oper.upon_value]
  clear hlc
  go_wp2_with fail
  refine (C1.out _).mono ?_
  rintro e w1 ⟨rfl, hb1⟩
  replace HK := Lib.hid (HK.out.below hb1 HK.out.lt)
  replace HB0 := Lib.hid (HB0.out.trans (hb1.mono HB0.out.size))
  clear hb1
  have c0 := HK.out.at 0 (v := .int .i64 r.kind) rfl
  have c18 := HK.out.at 18 (v := .int .i64 r.time) rfl
  go_wp2_with fail
  refine (numbers_any _ _ [r.kind, r.time] _ (ints_lit w1 [r.kind, r.time] 3) (Nat.le_of_ble_eq_true rfl)).mono ?_
  rintro e w1 ⟨rfl, hb1⟩
  replace hb1 := below_box1 hb1
  clear c0 c18
  replace HK := Lib.hid (HK.out.below hb1 HK.out.lt)
  replace HB0 := Lib.hid (HB0.out.trans (hb1.mono HB0.out.size))
  clear hb1
  have s1 : (str (numL [r.kind, r.time])).size ≤ 18 := by rw [str_size]; exact numL_len [r.kind, r.time]
  generalize hS1 : str (numL [r.kind, r.time]) = S1 at s1 ⊢
  have HS1 := Lib.hid hS1
  clear hS1
  have c0 := HK.out.at 0 (v := .int .i64 r.kind) rfl
  have c1 := HK.out.at 1 (v := .int .i64 r.item.tick) rfl
  have c2 := HK.out.at 2 (v := .int .i64 r.item.id.src) rfl
  have c3 := HK.out.at 3 (v := .int .i64 r.item.id.cre) rfl
  have c4 := HK.out.at 4 (v := .int .i64 r.item.id.seq) rfl
  have c5 := HK.out.at 5 (v := .int .i64 r.item.id.off) rfl
  have c6 := HK.out.at 6 (v := .int .i64 r.item.id.tot) rfl
  have c7 := HK.out.at 7 (v := .int .i64 r.item.dest) rfl
  have c8 := HK.out.at 8 (v := .int .i64 r.item.exp) rfl
  have c9 := HK.out.at 9 (v := .int .i64 r.item.prio) rfl
  have c10 := HK.out.at 10 (v := .bool r.item.cust) rfl
  have c11 := HK.out.at 11 (v := .string r.item.data) rfl
  rw [hk.out] at c0
  rw [hcu.out] at c10
  go_wp2_with fail
  clear c0 c1 c2 c3 c4 c5 c6 c7 c8 c9 c10 c11
  change Calls _ _ _ (w1.alloc (.cells #[.int .i64 r.item.tick, .int .i64 r.item.id.src, .int .i64 r.item.id.cre, .int .i64 r.item.id.seq, .int .i64 r.item.id.off, .int .i64 r.item.id.tot, .int .i64 r.item.dest, .int .i64 r.item.exp, .int .i64 r.item.prio, .bool false, .string r.item.data] 32)) _
  have B1 := Bk.new w1 32 #[.int .i64 r.item.tick, .int .i64 r.item.id.src, .int .i64 r.item.id.cre, .int .i64 r.item.id.seq, .int .i64 r.item.id.off, .int .i64 r.item.id.tot, .int .i64 r.item.dest, .int .i64 r.item.exp, .int .i64 r.item.prio, .bool false, .string r.item.data]
  replace HK := Lib.hid (HK.out.alloc (.cells #[.int .i64 r.item.tick, .int .i64 r.item.id.src, .int .i64 r.item.id.cre, .int .i64 r.item.id.seq, .int .i64 r.item.id.off, .int .i64 r.item.id.tot, .int .i64 r.item.dest, .int .i64 r.item.exp, .int .i64 r.item.prio, .bool false, .string r.item.data] 32))
  replace HB0 := Lib.hid (HB0.out.alloc HB0.out.size (.cells #[.int .i64 r.item.tick, .int .i64 r.item.id.src, .int .i64 r.item.id.cre, .int .i64 r.item.id.seq, .int .i64 r.item.id.off, .int .i64 r.item.id.tot, .int .i64 r.item.dest, .int .i64 r.item.exp, .int .i64 r.item.prio, .bool false, .string r.item.data] 32))
  have HKI := Lib.hid B1
  clear B1
  generalize w1.alloc (.cells #[.int .i64 r.item.tick, .int .i64 r.item.id.src, .int .i64 r.item.id.cre, .int .i64 r.item.id.seq, .int .i64 r.item.id.off, .int .i64 r.item.id.tot, .int .i64 r.item.dest, .int .i64 r.item.exp, .int .i64 r.item.prio, .bool false, .string r.item.data] 32) = W1 at HK HB0 HKI ⊢
  generalize w1.heap.size = g at HKI ⊢
  refine (X.out _).mono ?_
  rintro e w1 ⟨rfl, hb1⟩
  replace HKI := Lib.hid (HKI.out.below hb1 HKI.out.lt)
  replace HK := Lib.hid (HK.out.below hb1 HK.out.lt)
  replace HB0 := Lib.hid (HB0.out.trans (hb1.mono HB0.out.size))
  clear hb1
  have d0 := HKI.out.at 0 (v := .int .i64 r.item.tick) rfl
  have d1 := HKI.out.at 1 (v := .int .i64 r.item.id.src) rfl
  have d2 := HKI.out.at 2 (v := .int .i64 r.item.id.cre) rfl
  have d3 := HKI.out.at 3 (v := .int .i64 r.item.id.seq) rfl
  have d4 := HKI.out.at 4 (v := .int .i64 r.item.id.off) rfl
  have d5 := HKI.out.at 5 (v := .int .i64 r.item.id.tot) rfl
  have d6 := HKI.out.at 6 (v := .int .i64 r.item.dest) rfl
  have d7 := HKI.out.at 7 (v := .int .i64 r.item.exp) rfl
  have d8 := HKI.out.at 8 (v := .int .i64 r.item.prio) rfl
  go_wp2_with fail
  refine (numbers_any _ _ (r.item.tick :: (idN r.item.id ++ [r.item.dest, r.item.exp, r.item.prio, 0])) _ (ints_lit w1 (r.item.tick :: (idN r.item.id ++ [r.item.dest, r.item.exp, r.item.prio, 0])) 3) (Nat.le_of_ble_eq_true rfl)).mono ?_
  rintro e w1 ⟨rfl, hb1⟩
  replace hb1 := below_box1 hb1
  clear d0 d1 d2 d3 d4 d5 d6 d7 d8
  replace HK := Lib.hid (HK.out.below hb1 HK.out.lt)
  replace HB0 := Lib.hid (HB0.out.trans (hb1.mono HB0.out.size))
  clear hb1
  have s2 : (str (numL (r.item.tick :: (idN r.item.id ++ [r.item.dest, r.item.exp, r.item.prio, 0])))).size ≤ 90 := by rw [str_size]; exact numL_len (r.item.tick :: (idN r.item.id ++ [r.item.dest, r.item.exp, r.item.prio, 0]))
  have s3 : (str T).size ≤ 65545 := by rw [str_size]; exact hT
  generalize hS2 : str (numL (r.item.tick :: (idN r.item.id ++ [r.item.dest, r.item.exp, r.item.prio, 0]))) = S2 at s2 ⊢
  generalize hS3 : str T = S3 at s3 ⊢
  have hsz : S2.size + S3.size ≤ 70000 := by omega
  have hsz2 : S1.size + (S2.size + S3.size) ≤ 70000 := by omega
  have hsz3 : (S2 ++ S3).size = S2.size + S3.size := ByteArray.size_append
  have hcat : S1 ++ (S2 ++ S3) = str (bodyL r) := by
    rw [← HS1.out, ← hS2, ← hS3, str_append, str_append, body_item (by have := hk.out; omega), itemL, HT.out, hcu.out]
    rfl
  clear hS2 hS3
  go_wp2_with fail
  refine (Z.out _).mono ?_
  rintro e w1 ⟨rfl, hb1⟩
  replace HK := Lib.hid (HK.out.below hb1 HK.out.lt)
  replace HB0 := Lib.hid (HB0.out.trans (hb1.mono HB0.out.size))
  clear hb1
  rcases sealE_cases (bodyL r) with hz | ⟨hz, hl⟩
  · have HZ := Lib.hid hz
    rw [hz]
    clear hz
    generalize str (sealL (bodyL r)) = F at HR ⊢
    go_wp2
    go_ret2
    exact ⟨two_e HR.out.1.symm (by rw [HR.out.2, HZ.out]), HB0.out⟩
  · have HZ := Lib.hid hz
    have HL := Lib.hid hl
    rw [hz, hl]
    rw [hl] at HR
    clear hz hl
    go_wp2
    go_ret2
    exact ⟨two_e HR.out.1.symm (by rw [HR.out.2, HZ.out]), HB0.out⟩

set_option maxHeartbeats 4000000 in
set_option maxRecDepth 100000 in
theorem encode_k1t (r : Rec) (w : World) (hk : Hid (r.kind = 1)) (hcu : Hid (r.item.cust = true)) (T : List UInt8) (hT : T.length ≤ 65545) (HT : Hid (Vi.textL r.item.data.data.toList = T))
    (X : Hid (∀ w, Calls Try.prog 35 #[.string r.item.data] w fun e w' => e = .returned (.tuple #[.string (str T), .int .i64 0]) ∧ Below w.heap.size w w'))
    (C1 : Hid (∀ w, Calls Try.prog 14 #[.agg (rcA r)] w fun e w' => e = .returned (.int .i64 0) ∧ Below w.heap.size w w')) (Z : Hid (∀ w, Calls Try.prog 36 #[.string (str (bodyL r))] w fun e w' => e = .returned (.tuple #[.string (str (sealL (bodyL r))), .int .i64 (sealE (bodyL r))]) ∧ Below w.heap.size w w')) (HR : Hid (str (recL r) = str (sealL (bodyL r)) ∧ recE r = sealE (bodyL r))) : Calls Try.prog 19 #[.agg (rcA r)] w fun e w' => e = .returned (.tuple #[.string (str (recL r)), .int .i64 (recE r)]) ∧ Below w.heap.size w w' := by
  have B0 := Bk.new w 34 (rcA r)
  have HB0 : Hid (Below w.heap.size w (w.alloc (.cells (rcA r) 34))) := (Below.refl _ _).alloc (Nat.le_refl _) _
  have hlc := loadCells_bk (P := Try.prog) B0 (Jo.rcA_size r)
  have HK := Lib.hid B0
  clear B0
  go_enter Try.func19, Try.ntmps19
  go_wp2_with fail
  generalize w.alloc (.cells (rcA r) 34) = W0 at HB0 HK hlc ⊢
  simp only [Try.isAgg34, Try.sizeOf34, Result.andThen, ↓reduceIte, hlc]
  rw [Oper.upon_value]
  clear hlc
  go_wp2_with fail
  refine (C1.out _).mono ?_
  rintro e w1 ⟨rfl, hb1⟩
  replace HK := Lib.hid (HK.out.below hb1 HK.out.lt)
  replace HB0 := Lib.hid (HB0.out.trans (hb1.mono HB0.out.size))
  clear hb1
  have c0 := HK.out.at 0 (v := .int .i64 r.kind) rfl
  have c18 := HK.out.at 18 (v := .int .i64 r.time) rfl
  go_wp2_with fail
  refine (numbers_any _ _ [r.kind, r.time] _ (ints_lit w1 [r.kind, r.time] 3) (Nat.le_of_ble_eq_true rfl)).mono ?_
  rintro e w1 ⟨rfl, hb1⟩
  replace hb1 := below_box1 hb1
  clear c0 c18
  replace HK := Lib.hid (HK.out.below hb1 HK.out.lt)
  replace HB0 := Lib.hid (HB0.out.trans (hb1.mono HB0.out.size))
  clear hb1
  have s1 : (str (numL [r.kind, r.time])).size ≤ 18 := by rw [str_size]; exact numL_len [r.kind, r.time]
  generalize hS1 : str (numL [r.kind, r.time]) = S1 at s1 ⊢
  have HS1 := Lib.hid hS1
  clear hS1
  have c0 := HK.out.at 0 (v := .int .i64 r.kind) rfl
  have c1 := HK.out.at 1 (v := .int .i64 r.item.tick) rfl
  have c2 := HK.out.at 2 (v := .int .i64 r.item.id.src) rfl
  have c3 := HK.out.at 3 (v := .int .i64 r.item.id.cre) rfl
  have c4 := HK.out.at 4 (v := .int .i64 r.item.id.seq) rfl
  have c5 := HK.out.at 5 (v := .int .i64 r.item.id.off) rfl
  have c6 := HK.out.at 6 (v := .int .i64 r.item.id.tot) rfl
  have c7 := HK.out.at 7 (v := .int .i64 r.item.dest) rfl
  have c8 := HK.out.at 8 (v := .int .i64 r.item.exp) rfl
  have c9 := HK.out.at 9 (v := .int .i64 r.item.prio) rfl
  have c10 := HK.out.at 10 (v := .bool r.item.cust) rfl
  have c11 := HK.out.at 11 (v := .string r.item.data) rfl
  rw [hk.out] at c0
  rw [hcu.out] at c10
  go_wp2_with fail
  clear c0 c1 c2 c3 c4 c5 c6 c7 c8 c9 c10 c11
  change Calls _ _ _ (w1.alloc (.cells #[.int .i64 r.item.tick, .int .i64 r.item.id.src, .int .i64 r.item.id.cre, .int .i64 r.item.id.seq, .int .i64 r.item.id.off, .int .i64 r.item.id.tot, .int .i64 r.item.dest, .int .i64 r.item.exp, .int .i64 r.item.prio, .bool true, .string r.item.data] 32)) _
  have B1 := Bk.new w1 32 #[.int .i64 r.item.tick, .int .i64 r.item.id.src, .int .i64 r.item.id.cre, .int .i64 r.item.id.seq, .int .i64 r.item.id.off, .int .i64 r.item.id.tot, .int .i64 r.item.dest, .int .i64 r.item.exp, .int .i64 r.item.prio, .bool true, .string r.item.data]
  replace HK := Lib.hid (HK.out.alloc (.cells #[.int .i64 r.item.tick, .int .i64 r.item.id.src, .int .i64 r.item.id.cre, .int .i64 r.item.id.seq, .int .i64 r.item.id.off, .int .i64 r.item.id.tot, .int .i64 r.item.dest, .int .i64 r.item.exp, .int .i64 r.item.prio, .bool true, .string r.item.data] 32))
  replace HB0 := Lib.hid (HB0.out.alloc HB0.out.size (.cells #[.int .i64 r.item.tick, .int .i64 r.item.id.src, .int .i64 r.item.id.cre, .int .i64 r.item.id.seq, .int .i64 r.item.id.off, .int .i64 r.item.id.tot, .int .i64 r.item.dest, .int .i64 r.item.exp, .int .i64 r.item.prio, .bool true, .string r.item.data] 32))
  have HKI := Lib.hid B1
  clear B1
  generalize w1.alloc (.cells #[.int .i64 r.item.tick, .int .i64 r.item.id.src, .int .i64 r.item.id.cre, .int .i64 r.item.id.seq, .int .i64 r.item.id.off, .int .i64 r.item.id.tot, .int .i64 r.item.dest, .int .i64 r.item.exp, .int .i64 r.item.prio, .bool true, .string r.item.data] 32) = W1 at HK HB0 HKI ⊢
  generalize w1.heap.size = g at HKI ⊢
  refine (X.out _).mono ?_
  rintro e w1 ⟨rfl, hb1⟩
  replace HKI := Lib.hid (HKI.out.below hb1 HKI.out.lt)
  replace HK := Lib.hid (HK.out.below hb1 HK.out.lt)
  replace HB0 := Lib.hid (HB0.out.trans (hb1.mono HB0.out.size))
  clear hb1
  have d0 := HKI.out.at 0 (v := .int .i64 r.item.tick) rfl
  have d1 := HKI.out.at 1 (v := .int .i64 r.item.id.src) rfl
  have d2 := HKI.out.at 2 (v := .int .i64 r.item.id.cre) rfl
  have d3 := HKI.out.at 3 (v := .int .i64 r.item.id.seq) rfl
  have d4 := HKI.out.at 4 (v := .int .i64 r.item.id.off) rfl
  have d5 := HKI.out.at 5 (v := .int .i64 r.item.id.tot) rfl
  have d6 := HKI.out.at 6 (v := .int .i64 r.item.dest) rfl
  have d7 := HKI.out.at 7 (v := .int .i64 r.item.exp) rfl
  have d8 := HKI.out.at 8 (v := .int .i64 r.item.prio) rfl
  go_wp2_with fail
  refine (numbers_any _ _ (r.item.tick :: (idN r.item.id ++ [r.item.dest, r.item.exp, r.item.prio, 1])) _ (ints_lit w1 (r.item.tick :: (idN r.item.id ++ [r.item.dest, r.item.exp, r.item.prio, 1])) 3) (Nat.le_of_ble_eq_true rfl)).mono ?_
  rintro e w1 ⟨rfl, hb1⟩
  replace hb1 := below_box1 hb1
  clear d0 d1 d2 d3 d4 d5 d6 d7 d8
  replace HK := Lib.hid (HK.out.below hb1 HK.out.lt)
  replace HB0 := Lib.hid (HB0.out.trans (hb1.mono HB0.out.size))
  clear hb1
  have s2 : (str (numL (r.item.tick :: (idN r.item.id ++ [r.item.dest, r.item.exp, r.item.prio, 1])))).size ≤ 90 := by rw [str_size]; exact numL_len (r.item.tick :: (idN r.item.id ++ [r.item.dest, r.item.exp, r.item.prio, 1]))
  have s3 : (str T).size ≤ 65545 := by rw [str_size]; exact hT
  generalize hS2 : str (numL (r.item.tick :: (idN r.item.id ++ [r.item.dest, r.item.exp, r.item.prio, 1]))) = S2 at s2 ⊢
  generalize hS3 : str T = S3 at s3 ⊢
  have hsz : S2.size + S3.size ≤ 70000 := by omega
  have hsz2 : S1.size + (S2.size + S3.size) ≤ 70000 := by omega
  have hsz3 : (S2 ++ S3).size = S2.size + S3.size := ByteArray.size_append
  have hcat : S1 ++ (S2 ++ S3) = str (bodyL r) := by
    rw [← HS1.out, ← hS2, ← hS3, str_append, str_append, body_item (by have := hk.out; omega), itemL, HT.out, hcu.out]
    rfl
  clear hS2 hS3
  go_wp2_with fail
  refine (Z.out _).mono ?_
  rintro e w1 ⟨rfl, hb1⟩
  replace HK := Lib.hid (HK.out.below hb1 HK.out.lt)
  replace HB0 := Lib.hid (HB0.out.trans (hb1.mono HB0.out.size))
  clear hb1
  rcases sealE_cases (bodyL r) with hz | ⟨hz, hl⟩
  · have HZ := Lib.hid hz
    rw [hz]
    clear hz
    generalize str (sealL (bodyL r)) = F at HR ⊢
    go_wp2
    go_ret2
    exact ⟨two_e HR.out.1.symm (by rw [HR.out.2, HZ.out]), HB0.out⟩
  · have HZ := Lib.hid hz
    have HL := Lib.hid hl
    rw [hz, hl]
    rw [hl] at HR
    clear hz hl
    go_wp2
    go_ret2
    exact ⟨two_e HR.out.1.symm (by rw [HR.out.2, HZ.out]), HB0.out⟩

set_option maxHeartbeats 4000000 in
set_option maxRecDepth 100000 in
theorem encode_k3f (r : Rec) (w : World) (hk : Hid (r.kind = 3)) (hcu : Hid (r.item.cust = false)) (T : List UInt8) (hT : T.length ≤ 65545) (HT : Hid (Vi.textL r.item.data.data.toList = T))
    (X : Hid (∀ w, Calls Try.prog 35 #[.string r.item.data] w fun e w' => e = .returned (.tuple #[.string (str T), .int .i64 0]) ∧ Below w.heap.size w w'))
    (C1 : Hid (∀ w, Calls Try.prog 14 #[.agg (rcA r)] w fun e w' => e = .returned (.int .i64 0) ∧ Below w.heap.size w w')) (Z : Hid (∀ w, Calls Try.prog 36 #[.string (str (bodyL r))] w fun e w' => e = .returned (.tuple #[.string (str (sealL (bodyL r))), .int .i64 (sealE (bodyL r))]) ∧ Below w.heap.size w w')) (HR : Hid (str (recL r) = str (sealL (bodyL r)) ∧ recE r = sealE (bodyL r))) : Calls Try.prog 19 #[.agg (rcA r)] w fun e w' => e = .returned (.tuple #[.string (str (recL r)), .int .i64 (recE r)]) ∧ Below w.heap.size w w' := by
  have B0 := Bk.new w 34 (rcA r)
  have HB0 : Hid (Below w.heap.size w (w.alloc (.cells (rcA r) 34))) := (Below.refl _ _).alloc (Nat.le_refl _) _
  have hlc := loadCells_bk (P := Try.prog) B0 (Jo.rcA_size r)
  have HK := Lib.hid B0
  clear B0
  go_enter Try.func19, Try.ntmps19
  go_wp2_with fail
  generalize w.alloc (.cells (rcA r) 34) = W0 at HB0 HK hlc ⊢
  simp only [Try.isAgg34, Try.sizeOf34, Result.andThen, ↓reduceIte, hlc]
  rw [Oper.upon_value]
  clear hlc
  go_wp2_with fail
  refine (C1.out _).mono ?_
  rintro e w1 ⟨rfl, hb1⟩
  replace HK := Lib.hid (HK.out.below hb1 HK.out.lt)
  replace HB0 := Lib.hid (HB0.out.trans (hb1.mono HB0.out.size))
  clear hb1
  have c0 := HK.out.at 0 (v := .int .i64 r.kind) rfl
  have c18 := HK.out.at 18 (v := .int .i64 r.time) rfl
  go_wp2_with fail
  refine (numbers_any _ _ [r.kind, r.time] _ (ints_lit w1 [r.kind, r.time] 3) (Nat.le_of_ble_eq_true rfl)).mono ?_
  rintro e w1 ⟨rfl, hb1⟩
  replace hb1 := below_box1 hb1
  clear c0 c18
  replace HK := Lib.hid (HK.out.below hb1 HK.out.lt)
  replace HB0 := Lib.hid (HB0.out.trans (hb1.mono HB0.out.size))
  clear hb1
  have s1 : (str (numL [r.kind, r.time])).size ≤ 18 := by rw [str_size]; exact numL_len [r.kind, r.time]
  generalize hS1 : str (numL [r.kind, r.time]) = S1 at s1 ⊢
  have HS1 := Lib.hid hS1
  clear hS1
  have c0 := HK.out.at 0 (v := .int .i64 r.kind) rfl
  have c1 := HK.out.at 1 (v := .int .i64 r.item.tick) rfl
  have c2 := HK.out.at 2 (v := .int .i64 r.item.id.src) rfl
  have c3 := HK.out.at 3 (v := .int .i64 r.item.id.cre) rfl
  have c4 := HK.out.at 4 (v := .int .i64 r.item.id.seq) rfl
  have c5 := HK.out.at 5 (v := .int .i64 r.item.id.off) rfl
  have c6 := HK.out.at 6 (v := .int .i64 r.item.id.tot) rfl
  have c7 := HK.out.at 7 (v := .int .i64 r.item.dest) rfl
  have c8 := HK.out.at 8 (v := .int .i64 r.item.exp) rfl
  have c9 := HK.out.at 9 (v := .int .i64 r.item.prio) rfl
  have c10 := HK.out.at 10 (v := .bool r.item.cust) rfl
  have c11 := HK.out.at 11 (v := .string r.item.data) rfl
  rw [hk.out] at c0
  rw [hcu.out] at c10
  go_wp2_with fail
  clear c0 c1 c2 c3 c4 c5 c6 c7 c8 c9 c10 c11
  change Calls _ _ _ (w1.alloc (.cells #[.int .i64 r.item.tick, .int .i64 r.item.id.src, .int .i64 r.item.id.cre, .int .i64 r.item.id.seq, .int .i64 r.item.id.off, .int .i64 r.item.id.tot, .int .i64 r.item.dest, .int .i64 r.item.exp, .int .i64 r.item.prio, .bool false, .string r.item.data] 32)) _
  have B1 := Bk.new w1 32 #[.int .i64 r.item.tick, .int .i64 r.item.id.src, .int .i64 r.item.id.cre, .int .i64 r.item.id.seq, .int .i64 r.item.id.off, .int .i64 r.item.id.tot, .int .i64 r.item.dest, .int .i64 r.item.exp, .int .i64 r.item.prio, .bool false, .string r.item.data]
  replace HK := Lib.hid (HK.out.alloc (.cells #[.int .i64 r.item.tick, .int .i64 r.item.id.src, .int .i64 r.item.id.cre, .int .i64 r.item.id.seq, .int .i64 r.item.id.off, .int .i64 r.item.id.tot, .int .i64 r.item.dest, .int .i64 r.item.exp, .int .i64 r.item.prio, .bool false, .string r.item.data] 32))
  replace HB0 := Lib.hid (HB0.out.alloc HB0.out.size (.cells #[.int .i64 r.item.tick, .int .i64 r.item.id.src, .int .i64 r.item.id.cre, .int .i64 r.item.id.seq, .int .i64 r.item.id.off, .int .i64 r.item.id.tot, .int .i64 r.item.dest, .int .i64 r.item.exp, .int .i64 r.item.prio, .bool false, .string r.item.data] 32))
  have HKI := Lib.hid B1
  clear B1
  generalize w1.alloc (.cells #[.int .i64 r.item.tick, .int .i64 r.item.id.src, .int .i64 r.item.id.cre, .int .i64 r.item.id.seq, .int .i64 r.item.id.off, .int .i64 r.item.id.tot, .int .i64 r.item.dest, .int .i64 r.item.exp, .int .i64 r.item.prio, .bool false, .string r.item.data] 32) = W1 at HK HB0 HKI ⊢
  generalize w1.heap.size = g at HKI ⊢
  refine (X.out _).mono ?_
  rintro e w1 ⟨rfl, hb1⟩
  replace HKI := Lib.hid (HKI.out.below hb1 HKI.out.lt)
  replace HK := Lib.hid (HK.out.below hb1 HK.out.lt)
  replace HB0 := Lib.hid (HB0.out.trans (hb1.mono HB0.out.size))
  clear hb1
  have d0 := HKI.out.at 0 (v := .int .i64 r.item.tick) rfl
  have d1 := HKI.out.at 1 (v := .int .i64 r.item.id.src) rfl
  have d2 := HKI.out.at 2 (v := .int .i64 r.item.id.cre) rfl
  have d3 := HKI.out.at 3 (v := .int .i64 r.item.id.seq) rfl
  have d4 := HKI.out.at 4 (v := .int .i64 r.item.id.off) rfl
  have d5 := HKI.out.at 5 (v := .int .i64 r.item.id.tot) rfl
  have d6 := HKI.out.at 6 (v := .int .i64 r.item.dest) rfl
  have d7 := HKI.out.at 7 (v := .int .i64 r.item.exp) rfl
  have d8 := HKI.out.at 8 (v := .int .i64 r.item.prio) rfl
  go_wp2_with fail
  refine (numbers_any _ _ (r.item.tick :: (idN r.item.id ++ [r.item.dest, r.item.exp, r.item.prio, 0])) _ (ints_lit w1 (r.item.tick :: (idN r.item.id ++ [r.item.dest, r.item.exp, r.item.prio, 0])) 3) (Nat.le_of_ble_eq_true rfl)).mono ?_
  rintro e w1 ⟨rfl, hb1⟩
  replace hb1 := below_box1 hb1
  clear d0 d1 d2 d3 d4 d5 d6 d7 d8
  replace HK := Lib.hid (HK.out.below hb1 HK.out.lt)
  replace HB0 := Lib.hid (HB0.out.trans (hb1.mono HB0.out.size))
  clear hb1
  have s2 : (str (numL (r.item.tick :: (idN r.item.id ++ [r.item.dest, r.item.exp, r.item.prio, 0])))).size ≤ 90 := by rw [str_size]; exact numL_len (r.item.tick :: (idN r.item.id ++ [r.item.dest, r.item.exp, r.item.prio, 0]))
  have s3 : (str T).size ≤ 65545 := by rw [str_size]; exact hT
  generalize hS2 : str (numL (r.item.tick :: (idN r.item.id ++ [r.item.dest, r.item.exp, r.item.prio, 0]))) = S2 at s2 ⊢
  generalize hS3 : str T = S3 at s3 ⊢
  have hsz : S2.size + S3.size ≤ 70000 := by omega
  have hsz2 : S1.size + (S2.size + S3.size) ≤ 70000 := by omega
  have hsz3 : (S2 ++ S3).size = S2.size + S3.size := ByteArray.size_append
  have hcat : S1 ++ (S2 ++ S3) = str (bodyL r) := by
    rw [← HS1.out, ← hS2, ← hS3, str_append, str_append, body_item (by have := hk.out; omega), itemL, HT.out, hcu.out]
    rfl
  clear hS2 hS3
  go_wp2_with fail
  refine (Z.out _).mono ?_
  rintro e w1 ⟨rfl, hb1⟩
  replace HK := Lib.hid (HK.out.below hb1 HK.out.lt)
  replace HB0 := Lib.hid (HB0.out.trans (hb1.mono HB0.out.size))
  clear hb1
  rcases sealE_cases (bodyL r) with hz | ⟨hz, hl⟩
  · have HZ := Lib.hid hz
    rw [hz]
    clear hz
    generalize str (sealL (bodyL r)) = F at HR ⊢
    go_wp2
    go_ret2
    exact ⟨two_e HR.out.1.symm (by rw [HR.out.2, HZ.out]), HB0.out⟩
  · have HZ := Lib.hid hz
    have HL := Lib.hid hl
    rw [hz, hl]
    rw [hl] at HR
    clear hz hl
    go_wp2
    go_ret2
    exact ⟨two_e HR.out.1.symm (by rw [HR.out.2, HZ.out]), HB0.out⟩

set_option maxHeartbeats 4000000 in
set_option maxRecDepth 100000 in
theorem encode_k3t (r : Rec) (w : World) (hk : Hid (r.kind = 3)) (hcu : Hid (r.item.cust = true)) (T : List UInt8) (hT : T.length ≤ 65545) (HT : Hid (Vi.textL r.item.data.data.toList = T))
    (X : Hid (∀ w, Calls Try.prog 35 #[.string r.item.data] w fun e w' => e = .returned (.tuple #[.string (str T), .int .i64 0]) ∧ Below w.heap.size w w'))
    (C1 : Hid (∀ w, Calls Try.prog 14 #[.agg (rcA r)] w fun e w' => e = .returned (.int .i64 0) ∧ Below w.heap.size w w')) (Z : Hid (∀ w, Calls Try.prog 36 #[.string (str (bodyL r))] w fun e w' => e = .returned (.tuple #[.string (str (sealL (bodyL r))), .int .i64 (sealE (bodyL r))]) ∧ Below w.heap.size w w')) (HR : Hid (str (recL r) = str (sealL (bodyL r)) ∧ recE r = sealE (bodyL r))) : Calls Try.prog 19 #[.agg (rcA r)] w fun e w' => e = .returned (.tuple #[.string (str (recL r)), .int .i64 (recE r)]) ∧ Below w.heap.size w w' := by
  have B0 := Bk.new w 34 (rcA r)
  have HB0 : Hid (Below w.heap.size w (w.alloc (.cells (rcA r) 34))) := (Below.refl _ _).alloc (Nat.le_refl _) _
  have hlc := loadCells_bk (P := Try.prog) B0 (Jo.rcA_size r)
  have HK := Lib.hid B0
  clear B0
  go_enter Try.func19, Try.ntmps19
  go_wp2_with fail
  generalize w.alloc (.cells (rcA r) 34) = W0 at HB0 HK hlc ⊢
  simp only [Try.isAgg34, Try.sizeOf34, Result.andThen, ↓reduceIte, hlc]
  rw [Oper.upon_value]
  clear hlc
  go_wp2_with fail
  refine (C1.out _).mono ?_
  rintro e w1 ⟨rfl, hb1⟩
  replace HK := Lib.hid (HK.out.below hb1 HK.out.lt)
  replace HB0 := Lib.hid (HB0.out.trans (hb1.mono HB0.out.size))
  clear hb1
  have c0 := HK.out.at 0 (v := .int .i64 r.kind) rfl
  have c18 := HK.out.at 18 (v := .int .i64 r.time) rfl
  go_wp2_with fail
  refine (numbers_any _ _ [r.kind, r.time] _ (ints_lit w1 [r.kind, r.time] 3) (Nat.le_of_ble_eq_true rfl)).mono ?_
  rintro e w1 ⟨rfl, hb1⟩
  replace hb1 := below_box1 hb1
  clear c0 c18
  replace HK := Lib.hid (HK.out.below hb1 HK.out.lt)
  replace HB0 := Lib.hid (HB0.out.trans (hb1.mono HB0.out.size))
  clear hb1
  have s1 : (str (numL [r.kind, r.time])).size ≤ 18 := by rw [str_size]; exact numL_len [r.kind, r.time]
  generalize hS1 : str (numL [r.kind, r.time]) = S1 at s1 ⊢
  have HS1 := Lib.hid hS1
  clear hS1
  have c0 := HK.out.at 0 (v := .int .i64 r.kind) rfl
  have c1 := HK.out.at 1 (v := .int .i64 r.item.tick) rfl
  have c2 := HK.out.at 2 (v := .int .i64 r.item.id.src) rfl
  have c3 := HK.out.at 3 (v := .int .i64 r.item.id.cre) rfl
  have c4 := HK.out.at 4 (v := .int .i64 r.item.id.seq) rfl
  have c5 := HK.out.at 5 (v := .int .i64 r.item.id.off) rfl
  have c6 := HK.out.at 6 (v := .int .i64 r.item.id.tot) rfl
  have c7 := HK.out.at 7 (v := .int .i64 r.item.dest) rfl
  have c8 := HK.out.at 8 (v := .int .i64 r.item.exp) rfl
  have c9 := HK.out.at 9 (v := .int .i64 r.item.prio) rfl
  have c10 := HK.out.at 10 (v := .bool r.item.cust) rfl
  have c11 := HK.out.at 11 (v := .string r.item.data) rfl
  rw [hk.out] at c0
  rw [hcu.out] at c10
  go_wp2_with fail
  clear c0 c1 c2 c3 c4 c5 c6 c7 c8 c9 c10 c11
  change Calls _ _ _ (w1.alloc (.cells #[.int .i64 r.item.tick, .int .i64 r.item.id.src, .int .i64 r.item.id.cre, .int .i64 r.item.id.seq, .int .i64 r.item.id.off, .int .i64 r.item.id.tot, .int .i64 r.item.dest, .int .i64 r.item.exp, .int .i64 r.item.prio, .bool true, .string r.item.data] 32)) _
  have B1 := Bk.new w1 32 #[.int .i64 r.item.tick, .int .i64 r.item.id.src, .int .i64 r.item.id.cre, .int .i64 r.item.id.seq, .int .i64 r.item.id.off, .int .i64 r.item.id.tot, .int .i64 r.item.dest, .int .i64 r.item.exp, .int .i64 r.item.prio, .bool true, .string r.item.data]
  replace HK := Lib.hid (HK.out.alloc (.cells #[.int .i64 r.item.tick, .int .i64 r.item.id.src, .int .i64 r.item.id.cre, .int .i64 r.item.id.seq, .int .i64 r.item.id.off, .int .i64 r.item.id.tot, .int .i64 r.item.dest, .int .i64 r.item.exp, .int .i64 r.item.prio, .bool true, .string r.item.data] 32))
  replace HB0 := Lib.hid (HB0.out.alloc HB0.out.size (.cells #[.int .i64 r.item.tick, .int .i64 r.item.id.src, .int .i64 r.item.id.cre, .int .i64 r.item.id.seq, .int .i64 r.item.id.off, .int .i64 r.item.id.tot, .int .i64 r.item.dest, .int .i64 r.item.exp, .int .i64 r.item.prio, .bool true, .string r.item.data] 32))
  have HKI := Lib.hid B1
  clear B1
  generalize w1.alloc (.cells #[.int .i64 r.item.tick, .int .i64 r.item.id.src, .int .i64 r.item.id.cre, .int .i64 r.item.id.seq, .int .i64 r.item.id.off, .int .i64 r.item.id.tot, .int .i64 r.item.dest, .int .i64 r.item.exp, .int .i64 r.item.prio, .bool true, .string r.item.data] 32) = W1 at HK HB0 HKI ⊢
  generalize w1.heap.size = g at HKI ⊢
  refine (X.out _).mono ?_
  rintro e w1 ⟨rfl, hb1⟩
  replace HKI := Lib.hid (HKI.out.below hb1 HKI.out.lt)
  replace HK := Lib.hid (HK.out.below hb1 HK.out.lt)
  replace HB0 := Lib.hid (HB0.out.trans (hb1.mono HB0.out.size))
  clear hb1
  have d0 := HKI.out.at 0 (v := .int .i64 r.item.tick) rfl
  have d1 := HKI.out.at 1 (v := .int .i64 r.item.id.src) rfl
  have d2 := HKI.out.at 2 (v := .int .i64 r.item.id.cre) rfl
  have d3 := HKI.out.at 3 (v := .int .i64 r.item.id.seq) rfl
  have d4 := HKI.out.at 4 (v := .int .i64 r.item.id.off) rfl
  have d5 := HKI.out.at 5 (v := .int .i64 r.item.id.tot) rfl
  have d6 := HKI.out.at 6 (v := .int .i64 r.item.dest) rfl
  have d7 := HKI.out.at 7 (v := .int .i64 r.item.exp) rfl
  have d8 := HKI.out.at 8 (v := .int .i64 r.item.prio) rfl
  go_wp2_with fail
  refine (numbers_any _ _ (r.item.tick :: (idN r.item.id ++ [r.item.dest, r.item.exp, r.item.prio, 1])) _ (ints_lit w1 (r.item.tick :: (idN r.item.id ++ [r.item.dest, r.item.exp, r.item.prio, 1])) 3) (Nat.le_of_ble_eq_true rfl)).mono ?_
  rintro e w1 ⟨rfl, hb1⟩
  replace hb1 := below_box1 hb1
  clear d0 d1 d2 d3 d4 d5 d6 d7 d8
  replace HK := Lib.hid (HK.out.below hb1 HK.out.lt)
  replace HB0 := Lib.hid (HB0.out.trans (hb1.mono HB0.out.size))
  clear hb1
  have s2 : (str (numL (r.item.tick :: (idN r.item.id ++ [r.item.dest, r.item.exp, r.item.prio, 1])))).size ≤ 90 := by rw [str_size]; exact numL_len (r.item.tick :: (idN r.item.id ++ [r.item.dest, r.item.exp, r.item.prio, 1]))
  have s3 : (str T).size ≤ 65545 := by rw [str_size]; exact hT
  generalize hS2 : str (numL (r.item.tick :: (idN r.item.id ++ [r.item.dest, r.item.exp, r.item.prio, 1]))) = S2 at s2 ⊢
  generalize hS3 : str T = S3 at s3 ⊢
  have hsz : S2.size + S3.size ≤ 70000 := by omega
  have hsz2 : S1.size + (S2.size + S3.size) ≤ 70000 := by omega
  have hsz3 : (S2 ++ S3).size = S2.size + S3.size := ByteArray.size_append
  have hcat : S1 ++ (S2 ++ S3) = str (bodyL r) := by
    rw [← HS1.out, ← hS2, ← hS3, str_append, str_append, body_item (by have := hk.out; omega), itemL, HT.out, hcu.out]
    rfl
  clear hS2 hS3
  go_wp2_with fail
  refine (Z.out _).mono ?_
  rintro e w1 ⟨rfl, hb1⟩
  replace HK := Lib.hid (HK.out.below hb1 HK.out.lt)
  replace HB0 := Lib.hid (HB0.out.trans (hb1.mono HB0.out.size))
  clear hb1
  rcases sealE_cases (bodyL r) with hz | ⟨hz, hl⟩
  · have HZ := Lib.hid hz
    rw [hz]
    clear hz
    generalize str (sealL (bodyL r)) = F at HR ⊢
    go_wp2
    go_ret2
    exact ⟨two_e HR.out.1.symm (by rw [HR.out.2, HZ.out]), HB0.out⟩
  · have HZ := Lib.hid hz
    have HL := Lib.hid hl
    rw [hz, hl]
    rw [hl] at HR
    clear hz hl
    go_wp2
    go_ret2
    exact ⟨two_e HR.out.1.symm (by rw [HR.out.2, HZ.out]), HB0.out⟩

theorem textL_len9 {l : List UInt8} (h : l.length ≤ 65536) : (Vi.textL l).length ≤ 65545 := by
  unfold Vi.textL
  rw [if_pos h, List.length_append]
  have := Vi.intL_len9 (l.length : Int)
  omega
theorem numL1_len (a : Int) : (numL [a]).length ≤ 9 := numL_len [a]
theorem body_len {r : Rec} (h : ck r = 0) : (bodyL r).length ≤ 70000 := by
  have h1 : (numL [r.kind, r.time]).length ≤ 18 := numL_len [r.kind, r.time]
  have h2 : (numL (idN r.id)).length ≤ 45 := numL_len (idN r.id)
  have h3 : (numL [r.tick]).length ≤ 9 := numL_len [r.tick]
  by_cases hk : r.kind = 1 ∨ r.kind = 3
  · rw [body_item hk, List.length_append, itemL, List.length_append]
    have h4 : (numL (r.item.tick :: (idN r.item.id ++ [r.item.dest, r.item.exp, r.item.prio, if r.item.cust then 1 else 0]))).length ≤ 90 := numL_len _
    have h5 := textL_len9 (l := r.item.data.data.toList) (by have := ck_size h hk; simpa using this)
    omega
  · unfold bodyL
    rw [if_neg hk, List.length_append, List.length_append]
    split
    · omega
    · simp only [List.length_nil]; omega

theorem encode_any (r : Rec) (hr : r.item.data.size ≤ maxLen) (w : World) : Calls Try.prog 19 #[.agg (rcA r)] w fun e w' => e = .returned (.tuple #[.string (str (recL r)), .int .i64 (recE r)]) ∧ Below w.heap.size w w' := by
  have C1 := fun w => check_any r hr w
  by_cases h : ck r = 0
  · rw [h] at C1
    have Z := fun w => seal_any (str (bodyL r)) (by rw [str_size]; have := body_len h; unfold maxLen; omega) w
    rw [str_list] at Z
    have HR : str (recL r) = str (sealL (bodyL r)) ∧ recE r = sealE (bodyL r) := ⟨by rw [(rec_yes h).1], (rec_yes h).2⟩
    have X : r.kind = 1 ∨ r.kind = 3 → ∀ w, Calls Try.prog 35 #[.string r.item.data] w fun e w' => e = .returned (.tuple #[.string (str (Vi.textL r.item.data.data.toList)), .int .i64 0]) ∧ Below w.heap.size w w' := fun hk w => by
      have hs := ck_size h hk
      have := text_any r.item.data hr w
      rwa [show Vi.textE r.item.data.data.toList = 0 by unfold Vi.textE; rw [if_pos (by simpa using hs)]] at this
    have L : r.kind = 1 ∨ r.kind = 3 → (Vi.textL r.item.data.data.toList).length ≤ 65545 := fun hk => textL_len9 (by have := ck_size h hk; simpa using this)
    rcases ck_ranges h with hk | hk | hk | hk
    · cases hc : r.item.cust
      · exact encode_k1f r w (Lib.hid hk) (Lib.hid hc) _ (L (.inl hk)) (Lib.hid rfl) (Lib.hid (X (.inl hk))) (Lib.hid C1) (Lib.hid Z) (Lib.hid HR)
      · exact encode_k1t r w (Lib.hid hk) (Lib.hid hc) _ (L (.inl hk)) (Lib.hid rfl) (Lib.hid (X (.inl hk))) (Lib.hid C1) (Lib.hid Z) (Lib.hid HR)
    · exact encode_k2 r w (Lib.hid hk) (Lib.hid C1) (Lib.hid Z) (Lib.hid HR)
    · cases hc : r.item.cust
      · exact encode_k3f r w (Lib.hid hk) (Lib.hid hc) _ (L (.inr hk)) (Lib.hid rfl) (Lib.hid (X (.inr hk))) (Lib.hid C1) (Lib.hid Z) (Lib.hid HR)
      · exact encode_k3t r w (Lib.hid hk) (Lib.hid hc) _ (L (.inr hk)) (Lib.hid rfl) (Lib.hid (X (.inr hk))) (Lib.hid C1) (Lib.hid Z) (Lib.hid HR)
    · exact encode_k4 r w (Lib.hid hk) (Lib.hid C1) (Lib.hid Z) (Lib.hid HR)
  · exact encode_a r w (ck r) (by rw [bne_iff_ne]; exact h) (Lib.hid C1) (Lib.hid (rec_no h))
end Go.Proofs.Ytlknjdfiedkhbaa
