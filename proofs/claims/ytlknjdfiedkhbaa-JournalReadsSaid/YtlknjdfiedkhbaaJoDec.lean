/- What reading a journal yields, as plain data: decoding undoes encoding, what is decoded is the encoding of the result; a cut, a damage. No program is in sight here. -/
import Derived.Test.YtlknjdfiedkhbaaJoApp
import Derived.Test.YtlknjdfiedkhbaaCrcW
namespace Go.Proofs.Ytlknjdfiedkhbaa
open Go Go.RowKit
open Jo (RId Itm Rec wi vId ckI ck zId zIt)

/-- some numbers at the beginning, what is behind them, and whether something was wrong -/
def rdN : Nat → List UInt8 → List Int × List UInt8 × Bool
  | 0, l => ([], l, false)
  | n + 1, l => if (Vi.rd l).2.2 = 0 then ((Vi.rd l).1 :: (rdN n (l.drop (Vi.rd l).2.1)).1, (rdN n (l.drop (Vi.rd l).2.1)).2) else ([], l, true)
/-- the same behind a reader that may have failed before -/
def rdS (n : Nat) (q : List UInt8 × Bool) : List Int × List UInt8 × Bool := if q.2 then ([], q.1, true) else rdN n q.1
def at_ (l : List Int) (k : Nat) : Int := l[k]?.getD 0
def idOf (l : List Int) (k : Nat) : RId := ⟨at_ l k, at_ l (k + 1), at_ l (k + 2), at_ l (k + 3), at_ l (k + 4)⟩

theorem rdN_len : ∀ (n : Nat) (l : List UInt8), (rdN n l).1.length ≤ n ∧ ((rdN n l).2.2 = false → (rdN n l).1.length = n)
  | 0, l => by simp [rdN]
  | n + 1, l => by
    have h := rdN_len n (l.drop (Vi.rd l).2.1)
    unfold rdN
    split
    · exact ⟨by simpa using h.1, fun c => by simpa using h.2 c⟩
    · simp
theorem rdN_size : ∀ (n : Nat) (l : List UInt8), (rdN n l).2.1.length ≤ l.length
  | 0, l => by simp [rdN]
  | n + 1, l => by
    have h := rdN_size n (l.drop (Vi.rd l).2.1)
    unfold rdN
    split
    · simp only [List.length_drop] at h; exact Nat.le_trans h (Nat.sub_le _ _)
    · exact Nat.le_refl _
theorem rdN_add : ∀ (a b : Nat) (l : List UInt8), (rdN a l).2.2 = false → rdN (a + b) l = ((rdN a l).1 ++ (rdN b (rdN a l).2.1).1, (rdN b (rdN a l).2.1).2)
  | 0, b, l, _ => by simp [rdN]
  | a + 1, b, l, h => by
    by_cases c : (Vi.rd l).2.2 = 0
    · have e : rdN (a + 1) l = ((Vi.rd l).1 :: (rdN a (l.drop (Vi.rd l).2.1)).1, (rdN a (l.drop (Vi.rd l).2.1)).2) := by rw [rdN, if_pos c]
      have e2 : rdN (a + 1 + b) l = ((Vi.rd l).1 :: (rdN (a + b) (l.drop (Vi.rd l).2.1)).1, (rdN (a + b) (l.drop (Vi.rd l).2.1)).2) := by rw [Nat.add_right_comm, rdN, if_pos c]
      rw [e] at h ⊢
      rw [e2, rdN_add a b _ h]
      rfl
    · rw [rdN, if_neg c] at h; exact absurd h (by simp)
theorem rdN_bad : ∀ (a b : Nat) (l : List UInt8), (rdN a l).2.2 = true → (rdN (a + b) l).2.2 = true
  | 0, b, l, h => by simp [rdN] at h
  | a + 1, b, l, h => by
    by_cases c : (Vi.rd l).2.2 = 0
    · rw [rdN, if_pos c] at h
      rw [Nat.add_right_comm, rdN, if_pos c]
      exact rdN_bad a b _ h
    · rw [Nat.add_right_comm, rdN, if_neg c]
theorem rdN_enc : ∀ (xs : List Int) (R : List UInt8), xs.all Vi.inR = true → rdN xs.length (numL xs ++ R) = (xs, R, false)
  | [], R, _ => rfl
  | x :: xs, R, h => by
    simp only [List.all_cons, Bool.and_eq_true] at h
    have e : numL (x :: xs) ++ R = Vi.intL x ++ (numL xs ++ R) := by simp [numL]
    have hr := Vi.rd_enc x (numL xs ++ R) h.1
    rw [e, List.length_cons, rdN, hr]
    simp only [if_true, List.drop_left]
    rw [rdN_enc xs R h.2]
theorem rdN_canon : ∀ (n : Nat) (l : List UInt8), (rdN n l).2.2 = false → numL (rdN n l).1 ++ (rdN n l).2.1 = l ∧ (rdN n l).1.all Vi.inR = true
  | 0, l, _ => by simp [rdN, numL]
  | n + 1, l, h => by
    by_cases c : (Vi.rd l).2.2 = 0
    · rw [rdN, if_pos c] at h ⊢
      obtain ⟨h1, h2⟩ := rdN_canon n _ h
      obtain ⟨r1, _, _, r4, _⟩ := Vi.rd_range l c
      refine ⟨?_, by simp [r1, h2]⟩
      show numL ((Vi.rd l).1 :: (rdN n (l.drop (Vi.rd l).2.1)).1) ++ (rdN n (l.drop (Vi.rd l).2.1)).2.1 = l
      have e : ∀ xs, numL ((Vi.rd l).1 :: xs) = Vi.intL (Vi.rd l).1 ++ numL xs := fun xs => by simp [numL]
      rw [e, r4, List.append_assoc, h1, List.take_append_drop]
    · rw [rdN, if_neg c] at h; exact absurd h (by simp)

/-- the record with the contents of a frame -/
def parseA (k t : Int) (l : List UInt8) : Option Rec :=
  if (rdN 10 l).2.2 then none
  else if wi (at_ (rdN 10 l).1 9) 0 1 = true ∧ (Vi.rtext (rdN 10 l).2.1).2.2 = 0 ∧ (rdN 10 l).2.1.drop (Vi.rtext (rdN 10 l).2.1).2.1 = [] then
    some ⟨k, ⟨at_ (rdN 10 l).1 0, idOf (rdN 10 l).1 1, at_ (rdN 10 l).1 6, at_ (rdN 10 l).1 7, at_ (rdN 10 l).1 8, decide (at_ (rdN 10 l).1 9 = 1), str (Vi.rtext (rdN 10 l).2.1).1⟩, zId, 0, t⟩
  else none
def parseB (k t : Int) (l : List UInt8) : Option Rec :=
  if (rdN (if k = 4 then 6 else 5) l).2.2 = false ∧ (rdN (if k = 4 then 6 else 5) l).2.1 = [] then
    some ⟨k, zIt, idOf (rdN (if k = 4 then 6 else 5) l).1 0, if k = 4 then at_ (rdN (if k = 4 then 6 else 5) l).1 5 else 0, t⟩
  else none
def parse0 (l : List UInt8) : Option Rec :=
  if (rdN 2 l).2.2 then none
  else if at_ (rdN 2 l).1 0 = 1 ∨ at_ (rdN 2 l).1 0 = 3 then parseA (at_ (rdN 2 l).1 0) (at_ (rdN 2 l).1 1) (rdN 2 l).2.1
  else parseB (at_ (rdN 2 l).1 0) (at_ (rdN 2 l).1 1) (rdN 2 l).2.1
def parseL (l : List UInt8) : Option Rec := (parse0 l).filter fun r => ck r = 0
/-- the record at the beginning of a journal, and its size -/
def firstL (l : List UInt8) : Option (Rec × Nat) := if (openR l).2.2 = 0 then (parseL (openR l).1).map fun r => (r, (openR l).2.1) else none
/-- what Read answers -/
def readF : Nat → List UInt8 → List Rec × Nat
  | 0, _ => ([], 0)
  | f + 1, l => match firstL l with
    | some (r, k) => (r :: (readF f (l.drop k)).1, k + (readF f (l.drop k)).2)
    | none => ([], 0)
def readL (l : List UInt8) : List Rec × Nat := readF l.length l

/-! What Check says of the numbers of a record. -/
theorem wi_in {n lo hi : Int} (h : wi n lo hi = true) (h1 : -1152921504606846976 ≤ lo) (h2 : hi ≤ 1152921504606846976) : Vi.inR n = true := by
  rw [Vi.inR_iff]; unfold Vi.big; simp [wi] at h; omega
theorem vId_in {x : RId} (h : vId x = true) : (idN x).all Vi.inR = true := by
  unfold vId at h
  simp only [Bool.and_eq_true, Bool.or_eq_true] at h
  obtain ⟨⟨⟨h1, h2⟩, h3⟩, h4⟩ := h
  have a1 := wi_in h1 (by decide) (by decide)
  have a2 := wi_in h2 (by decide) (by decide)
  have a3 := wi_in h3 (by decide) (by decide)
  have a45 : Vi.inR x.off = true ∧ Vi.inR x.tot = true := by
    rcases h4 with ⟨e1, e2⟩ | ⟨e1, e2⟩
    · have e1' := of_decide_eq_true e1
      have e2' := of_decide_eq_true e2
      rw [e1', e2']; exact ⟨by decide, by decide⟩
    · refine ⟨?_, wi_in e1 (by decide) (by decide)⟩
      rw [Vi.inR_iff]; unfold Vi.big; simp [wi] at e1 e2; omega
  simp [idN, a1, a2, a3, a45.1, a45.2]
theorem ckI_ok {x : Itm} (h : ckI x = 0) : vId x.id = true ∧ wi x.tick 0 1152921504606846976 = true ∧ wi x.dest 0 15 = true ∧ wi x.exp 1 1099511627776 = true ∧ wi x.prio 0 2 = true ∧ wi x.data.size 1 65536 = true := by
  unfold ckI at h
  split at h
  · rename_i c
    simp only [Bool.and_eq_true] at c
    obtain ⟨⟨⟨⟨c1, c2⟩, c3⟩, c4⟩, c5⟩ := c
    split at h
    · rename_i c6; exact ⟨c1, c2, c3, c4, c5, c6⟩
    · exact absurd h (by decide)
  · exact absurd h (by decide)
theorem ck_ok {r : Rec} (h : ck r = 0) : wi r.kind 1 4 = true ∧ wi r.time 0 1099511627776 = true ∧
    (((r.kind = 1 ∨ r.kind = 3) ∧ ckI r.item = 0 ∧ r.id = zId ∧ r.tick = 0) ∨
     (¬ (r.kind = 1 ∨ r.kind = 3) ∧ vId r.id = true ∧ (r.kind = 4 → wi r.tick 0 1152921504606846976 = true) ∧ r.item = zIt ∧ (r.kind = 2 → r.tick = 0))) := by
  unfold ck at h
  split at h
  · rename_i h1
    split at h
    · rename_i h2
      refine ⟨h1, h2, ?_⟩
      split at h
      · rename_i h3
        refine .inl ⟨h3, ?_⟩
        split at h
        · rename_i h4
          split at h
          · rename_i h5; exact ⟨h4, h5.1, h5.2⟩
          · exact absurd h (by decide)
        · rename_i h4; exact absurd h h4
      · rename_i h3
        refine .inr ⟨h3, ?_⟩
        split at h
        · rename_i h4
          simp only [Bool.and_eq_true, Bool.or_eq_true, Bool.not_eq_true', decide_eq_false_iff_not] at h4
          split at h
          · rename_i h5
            exact ⟨h4.1, fun c => h4.2.resolve_left (fun d => d c), h5.1, fun c => Classical.byContradiction fun d => h5.2 ⟨c, d⟩⟩
          · exact absurd h (by decide)
        · exact absurd h (by decide)
    · exact absurd h (by decide)
  · exact absurd h (by decide)

/-! Decoding undoes encoding. -/
theorem numL_cons (x : Int) (xs : List Int) : numL (x :: xs) = Vi.intL x ++ numL xs := by simp [numL]
theorem parse_item {r : Rec} (h : ck r = 0) (hk : r.kind = 1 ∨ r.kind = 3) : parseA r.kind r.time (itemL r.item) = some r := by
  obtain ⟨_, _, ⟨_, hi, hid, ht⟩ | ⟨hn, _⟩⟩ := ck_ok h
  · obtain ⟨i1, i2, i3, i4, i5, i6⟩ := ckI_ok hi
    obtain ⟨k, x, id, tk, tm⟩ := r
    simp only at hid ht hi i1 i2 i3 i4 i5 i6 ⊢
    subst hid ht
    obtain ⟨tick, ⟨x1, x2, x3, x4, x5⟩, dest, exp, prio, cust, data⟩ := x
    simp only at hi i1 i2 i3 i4 i5 i6
    have hall : (tick :: (idN ⟨x1, x2, x3, x4, x5⟩ ++ [dest, exp, prio, if cust then 1 else 0])).all Vi.inR = true := by
      have a := vId_in i1
      have b2 := wi_in i2 (by decide) (by decide)
      have b3 := wi_in i3 (by decide) (by decide)
      have b4 := wi_in i4 (by decide) (by decide)
      have b5 := wi_in i5 (by decide) (by decide)
      have b6 : Vi.inR (if cust then 1 else 0) = true := by cases cust <;> decide
      simp [List.all_cons, List.all_append, a, b2, b3, b4, b5, b6]
    have hsz : data.data.toList.length ≤ 65536 := by
      simp [wi] at i6
      have : data.size ≤ 65536 := by omega
      simpa using this
    have e := rdN_enc _ (Vi.textL data.data.toList) hall
    have ht := Vi.rtext_enc data.data.toList [] hsz
    rw [List.append_nil] at ht
    have hl : (tick :: (idN ⟨x1, x2, x3, x4, x5⟩ ++ [dest, exp, prio, if cust then 1 else 0])).length = 10 := rfl
    rw [hl] at e
    unfold parseA itemL
    simp only [e, ht, List.drop_length]
    cases cust <;> simp [at_, idN, idOf, wi, str_self, zId]
  · exact absurd hk hn
theorem parse_rest {r : Rec} (h : ck r = 0) (hk : ¬ (r.kind = 1 ∨ r.kind = 3)) : parseB r.kind r.time (numL (idN r.id) ++ (if r.kind = 4 then numL [r.tick] else [])) = some r := by
  obtain ⟨h1, _, ⟨hn, _⟩ | ⟨_, hv, h4, hi, h2⟩⟩ := ck_ok h
  · exact absurd hn hk
  · have hall := vId_in hv
    obtain ⟨k, x, ⟨x1, x2, x3, x4, x5⟩, tk, tm⟩ := r
    simp only at hk h1 hv h4 hi h2 hall ⊢
    subst hi
    unfold parseB
    by_cases c : k = 4
    · have b := wi_in (h4 c) (by decide) (by decide)
      have e := rdN_enc (idN ⟨x1, x2, x3, x4, x5⟩ ++ [tk]) [] (by simp [List.all_append, hall, b])
      rw [numL_append, List.append_nil] at e
      have hl : (idN ⟨x1, x2, x3, x4, x5⟩ ++ [tk]).length = 6 := rfl
      rw [hl] at e
      simp only [if_pos c, e]
      simp [at_, idN, idOf]
    · have e := rdN_enc (idN ⟨x1, x2, x3, x4, x5⟩) [] hall
      have hl : (idN ⟨x1, x2, x3, x4, x5⟩).length = 5 := rfl
      rw [hl] at e
      have ht : tk = 0 := h2 (by simp [wi] at h1; omega)
      simp only [if_neg c, e]
      simp [at_, idN, idOf, ht]
theorem parse_body {r : Rec} (h : ck r = 0) : parseL (bodyL r) = some r := by
  obtain ⟨h1, h2, _⟩ := ck_ok h
  have b1 := wi_in h1 (by decide) (by decide)
  have b2 := wi_in h2 (by decide) (by decide)
  have key : ∀ R, parse0 (numL [r.kind, r.time] ++ R) = if r.kind = 1 ∨ r.kind = 3 then parseA r.kind r.time R else parseB r.kind r.time R := fun R => by
    have e := rdN_enc [r.kind, r.time] R (by simp [b1, b2])
    have hl : [r.kind, r.time].length = 2 := rfl
    rw [hl] at e
    unfold parse0
    simp only [e]
    rfl
  have e0 : parse0 (bodyL r) = some r := by
    unfold bodyL
    rw [key]
    by_cases c : r.kind = 1 ∨ r.kind = 3
    · rw [if_pos c, if_pos c]; exact parse_item h c
    · rw [if_neg c, if_neg c]; exact parse_rest h c
  unfold parseL
  rw [e0]
  simp [Option.filter, h]
theorem rec_ok {r : Rec} (h : recE r = 0) : ck r = 0 ∧ (bodyL r).length ≤ 65536 ∧ recL r = sealL (bodyL r) := by
  by_cases c : ck r = 0
  · rw [(rec_yes c).2] at h
    refine ⟨c, ?_, (rec_yes c).1⟩
    unfold sealE at h
    split at h
    · assumption
    · exact absurd h (by decide)
  · rw [(rec_no c).2] at h; exact absurd h c
theorem first_enc {r : Rec} (h : recE r = 0) (R : List UInt8) : firstL (recL r ++ R) = some (r, (recL r).length) := by
  obtain ⟨h1, h2, h3⟩ := rec_ok h
  have e := open_seal (bodyL r) R h2
  unfold firstL
  rw [h3, e]
  simp [parse_body h1]

/-! What is decoded is the encoding of the result. -/
theorem list10 {l : List Int} (h : l.length = 10) : l = [at_ l 0, at_ l 1, at_ l 2, at_ l 3, at_ l 4, at_ l 5, at_ l 6, at_ l 7, at_ l 8, at_ l 9] := by
  match l, h with
  | [a, b, c, d, e, f, g, i, j, k], _ => rfl
theorem list6 {l : List Int} (h : l.length = 6) : l = [at_ l 0, at_ l 1, at_ l 2, at_ l 3, at_ l 4, at_ l 5] := by
  match l, h with
  | [a, b, c, d, e, f], _ => rfl
theorem list5 {l : List Int} (h : l.length = 5) : l = [at_ l 0, at_ l 1, at_ l 2, at_ l 3, at_ l 4] := by
  match l, h with
  | [a, b, c, d, e], _ => rfl
theorem list2 {l : List Int} (h : l.length = 2) : l = [at_ l 0, at_ l 1] := by
  match l, h with
  | [a, b], _ => rfl
theorem text_canon {l : List UInt8} (h : (Vi.rtext l).2.2 = 0) (hd : l.drop (Vi.rtext l).2.1 = []) : Vi.textL (Vi.rtext l).1 = l := by
  have hx : Vi.rtext l = ((Vi.rtext l).1, (Vi.rtext l).2.1, 0) := by rw [← h]
  obtain ⟨_, _, _, h4⟩ := Vi.rtext_canon hx
  rw [h4]
  have := List.take_append_drop (Vi.rtext l).2.1 l
  rwa [hd, List.append_nil] at this
theorem parseA_canon {k t : Int} {l : List UInt8} {r : Rec} (h : parseA k t l = some r) : itemL r.item = l ∧ r.kind = k ∧ r.time = t := by
  unfold parseA at h
  split at h
  · exact absurd h (by simp)
  · rename_i h0
    split at h
    · rename_i h1
      obtain ⟨h1, h2, h3⟩ := h1
      simp only [Option.some.injEq] at h
      subst h
      refine ⟨?_, rfl, rfl⟩
      simp only [Bool.not_eq_true] at h0
      have hc := (rdN_canon 10 l h0).1
      have hl := list10 ((rdN_len 10 l).2 h0)
      have ht := text_canon h2 h3
      conv => rhs; rw [← hc, ← ht]
      conv => rhs; rw [hl]
      have hcu : (if decide (at_ (rdN 10 l).1 9 = 1) = true then (1 : Int) else 0) = at_ (rdN 10 l).1 9 := by
        simp [wi] at h1
        by_cases c : at_ (rdN 10 l).1 9 = 1
        · simp [c]
        · simp [c]; omega
      unfold itemL
      simp only [str_list, idN, idOf, hcu]
      rfl
    · exact absurd h (by simp)
theorem parseB_canon {k t : Int} {l : List UInt8} {r : Rec} (h : parseB k t l = some r) : numL (idN r.id) ++ (if r.kind = 4 then numL [r.tick] else []) = l ∧ r.kind = k ∧ r.time = t := by
  unfold parseB at h
  by_cases c : k = 4
  · simp only [if_pos c] at h
    split at h
    · rename_i h0
      obtain ⟨h0, h1⟩ := h0
      simp only [Option.some.injEq] at h
      subst h
      refine ⟨?_, rfl, rfl⟩
      simp only [if_pos c]
      have hc := (rdN_canon 6 l h0).1
      have hl := list6 ((rdN_len 6 l).2 h0)
      rw [h1, List.append_nil] at hc
      conv => rhs; rw [← hc, hl]
      rw [← numL_append]
      rfl
    · exact absurd h (by simp)
  · simp only [if_neg c] at h
    split at h
    · rename_i h0
      obtain ⟨h0, h1⟩ := h0
      simp only [Option.some.injEq] at h
      subst h
      refine ⟨?_, rfl, rfl⟩
      simp only [if_neg c]
      have hc := (rdN_canon 5 l h0).1
      have hl := list5 ((rdN_len 5 l).2 h0)
      rw [h1, List.append_nil] at hc
      conv => rhs; rw [← hc, hl]
      rw [List.append_nil]
      rfl
    · exact absurd h (by simp)
theorem parse_canon {l : List UInt8} {r : Rec} (h : parseL l = some r) : ck r = 0 ∧ bodyL r = l := by
  unfold parseL at h
  obtain ⟨h1, h2⟩ := Option.filter_eq_some_iff.1 h
  refine ⟨of_decide_eq_true h2, ?_⟩
  unfold parse0 at h1
  split at h1
  · exact absurd h1 (by simp)
  · rename_i h0
    simp only [Bool.not_eq_true] at h0
    have hc := (rdN_canon 2 l h0).1
    have hl := list2 ((rdN_len 2 l).2 h0)
    generalize at_ (rdN 2 l).1 0 = k at h1 hl
    generalize at_ (rdN 2 l).1 1 = t at h1 hl
    rw [hl] at hc
    unfold bodyL
    split at h1
    · rename_i c
      obtain ⟨e1, e2, e3⟩ := parseA_canon h1
      rw [← e2] at c
      rw [if_pos c, e1, e2, e3, hc]
    · rename_i c
      obtain ⟨e1, e2, e3⟩ := parseB_canon h1
      rw [← e2] at c
      rw [if_neg c, e1, e2, e3, hc]
theorem first_canon {l : List UInt8} {r : Rec} {k : Nat} (h : firstL l = some (r, k)) : recE r = 0 ∧ recL r = l.take k ∧ 1 ≤ k ∧ k ≤ l.length := by
  unfold firstL at h
  split at h
  · rename_i h0
    obtain ⟨r', h1, h2⟩ := Option.map_eq_some_iff.1 h
    simp only [Prod.mk.injEq] at h2
    obtain ⟨rfl, rfl⟩ := h2
    obtain ⟨c1, c2⟩ := parse_canon h1
    have hx : openR l = ((openR l).1, (openR l).2.1, 0) := by rw [← h0]
    obtain ⟨o1, o2, o3⟩ := open_canon hx
    have hy := rec_yes c1
    rw [c2] at hy
    have hE : sealE (openR l).1 = 0 := (seal_parts o1).2
    have hsz : 1 ≤ (openR l).2.1 := by
      have e := congrArg List.length o3
      rw [seal_size o1, List.length_take] at e
      omega
    exact ⟨by rw [hy.2, hE], by rw [hy.1, o3], hsz, o2⟩
  · exact absurd h (by simp)

/-! Read. -/
theorem readF_more : ∀ (f g : Nat) (l : List UInt8), l.length ≤ f → l.length ≤ g → readF f l = readF g l
  | 0, 0, _, _, _ => rfl
  | 0, g + 1, l, h, _ => by
    have : l = [] := List.eq_nil_of_length_eq_zero (by omega)
    subst this
    have e : firstL [] = none := by
      cases c : firstL [] with
      | none => rfl
      | some p => have := first_canon (r := p.1) (k := p.2) c; simp at this; omega
    rw [readF, readF, e]
  | f + 1, 0, l, _, h => by
    have : l = [] := List.eq_nil_of_length_eq_zero (by omega)
    subst this
    have e : firstL [] = none := by
      cases c : firstL [] with
      | none => rfl
      | some p => have := first_canon (r := p.1) (k := p.2) c; simp at this; omega
    rw [readF, readF, e]
  | f + 1, g + 1, l, h1, h2 => by
    cases c : firstL l with
    | none => simp only [readF, c]
    | some p =>
      obtain ⟨r, k⟩ := p
      have hc := first_canon c
      simp only [readF, c]
      rw [readF_more f g (l.drop k) (by rw [List.length_drop]; omega) (by rw [List.length_drop]; omega)]
theorem read_none {l : List UInt8} (h : firstL l = none) : readL l = ([], 0) := by
  unfold readL
  cases l with
  | nil => rfl
  | cons a l => rw [List.length_cons, readF, h]
theorem read_some {l : List UInt8} {r : Rec} {k : Nat} (h : firstL l = some (r, k)) : readL l = (r :: (readL (l.drop k)).1, k + (readL (l.drop k)).2) := by
  have hc := first_canon h
  unfold readL
  obtain ⟨n, hn⟩ : ∃ n, l.length = n + 1 := ⟨l.length - 1, by omega⟩
  rw [hn, readF, h]
  simp only
  rw [readF_more n (l.drop k).length (l.drop k) (by rw [List.length_drop]; omega) (Nat.le_refl _)]
theorem catL_cons (r : Rec) (l : List Rec) : catL (r :: l) = recL r ++ catL l := by simp [catL]
theorem catL_append (a b : List Rec) : catL (a ++ b) = catL a ++ catL b := by simp [catL]
theorem errL_cons {r : Rec} {l : List Rec} (h : errL (r :: l) = 0) : recE r = 0 ∧ errL l = 0 := by
  unfold errL at h
  split at h
  · exact ⟨‹_›, h⟩
  · exact absurd h ‹_›
theorem read_cat : ∀ (l : List Rec) (R : List UInt8), errL l = 0 → readL (catL l ++ R) = (l ++ (readL R).1, (catL l).length + (readL R).2)
  | [], R, _ => by simp [catL]
  | r :: l, R, h => by
    obtain ⟨h1, h2⟩ := errL_cons h
    have e : catL (r :: l) ++ R = recL r ++ (catL l ++ R) := by rw [catL_cons, List.append_assoc]
    rw [e, read_some (first_enc h1 _), List.drop_left, read_cat l R h2, catL_cons, List.length_append]
    simp [Nat.add_assoc]
theorem read_all (l : List Rec) (h : errL l = 0) : readL (catL l) = (l, (catL l).length) := by
  have e := read_cat l [] h
  rw [List.append_nil] at e
  have e0 : readL [] = ([], 0) := rfl
  rw [e, e0]
  simp
theorem read_canonN : ∀ (n : Nat) (s : List UInt8), s.length ≤ n → errL (readL s).1 = 0 ∧ catL (readL s).1 = s.take (readL s).2 ∧ (readL s).2 ≤ s.length ∧ (readL s).1.length ≤ s.length
  | n, s, hn => by
    cases c : firstL s with
    | none => rw [read_none c]; simp [errL, catL]
    | some p =>
      obtain ⟨r, k⟩ := p
      obtain ⟨h1, h2, h3, h4⟩ := first_canon c
      match n, hn with
      | 0, hn => omega
      | n + 1, hn =>
        obtain ⟨i1, i2, i3, i4⟩ := read_canonN n (s.drop k) (by rw [List.length_drop]; omega)
        rw [List.length_drop] at i3 i4
        rw [read_some c]
        refine ⟨?_, ?_, by simp only; omega, by simp only [List.length_cons]; omega⟩
        · simp only [errL, h1, if_true]; exact i1
        · simp only
          rw [catL_cons, h2, i2, List.take_add]
theorem read_canon (s : List UInt8) : errL (readL s).1 = 0 ∧ catL (readL s).1 = s.take (readL s).2 ∧ (readL s).2 ≤ s.length ∧ (readL s).1.length ≤ s.length := read_canonN s.length s (Nat.le_refl _)

/-! A cut; a damage. -/
theorem first_open {l : List UInt8} (h : (openR l).2.2 ≠ 0) : firstL l = none := by unfold firstL; rw [if_neg h]
theorem first_cut {r : Rec} (h : recE r = 0) (q : Nat) (hq : q < (recL r).length) : firstL ((recL r).take q) = none := by
  obtain ⟨h1, h2, h3⟩ := rec_ok h
  rw [h3] at hq ⊢
  refine first_open ?_
  rw [cut_short h2 q hq]; decide
end Go.Proofs.Ytlknjdfiedkhbaa
