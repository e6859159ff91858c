/- What the journal's reader makes of a frame, call by call, against the plain parser; and what lies behind its pointers. No condition. -/
import Derived.Test.YtlknjdfiedkhbaaJoReadN
namespace Go.Proofs.Ytlknjdfiedkhbaa
open Go Go.RowKit
open Jo (RId Itm Rec wi zId zIt rcA rcL)

theorem rdN_stay : ∀ (a b : Nat) (l : List UInt8), (rdN a l).2.2 = true → rdN (a + b) l = rdN a l
  | 0, b, l, h => by simp [rdN] at h
  | a + 1, b, l, h => by
    by_cases c : (Vi.rd l).2.2 = 0
    · rw [rdN, if_pos c] at h
      have := rdN_stay a b _ h
      rw [Nat.add_right_comm, rdN, rdN, if_pos c, if_pos c, this]
    · rw [Nat.add_right_comm, rdN, rdN, if_neg c, if_neg c]
theorem rdS_add (a b : Nat) (q : List UInt8 × Bool) : rdS (a + b) q = ((rdS a q).1 ++ (rdS b (rdS a q).2).1, (rdS b (rdS a q).2).2) := by
  obtain ⟨l, c⟩ := q
  cases c with
  | true => simp [rdS]
  | false =>
    have e : ∀ n, rdS n (l, false) = rdN n l := fun n => rfl
    rw [e, e]
    cases h : (rdN a l).2.2 with
    | true =>
      rw [rdN_stay a b l h]
      have : rdS b (rdN a l).2 = ([], (rdN a l).2.1, true) := by unfold rdS; rw [h]; rfl
      rw [this, List.append_nil, ← h]
    | false =>
      rw [rdN_add a b l h]
      have : rdS b (rdN a l).2 = rdN b (rdN a l).2.1 := by unfold rdS; rw [h]; rfl
      rw [this]
theorem rdS_len {n : Nat} {q : List UInt8 × Bool} {xs : List Int} {r : List UInt8} {c : Bool} (h : rdS n q = (xs, r, c)) (hc : c = false) : xs.length = n ∧ q.2 = false := by
  obtain ⟨l, b⟩ := q
  cases b with
  | true => simp [rdS] at h; rw [hc] at h; exact absurd h.2.2 (by decide)
  | false =>
    have := (rdN_len n l).2
    unfold rdS at h
    simp only [Bool.false_eq_true, if_false] at h
    rw [h] at this
    exact ⟨this hc, rfl⟩
theorem rdS_size {n : Nat} {q : List UInt8 × Bool} {xs : List Int} {r : List UInt8} {c : Bool} (h : rdS n q = (xs, r, c)) : r.length ≤ q.1.length := by
  obtain ⟨l, b⟩ := q
  cases b with
  | true => simp [rdS] at h; rw [h.2.1]; exact Nat.le_refl _
  | false =>
    have := rdN_size n l
    unfold rdS at h
    simp only [Bool.false_eq_true, if_false] at h
    rw [h] at this
    exact this

theorem parse_bad {l l1 : List UInt8} {ns : List Int} (h : rdS 2 (l, false) = (ns, l1, true)) : parse0 l = none := by
  have e : rdN 2 l = (ns, l1, true) := h
  unfold parse0
  rw [e]
  rfl
theorem record_stored {l l1 l2 l3 l4 : List UInt8} {n1 n2 n3 n4 : List Int} {b1 b2 b3 b4 : Bool} (h1 : rdS 2 (l, false) = (n1, l1, b1)) (h2 : rdS 1 (l1, b1) = (n2, l2, b2)) (h3 : rdS 5 (l2, b2) = (n3, l3, b3)) (h4 : rdS 4 (l3, b3) = (n4, l4, b4))
    (hk : at_ n1 0 = 1 ∨ at_ n1 0 = 3) : parse0 l = if b4 = false ∧ wi (at_ n4 3) 0 1 = true ∧ (Vi.rtext l4).2.2 = 0 ∧ l4.drop (Vi.rtext l4).2.1 = [] then
      some ⟨at_ n1 0, ⟨at_ n2 0, idOf n3 0, at_ n4 0, at_ n4 1, at_ n4 2, decide (at_ n4 3 = 1), str (Vi.rtext l4).1⟩, zId, 0, at_ n1 1⟩ else none := by
  have e10 : rdS 10 (l1, b1) = (n2 ++ (n3 ++ n4), l4, b4) := by
    rw [rdS_add 1 9, h2, rdS_add 5 4]
    simp only [h3, h4]
  cases b1 with
  | true =>
    have : b4 = true := by
      simp only [rdS, if_true, Prod.mk.injEq] at e10
      exact e10.2.2.symm
    rw [parse_bad h1, if_neg (by rw [this]; simp)]
  | false =>
    have e2 : rdN 2 l = (n1, l1, false) := h1
    have e10' : rdN 10 l1 = (n2 ++ (n3 ++ n4), l4, b4) := e10
    unfold parse0 parseA
    simp only [e2, e10', if_pos hk, Bool.false_eq_true, if_false]
    cases b4 with
    | true => simp
    | false =>
      obtain ⟨q4, p4⟩ := rdS_len h4 rfl
      obtain ⟨q3, p3⟩ := rdS_len h3 p4
      obtain ⟨q2, _⟩ := rdS_len h2 p3
      match n2, q2, n3, q3, n4, q4 with
      | [_], _, [_, _, _, _, _], _, [_, _, _, _], _ => simp [at_, idOf]
theorem record_rest {l l1 l3 : List UInt8} {n1 n3 : List Int} {b1 b3 : Bool} (h1 : rdS 2 (l, false) = (n1, l1, b1)) (h3 : rdS 5 (l1, b1) = (n3, l3, b3)) (hk : ¬ (at_ n1 0 = 1 ∨ at_ n1 0 = 3)) (hk4 : at_ n1 0 ≠ 4) :
    parse0 l = if b3 = false ∧ l3 = [] then some ⟨at_ n1 0, zIt, idOf n3 0, 0, at_ n1 1⟩ else none := by
  cases b1 with
  | true =>
    have : b3 = true := by
      simp only [rdS, if_true, Prod.mk.injEq] at h3
      exact h3.2.2.symm
    rw [parse_bad h1, if_neg (by rw [this]; simp)]
  | false =>
    have e2 : rdN 2 l = (n1, l1, false) := h1
    have e5 : rdN 5 l1 = (n3, l3, b3) := h3
    unfold parse0 parseB
    simp only [e2, e5, if_neg hk, if_neg hk4, Bool.false_eq_true, if_false]
theorem record_ticket {l l1 l3 l5 : List UInt8} {n1 n3 n5 : List Int} {b1 b3 b5 : Bool} (h1 : rdS 2 (l, false) = (n1, l1, b1)) (h3 : rdS 5 (l1, b1) = (n3, l3, b3)) (h5 : rdS 1 (l3, b3) = (n5, l5, b5)) (hk4 : at_ n1 0 = 4) :
    parse0 l = if b5 = false ∧ l5 = [] then some ⟨at_ n1 0, zIt, idOf n3 0, at_ n5 0, at_ n1 1⟩ else none := by
  have hk : ¬ (at_ n1 0 = 1 ∨ at_ n1 0 = 3) := by omega
  have e6 : rdS 6 (l1, b1) = (n3 ++ n5, l5, b5) := by
    rw [rdS_add 5 1, h3]
    simp only [h5]
  cases b1 with
  | true =>
    have : b5 = true := by
      simp only [rdS, if_true, Prod.mk.injEq] at e6
      exact e6.2.2.symm
    rw [parse_bad h1, if_neg (by rw [this]; simp)]
  | false =>
    have e2 : rdN 2 l = (n1, l1, false) := h1
    have e6' : rdN 6 l1 = (n3 ++ n5, l5, b5) := e6
    unfold parse0 parseB
    simp only [e2, e6', if_neg hk, if_pos hk4, Bool.false_eq_true, if_false]
    cases b5 with
    | true => simp
    | false =>
      obtain ⟨q5, p5⟩ := rdS_len h5 rfl
      obtain ⟨q3, _⟩ := rdS_len h3 p5
      match n3, q3, n5, q5 with
      | [_, _, _, _, _], _, [_], _ => simp [at_, idOf]

/-! What lies behind the pointers. -/
/-- a record in block bx, written as F says; block b2 lies beside it -/
def RecM (w : World) (g b2 bx : Nat) (F : List Int → Rec) (ns : List Int) (wr : World) : Prop :=
  w.grownBy wr (some g) ∧ Bk wr b2 34 (rcA zRec) ∧ Bk wr bx 34 (rcA (F ns))
theorem grown_above {w wr : World} {g b : Nat} (h : w.grownBy wr (some g)) (hb : w.heap.size ≤ b) (o : Nat) (u : Value) : w.grownBy (wr.setCell ⟨b, o, none⟩ u) (some g) :=
  ⟨h.os, h.tape, h.output, by have := h.size; simp [World.setCell]; exact this, fun i hi hne => (Below.heap_setCell _ _ _ _ (fun e => by simp only at e; omega)).trans (h.block i hi hne)⟩
theorem at_snoc (ns : List Int) (n : Int) (j : Nat) : at_ (ns ++ [n]) j = if j = ns.length then n else at_ ns j := by
  unfold at_
  rw [List.getElem?_append]
  by_cases c : j < ns.length
  · rw [if_pos c, if_neg (by omega)]
  · rw [if_neg c]
    by_cases d : j = ns.length
    · subst d; simp
    · rw [if_neg d]
      have e1 : ([n] : List Int)[j - ns.length]? = none := List.getElem?_eq_none (by simp; omega)
      have e2 : ns[j]? = none := List.getElem?_eq_none (by omega)
      rw [e1, e2]
theorem sink_rec {w : World} {g b2 bx : Nat} (offs : List Nat) (F : List Int → Rec) (hg : g < w.heap.size) (h2 : w.heap.size ≤ b2) (hx : w.heap.size ≤ bx) (hne : b2 ≠ bx)
    (hF : ∀ ns n o, offs[ns.length]? = some o → o < 19 ∧ (rcA (F ns)).setIfInBounds o (.int .i64 n) = rcA (F (ns ++ [n]))) :
    Sink g (offs.map fun o => ⟨bx, o, none⟩) (RecM w g b2 bx F) where
  put := fun ns n wr ⟨h1, hb2, hbx⟩ p hp => by
    rw [List.getElem?_map] at hp
    obtain ⟨o, ho, rfl⟩ := Option.map_eq_some_iff.1 hp
    obtain ⟨ho19, hset⟩ := hF ns n o ho
    refine ⟨by simp only; omega, rfl, ⟨_, (hbx.cell o).trans (Array.getElem?_eq_getElem (h := by rw [Jo.rcA_size]; exact ho19))⟩, hbx.free o, grown_above h1 hx _ _, hb2.other hne _, ?_⟩
    rw [← hset]
    exact hbx.put o _
  keep := fun ns wr wr' ⟨h1, hb2, hbx⟩ hk =>
    ⟨h1.trans hk, hb2.grown hk (fun e => by simp only [Option.some.injEq] at e; omega), hbx.grown hk (fun e => by simp only [Option.some.injEq] at e; omega)⟩
/-- the same, and a number in block bc, the last to be written -/
def CusM (w : World) (g b2 bx bc : Nat) (F : List Int → Rec) (j : Nat) (ns : List Int) (wr : World) : Prop :=
  RecM w g b2 bx F ns wr ∧ Bk wr bc 3 #[.int .i64 (at_ ns j)]
theorem sink_cus {w : World} {g b2 bx bc : Nat} (offs : List Nat) (F : List Int → Rec) (hg : g < w.heap.size) (h2 : w.heap.size ≤ b2) (hx : w.heap.size ≤ bx) (hc : w.heap.size ≤ bc) (hne : b2 ≠ bx) (hn2 : b2 ≠ bc) (hnx : bx ≠ bc)
    (hF : ∀ ns n o, offs[ns.length]? = some o → o < 19 ∧ (rcA (F ns)).setIfInBounds o (.int .i64 n) = rcA (F (ns ++ [n]))) (hL : ∀ ns n, ns.length = offs.length → F (ns ++ [n]) = F ns) :
    Sink g (offs.map (fun o => (⟨bx, o, none⟩ : Addr)) ++ [⟨bc, 0, none⟩]) (CusM w g b2 bx bc F offs.length) where
  put := fun ns n wr ⟨hr, hbc⟩ p hp => by
    by_cases hlt : ns.length < offs.length
    · rw [List.getElem?_append_left (by simpa using hlt)] at hp
      obtain ⟨q1, q2, q3, q4, q5⟩ := (sink_rec offs F hg h2 hx hne hF).put ns n wr hr p hp
      refine ⟨q1, q2, q3, q4, q5, ?_⟩
      have hpb : p.block = bx := by
        rw [List.getElem?_map] at hp
        obtain ⟨o, _, rfl⟩ := Option.map_eq_some_iff.1 hp
        rfl
      have : at_ (ns ++ [n]) offs.length = at_ ns offs.length := by rw [at_snoc, if_neg (by omega)]
      rw [this]
      exact hbc.other (by rw [hpb]; exact fun e => hnx e.symm) _
    · have hln : ns.length = offs.length := by
        have := (List.getElem?_eq_some_iff.1 hp).1
        simp at this
        omega
      rw [hln, List.getElem?_append_right (by simp), List.length_map, Nat.sub_self] at hp
      simp only [List.getElem?_cons_zero, Option.some.injEq] at hp
      subst hp
      obtain ⟨h1, hb2, hbx⟩ := hr
      refine ⟨by simp only; omega, rfl, ⟨_, hbc.cell 0⟩, hbc.free 0, ⟨grown_above h1 hc _ _, hb2.other hn2 _, ?_⟩, ?_⟩
      · rw [hL ns n hln]
        exact hbx.other hnx _
      · have : at_ (ns ++ [n]) offs.length = n := by rw [at_snoc, if_pos hln.symm]
        rw [this]
        exact hbc.put 0 _
  keep := fun ns wr wr' ⟨hr, hbc⟩ hk =>
    ⟨(sink_rec offs F hg h2 hx hne hF).keep ns wr wr' hr hk, hbc.grown hk (fun e => by simp only [Option.some.injEq] at e; omega)⟩
end Go.Proofs.Ytlknjdfiedkhbaa
