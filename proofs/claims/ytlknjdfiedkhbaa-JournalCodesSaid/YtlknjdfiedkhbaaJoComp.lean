/- Compact of the program as plain data. No program is in sight here but for the maps' ids. -/
import Derived.Test.YtlknjdfiedkhbaaJoMap
import Derived.Test.YtlknjdfiedkhbaaJoRecs
namespace Go.Proofs.Ytlknjdfiedkhbaa
open Go Go.RowKit
open Jo (RId Itm Rec wi vId ckI ck zId zIt)

abbrev MapF := RId → Option (Int × Int)
/-- what one record does to the two maps -/
def stC (i : Int) (r : Rec) (S : MapF × MapF) : MapF × MapF :=
  if r.kind = 1 then (if (S.1 r.item.id).isSome then S else (putF S.1 r.item.id (i, r.item.tick), S.2))
  else if r.kind = 3 then (if (S.2 r.item.id).isSome then S else (S.1, putF S.2 r.item.id (i, r.item.tick)))
  else if r.kind = 2 then (delF S.1 r.id, S.2)
  else if r.kind = 4 then (if (S.1 r.id).isSome then (putF S.1 r.id (((S.1 r.id).getD (0, 0)).1, r.tick), S.2) else S)
  else S
/-- the maps behind the first k records -/
def runC (l : List Rec) : Nat → MapF × MapF
  | 0 => (fun _ => none, fun _ => none)
  | k + 1 => match l[k]? with
    | some r => stC k r (runC l k)
    | none => runC l k
theorem runC_step (l : List Rec) (k : Nat) (r : Rec) (h : l[k]? = some r) : runC l (k + 1) = stC k r (runC l k) := by simp [runC, h]
/-- the record that remains, if it does -/
def atC (r : Rec) (S : MapF × MapF) : Option (Int × Int) := if r.kind = 3 then S.2 r.item.id else S.1 r.item.id
def tickC (r : Rec) (t : Int) : Rec := { r with item := { r.item with tick := t } }
def pickC (k : Int) (r : Rec) (S : MapF × MapF) : List Rec := if (atC r S).isSome ∧ ((atC r S).getD (0, 0)).1 = k then [tickC r ((atC r S).getD (0, 0)).2] else []
def outC (l : List Rec) (S : MapF × MapF) : Nat → List Rec
  | 0 => []
  | k + 1 => outC l S k ++ (match l[k]? with
    | some r => pickC k r S
    | none => [])
theorem outC_step (l : List Rec) (S : MapF × MapF) (k : Nat) (r : Rec) (h : l[k]? = some r) : outC l S (k + 1) = outC l S k ++ pickC k r S := by simp [outC, h]
theorem outC_len (l : List Rec) (S : MapF × MapF) : ∀ k, (outC l S k).length ≤ k
  | 0 => by simp [outC]
  | k + 1 => by
    have := outC_len l S k
    simp only [outC, List.length_append]
    split
    · unfold pickC; split <;> simp <;> omega
    · simp; omega
def errK : List Rec → Int
  | [] => 0
  | r :: l => if ck r = 0 then errK l else ck r
/-- what Compact answers -/
def cmpL (l : List Rec) : List Rec := if errK l = 0 then outC l (runC l l.length) l.length else []
theorem errK_append : ∀ (a b : List Rec), errK a = 0 → errK (a ++ b) = errK b
  | [], _, _ => rfl
  | r :: a, b, h => by
    by_cases c : ck r = 0
    · simp only [errK, c, if_true, List.cons_append] at h ⊢
      exact errK_append a b h
    · simp only [errK, c, if_false] at h
theorem errK_split (l : List Rec) (k : Nat) (r : Rec) (h : l[k]? = some r) (h0 : errK (l.take k) = 0) : (ck r = 0 → errK (l.take (k + 1)) = 0) ∧ (ck r ≠ 0 → errK l = ck r) := by
  have hk : k < l.length := (List.getElem?_eq_some_iff.1 h).1
  have e : l[k] = r := (List.getElem?_eq_some_iff.1 h).2
  constructor
  · intro c
    rw [List.take_succ_eq_append_getElem hk, errK_append _ _ h0, e]
    simp [errK, c]
  · intro c
    have hs : l = l.take k ++ r :: l.drop (k + 1) := by rw [← e, List.getElem_cons_drop, List.take_append_drop]
    rw [hs, errK_append _ _ h0]
    simp [errK, c]
theorem errK_mem : ∀ {l : List Rec}, errK l = 0 → ∀ r ∈ l, ck r = 0
  | [], _, r, hr => by simp at hr
  | x :: l, h, r, hr => by
    by_cases c : ck x = 0
    · simp only [errK, c, if_true] at h
      rcases List.mem_cons.1 hr with rfl | hr
      · exact c
      · exact errK_mem h r hr
    · simp only [errK, c, if_false] at h
theorem wf_of {x : Int} (h : -9223372036854775808 ≤ x ∧ x ≤ 9223372036854775807) : (Lit.int .i64 x).wf = true := by
  simp [Lit.wf, IntKind.min, IntKind.max, IntKind.signed, IntKind.bits]
  omega
theorem okId_of {x : RId} (h : vId x = true) : okId x := by
  simp [vId, wi] at h
  obtain ⟨⟨⟨⟨h1, h2⟩, h3, h4⟩, h5, h6⟩, h7⟩ := h
  rcases h7 with ⟨h8, h9⟩ | ⟨⟨h8, h9⟩, h10, h11⟩
  · exact ⟨wf_of (by omega), wf_of (by omega), wf_of (by omega), wf_of (by omega), wf_of (by omega)⟩
  · exact ⟨wf_of (by omega), wf_of (by omega), wf_of (by omega), wf_of (by omega), wf_of (by omega)⟩
theorem okId_zero : okId zId := okId_of (by decide)
theorem ck_ids {r : Rec} (h : ck r = 0) : okId r.item.id ∧ okId r.id ∧ (r.kind = 1 ∨ r.kind = 2 ∨ r.kind = 3 ∨ r.kind = 4) := by
  unfold ck at h
  by_cases h1 : wi r.kind 1 4 = true
  · rw [if_pos h1] at h
    have hk : r.kind = 1 ∨ r.kind = 2 ∨ r.kind = 3 ∨ r.kind = 4 := by simp [wi] at h1; omega
    by_cases h2 : wi r.time 0 1099511627776 = true
    · rw [if_pos h2] at h
      by_cases h3 : r.kind = 1 ∨ r.kind = 3
      · rw [if_pos h3] at h
        by_cases h4 : ckI r.item = 0
        · rw [if_pos h4] at h
          by_cases h5 : r.id = zId ∧ r.tick = 0
          · refine ⟨okId_of ?_, by rw [h5.1]; exact okId_zero, hk⟩
            unfold ckI at h4
            split at h4
            · rename_i c
              simp only [Bool.and_eq_true] at c
              exact c.1.1.1.1
            · exact absurd h4 (by decide)
          · rw [if_neg h5] at h; exact absurd h (by decide)
        · rw [if_neg h4] at h; exact absurd h h4
      · rw [if_neg h3] at h
        split at h
        · rename_i c
          simp only [Bool.and_eq_true] at c
          split at h
          · rename_i d
            exact ⟨by rw [d.1]; exact okId_zero, okId_of c.1, hk⟩
          · exact absurd h (by decide)
        · exact absurd h (by decide)
    · rw [if_neg h2] at h; exact absurd h (by decide)
  · rw [if_neg h1] at h; exact absurd h (by decide)
end Go.Proofs.Ytlknjdfiedkhbaa
