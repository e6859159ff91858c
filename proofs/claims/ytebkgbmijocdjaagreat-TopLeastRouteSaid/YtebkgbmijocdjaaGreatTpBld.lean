/- A drawn region whose loads are overwritten by its last stores: the law of held regions, the condition being asked only as long as none of these stores has come up. No condition.
What search.build keeps in memory: a graph, and the rows that grow. No condition.
search.build, walked. Conditions: the tables lie in memory, and are valid; the request is valid. -/
import Derived.Test.YtebkgbmijocdjaaGreatTpSrtK
import Derived.Test.YtebkgbmijocdjaaGreatTpDel
import Derived.Deep.AppendLies
import Derived.BigQuiet
import Derived.Test.YtebkgbmijocdjaaGreatTpGAt
namespace Go.Proofs.YtebkgbmijocdjaaGreat.Tp
open Go Go.RowKit
section
variable {P : Program} {ops : Array Oper} {Q : Exit → Act → World → Prop} {md : Region.Mode} {S : World → Prop} {St : List Nat}
/-- some store has come up -/
def stored (St : List Nat) (listed : Array Bool) : Prop := ∃ s ∈ St, listed.getD s false = true
def wpAnyG (P : Program) (md : Region.Mode) (ops : Array Oper) (Q : Exit → Act → World → Prop) (S : World → Prop) (St : List Nat) : Nat → Array Bool → Act → World → Prop
  | 0, listed, a, w => Region.ready md ops listed = [] ∧ Q .normal a w
  | fuel + 1, listed, a, w => (Region.ready md ops listed = [] → Q .normal a w) ∧
    ∀ i ∈ Region.ready md ops listed, wpOp P ops Q i (fun a' w' => (S w' ∨ stored St (listed.setIfInBounds i true)) ∧ wpAnyG P md ops Q S St fuel (listed.setIfInBounds i true) a' w') a w
theorem wpAny_of_G : ∀ (fuel : Nat) (listed : Array Bool) (a : Act) (w : World), wpAnyG P md ops Q S St fuel listed a w → wpAny P md ops Q fuel listed a w
  | 0, _, _, _, h => h
  | fuel + 1, _, _, _, h => ⟨h.1, fun i hi => wpOp_mono (fun a' w' h' => wpAny_of_G fuel _ a' w' h'.2) (h.2 i hi)⟩
theorem getD_other {L : Array Bool} {i s : Nat} {b d : Bool} (h : s ≠ i) : (L.setIfInBounds i b).getD s d = L.getD s d := by
  simp [Array.getD_eq_getD_getElem?, Array.getElem?_setIfInBounds_ne (Ne.symm h)]
theorem wpAnyG_first {i : Nat} {oi : Oper} {v : Value} (hi : ops[i]? = some oi) (hsel : ∀ (j : Nat) (o : Oper) cs b, ops[j]? = some o → o.op ≠ .select cs b)
    (hQ : ∀ c a w, Q (.panic c) (a.put oi.dst v) w → Q (.panic c) a w) (hiS : i ∉ St) (hb : ∀ s ∈ St, ∀ os, ops[s]? = some os → ∃ e ∈ os.after, Region.binds md e = true ∧ e.on = i) :
    ∀ (fuel : Nat) (listed : Array Bool) (a : Act) (w : World),
      (∀ j oj, ops[j]? = some oj → j ≠ i → listed.getD j true = false → (∀ e ∈ oj.after, Region.binds md e = true → e.on ≠ i) → oi.apart ops oj = true) →
      i ∈ Region.ready md ops listed → YieldsIf P ops S oi v a → S w → (¬ stored St listed) →
      wpAnyG P md ops Q S St fuel (listed.setIfInBounds i true) (a.put oi.dst v) w → wpAnyG P md ops Q S St (fuel + 1) listed a w := by
  intro fuel
  induction fuel with
  | zero =>
    intro listed a w _ hr hy hS _ H
    refine ⟨fun h => (by rw [h] at hr; cases hr), fun j hj => ?_⟩
    by_cases hji : j = i
    · subst hji; exact hy.wpOp hi hS ⟨.inl hS, H⟩
    · have := ready_mono hj hji
      rw [H.1] at this
      cases this
  | succ fuel ih =>
    intro listed a w hfree hr hy hS hcl H
    refine ⟨fun h => (by rw [h] at hr; cases hr), fun j hj => ?_⟩
    by_cases hji : j = i
    · subst hji; exact hy.wpOp hi hS ⟨.inl hS, H⟩
    · have h1 := H.2 j (ready_mono hj hji)
      obtain ⟨hjun, oj, hoj, hall⟩ := mem_ready.1 hj
      have hnot : ∀ e ∈ oj.after, Region.binds md e = true → e.on ≠ i := fun e he hb heq => by
        have h1 := hall e he hb
        have h0 := (mem_ready.1 hr).1
        rw [heq] at h1
        rcases Nat.lt_or_ge i listed.size with h' | h'
        · simp [h'] at h0 h1; rw [h0] at h1; cases h1
        · simp [Array.getElem?_eq_none h'] at h1
      have hjS : j ∉ St := fun hj' => by
        obtain ⟨e, he, h2, h3⟩ := hb j hj' oj hoj
        exact hnot e he h2 h3
      have hcl2 : ¬ stored St (listed.setIfInBounds j true) := by
        rintro ⟨s, hs, h⟩
        have hsj : s ≠ j := fun e => hjS (e ▸ hs)
        rw [getD_other hsj] at h
        exact hcl ⟨s, hs, h⟩
      have h2 := wpOp_putIf hoj (hfree j oj hoj hji hjun hnot) (fun cs b => hsel i oi cs b hi) (fun cs b => hsel j oj cs b hoj) hQ hy h1
      have hfree' : ∀ k ok, ops[k]? = some ok → k ≠ i → (listed.setIfInBounds j true).getD k true = false →
          (∀ e ∈ ok.after, Region.binds md e = true → e.on ≠ i) → oi.apart ops ok = true := fun k ok hk hki hun hno => by
        refine hfree k ok hk hki ?_ hno
        by_cases hjk : j = k
        · subst hjk; exact hjun
        · rw [getD_other (Ne.symm hjk)] at hun; exact hun
      refine wpOp_mono (fun a' w' h3 => ?_) h2
      have hS' : S w' := by
        rcases h3.2.1 with h | ⟨s, hs, h⟩
        · exact h
        · refine absurd ⟨s, hs, ?_⟩ hcl2
          have hsj : s ≠ j := fun e => hjS (e ▸ hs)
          have hsi : s ≠ i := fun e => hiS (e ▸ hs)
          rw [getD_other hsj, getD_other hsi] at h
          rw [getD_other hsj]
          exact h
      refine ⟨.inl hS', ih (listed.setIfInBounds j true) a' w' hfree' (ready_mono hr (Ne.symm hji)) h3.1 hS' hcl2 ?_⟩
      rw [Array.setIfInBounds_comm _ _ hji]
      exact h3.2.2
theorem stored_other {i : Nat} {listed : Array Bool} (hiS : i ∉ St) (h : stored St (listed.setIfInBounds i true)) : stored St listed := by
  obtain ⟨s, hs, h⟩ := h
  have hsi : s ≠ i := fun e => hiS (e ▸ hs)
  rw [getD_other hsi] at h
  exact ⟨s, hs, h⟩
theorem stored_more {i : Nat} {listed : Array Bool} (hiS : i ∉ St) (h : stored St listed) : stored St (listed.setIfInBounds i true) := by
  obtain ⟨s, hs, h⟩ := h
  have hsi : s ≠ i := fun e => hiS (e ▸ hs)
  exact ⟨s, hs, by rw [getD_other hsi]; exact h⟩
/-- what yields in whatever world may be taken first -/
theorem wpAnyG_free {i : Nat} {oi : Oper} {v : Value} (hi : ops[i]? = some oi) (hsel : ∀ (j : Nat) (o : Oper) cs b, ops[j]? = some o → o.op ≠ .select cs b)
    (hQ : ∀ c a w, Q (.panic c) (a.put oi.dst v) w → Q (.panic c) a w) (hiS : i ∉ St) :
    ∀ (fuel : Nat) (listed : Array Bool) (a : Act) (w : World),
      (∀ j oj, ops[j]? = some oj → j ≠ i → listed.getD j true = false → (∀ e ∈ oj.after, Region.binds md e = true → e.on ≠ i) → oi.apart ops oj = true) →
      i ∈ Region.ready md ops listed → YieldsIf P ops (fun _ => True) oi v a → (S w ∨ stored St listed) →
      wpAnyG P md ops Q S St fuel (listed.setIfInBounds i true) (a.put oi.dst v) w → wpAnyG P md ops Q S St (fuel + 1) listed a w := by
  intro fuel
  induction fuel with
  | zero =>
    intro listed a w _ hr hy hS H
    refine ⟨fun h => (by rw [h] at hr; cases hr), fun j hj => ?_⟩
    by_cases hji : j = i
    · subst hji; exact hy.wpOp hi trivial ⟨hS.imp id (stored_more hiS), H⟩
    · have := ready_mono hj hji
      rw [H.1] at this
      cases this
  | succ fuel ih =>
    intro listed a w hfree hr hy hS H
    refine ⟨fun h => (by rw [h] at hr; cases hr), fun j hj => ?_⟩
    by_cases hji : j = i
    · subst hji; exact hy.wpOp hi trivial ⟨hS.imp id (stored_more hiS), H⟩
    · have h1 := H.2 j (ready_mono hj hji)
      obtain ⟨hjun, oj, hoj, hall⟩ := mem_ready.1 hj
      have hnot : ∀ e ∈ oj.after, Region.binds md e = true → e.on ≠ i := fun e he hb heq => by
        have h1 := hall e he hb
        have h0 := (mem_ready.1 hr).1
        rw [heq] at h1
        rcases Nat.lt_or_ge i listed.size with h' | h'
        · simp [h'] at h0 h1; rw [h0] at h1; cases h1
        · simp [Array.getElem?_eq_none h'] at h1
      have h2 := wpOp_putIf hoj (hfree j oj hoj hji hjun hnot) (fun cs b => hsel i oi cs b hi) (fun cs b => hsel j oj cs b hoj) hQ hy h1
      have hfree' : ∀ k ok, ops[k]? = some ok → k ≠ i → (listed.setIfInBounds j true).getD k true = false →
          (∀ e ∈ ok.after, Region.binds md e = true → e.on ≠ i) → oi.apart ops ok = true := fun k ok hk hki hun hno => by
        refine hfree k ok hk hki ?_ hno
        by_cases hjk : j = k
        · subst hjk; exact hjun
        · rw [getD_other (Ne.symm hjk)] at hun; exact hun
      refine wpOp_mono (fun a' w' h3 => ?_) h2
      have hS' : S w' ∨ stored St (listed.setIfInBounds j true) := by
        refine h3.2.1.imp id fun h => ?_
        rw [← Array.setIfInBounds_comm _ _ hji] at h
        exact stored_other hiS h
      refine ⟨hS', ih (listed.setIfInBounds j true) a' w' hfree' (ready_mono hr (Ne.symm hji)) h3.1 hS' ?_⟩
      rw [Array.setIfInBounds_comm _ _ hji]
      exact h3.2.2
theorem takeF {L : List Oper} {i : Nat} {oi : Oper} {v : Value} {fuel : Nat} {listed : Array Bool} {a : Act} {w : World} (hi : L[i]? = some oi)
    (hs : Region.noSelect L.toArray = true) (hf : Region.free md L.toArray listed i = true) (hr : (Region.ready md L.toArray listed).contains i = true) (hiS : (!St.contains i) = true)
    (hQ : ∀ c a w, Q (.panic c) (a.put oi.dst v) w → Q (.panic c) a w) (hy : YieldsIf P L.toArray (fun _ => True) oi v a) (hS : S w)
    (h : wpAnyG P md L.toArray Q S St fuel (listed.setIfInBounds i true) (a.put oi.dst v) w) : wpAnyG P md L.toArray Q S St (fuel + 1) listed a w := by
  have hi' : L.toArray[i]? = some oi := by rw [List.getElem?_toArray]; exact hi
  exact wpAnyG_free hi' (Region.noSelect_spec hs) hQ (by simpa using hiS) fuel listed a w (Region.free_spec hi' hf) (by simpa using hr) hy (.inl hS) h
/-- each of these stores waits for operation i -/
def waits (md : Region.Mode) (ops : Array Oper) (St : List Nat) (i : Nat) : Bool := !St.contains i && St.all fun s => match ops[s]? with | some os => os.after.any fun e => Region.binds md e && e.on == i | none => true
theorem waits_spec {i : Nat} (h : waits md ops St i = true) : i ∉ St ∧ ∀ s ∈ St, ∀ os, ops[s]? = some os → ∃ e ∈ os.after, Region.binds md e = true ∧ e.on = i := by
  unfold waits at h
  rw [Bool.and_eq_true] at h
  refine ⟨by simpa using h.1, fun s hs os hos => ?_⟩
  have h1 := List.all_eq_true.1 h.2 s hs
  rw [hos] at h1
  simp only at h1
  obtain ⟨j, hj, hb⟩ := Array.any_eq_true.1 h1
  rw [Bool.and_eq_true] at hb
  exact ⟨os.after[j], Array.getElem_mem hj, hb.1, by simpa using hb.2⟩
def unstored (St : List Nat) (listed : Array Bool) : Bool := St.all fun s => !listed.getD s false
theorem unstored_spec {listed : Array Bool} (h : unstored St listed = true) : ¬ stored St listed := by
  rintro ⟨s, hs, h2⟩
  have := List.all_eq_true.1 h s hs
  rw [h2] at this
  cases this
theorem takeG {L : List Oper} {i : Nat} {oi : Oper} {v : Value} {fuel : Nat} {listed : Array Bool} {a : Act} {w : World} (hi : L[i]? = some oi)
    (hs : Region.noSelect L.toArray = true) (hf : Region.free md L.toArray listed i = true) (hr : (Region.ready md L.toArray listed).contains i = true) (hwt : waits md L.toArray St i = true) (hun : unstored St listed = true)
    (hQ : ∀ c a w, Q (.panic c) (a.put oi.dst v) w → Q (.panic c) a w) (hy : YieldsIf P L.toArray S oi v a) (hS : S w)
    (h : wpAnyG P md L.toArray Q S St fuel (listed.setIfInBounds i true) (a.put oi.dst v) w) : wpAnyG P md L.toArray Q S St (fuel + 1) listed a w := by
  have hi' : L.toArray[i]? = some oi := by rw [List.getElem?_toArray]; exact hi
  obtain ⟨h1, h2⟩ := waits_spec hwt
  exact wpAnyG_first hi' (Region.noSelect_spec hs) hQ h1 h2 fuel listed a w (Region.free_spec hi' hf) (by simpa using hr) hy hS (unstored_spec hun) h
theorem stored_of {i : Nat} {listed : Array Bool} (hi : St.contains i = true) (hl : i < listed.size) : stored St (listed.setIfInBounds i true) :=
  ⟨i, by simpa using hi, by simp [Array.getD_eq_getD_getElem?, Array.getElem?_setIfInBounds_self_of_lt hl]⟩
/-- one comes up, and it is no store: S is to be shown anew -/
theorem readyG {L : List Oper} {i : Nat} {o : Oper} {fuel : Nat} {listed : Array Bool} {a : Act} {w : World} (hi : L[i]? = some o) (hr : Region.ready md L.toArray listed = [i])
    (hw : Region.wanted o (yielded L.toArray a.tmps) = true) (h : ∀ K : Act → World → Prop, (∀ a' w', S w' → wpAnyG P md L.toArray Q S St fuel (listed.setIfInBounds i true) a' w' → K a' w') → o.wp P a w K Q) : wpAnyG P md L.toArray Q S St (fuel + 1) listed a w := by
  refine ⟨fun h0 => absurd (hr ▸ h0) (by simp), fun j hj => ?_⟩
  rw [hr] at hj
  obtain rfl : j = i := by simpa using hj
  unfold wpOp
  rw [List.getElem?_toArray, hi]
  simp only [hw, if_true]
  exact .inl (h _ fun a' w' hS hk => ⟨.inl hS, hk⟩)
theorem readyG2 {L : List Oper} {i j : Nat} {o o2 : Oper} {fuel : Nat} {listed : Array Bool} {a : Act} {w : World} (hi : L[i]? = some o) (hj : L[j]? = some o2) (hr : Region.ready md L.toArray listed = [i, j])
    (hw : Region.wanted o (yielded L.toArray a.tmps) = true) (hw2 : Region.wanted o2 (yielded L.toArray a.tmps) = true)
    (h : ∀ K : Act → World → Prop, (∀ a' w', S w' → wpAnyG P md L.toArray Q S St fuel (listed.setIfInBounds i true) a' w' → K a' w') → o.wp P a w K Q)
    (h2 : ∀ K : Act → World → Prop, (∀ a' w', S w' → wpAnyG P md L.toArray Q S St fuel (listed.setIfInBounds j true) a' w' → K a' w') → o2.wp P a w K Q) : wpAnyG P md L.toArray Q S St (fuel + 1) listed a w := by
  refine ⟨fun h0 => absurd (hr ▸ h0) (by simp), fun k hk => ?_⟩
  rw [hr] at hk
  rcases List.mem_cons.1 hk with rfl | hk
  · unfold wpOp
    rw [List.getElem?_toArray, hi]
    simp only [hw, if_true]
    exact .inl (h _ fun a' w' hS hk => ⟨.inl hS, hk⟩)
  · obtain rfl : k = j := by simpa using hk
    unfold wpOp
    rw [List.getElem?_toArray, hj]
    simp only [hw2, if_true]
    exact .inl (h2 _ fun a' w' hS hk => ⟨.inl hS, hk⟩)
/-- one comes up when some store has, or it is one -/
theorem storeG {L : List Oper} {i : Nat} {o : Oper} {fuel : Nat} {listed : Array Bool} {a : Act} {w : World} (hi : L[i]? = some o) (hr : Region.ready md L.toArray listed = [i]) (hst : (St.any fun s => (listed.setIfInBounds i true).getD s false) = true)
    (hw : Region.wanted o (yielded L.toArray a.tmps) = true) (h : ∀ K : Act → World → Prop, (∀ a' w', wpAnyG P md L.toArray Q S St fuel (listed.setIfInBounds i true) a' w' → K a' w') → o.wp P a w K Q) : wpAnyG P md L.toArray Q S St (fuel + 1) listed a w := by
  refine ⟨fun h0 => absurd (hr ▸ h0) (by simp), fun j hj => ?_⟩
  rw [hr] at hj
  obtain rfl : j = i := by simpa using hj
  unfold wpOp
  rw [List.getElem?_toArray, hi]
  simp only [hw, if_true]
  obtain ⟨s, hs, h2⟩ := List.any_eq_true.1 hst
  exact .inl (h _ fun a' w' hk => ⟨.inr ⟨s, hs, h2⟩, hk⟩)
theorem doneG {L : List Oper} {fuel : Nat} {listed : Array Bool} {a : Act} {w : World} (hr : Region.ready md L.toArray listed = []) (h : Q .normal a w) : wpAnyG P md L.toArray (NP Q) S St fuel listed a w := by
  cases fuel with
  | zero => exact ⟨hr, rfl, h⟩
  | succ n => exact ⟨fun _ => ⟨rfl, h⟩, fun i hi => by rw [hr] at hi; cases hi⟩
theorem region_g {id : Nat} {a : Act} {w : World} (St : List Nat) (hm : P.follows .mixedOrders = true) (hS : S w.drew)
    (h : S w.drew → wpAnyG P .any ops (NP Q) S St ops.size (Array.replicate ops.size false) a w.drew) : (Code.region id ops true).wp P Q a w :=
  wp_mono (wp_region_any hm (wpAny_of_G _ _ _ _ (h hS))) fun _ _ _ h => h.2
end
end Go.Proofs.YtebkgbmijocdjaaGreat.Tp
namespace Go.Proofs.YtebkgbmijocdjaaGreat.Tp
open Go Go.RowKit

theorem slAt_grown {α : Type} {E : Enc α} {w w' : World} {A : Option Addr} {l : List α} {row : Option Nat} (h : SlAt E w A l) (hg : w.grownBy w' row) (hn : ∀ a, l ≠ [] → A = some a → some a.block ≠ row) : SlAt E w' A l := fun k r hk => by
  obtain ⟨b, off, rfl, hr⟩ := h k r hk
  refine ⟨b, off, rfl, fun j v hj => ?_⟩
  have h1 := hr j v hj
  refine (hg.cell_far ⟨b, _, none⟩ (World.block_lt_of_cell? _ _ h1) (hn ⟨b, off, none⟩ (fun e => by rw [e] at hk; simp at hk) rfl)).trans h1
/-- the slices of a row lie in memory, apart from some rows -/
def Inner (G : Nat) (VS : List Value) (gs : List Value) (L : List (List Spn)) (W : World) : Prop := gs.length = L.length ∧ ∀ (j : Nat) (l : List Spn), L[j]? = some l → ∃ A' c', gs[j]? = some (.slice A' l.length c') ∧ SlAt spE W A' l ∧ l.length ≤ c' ∧ l.length ≤ 100000 ∧ ∀ a, l ≠ [] → A' = some a → G + 1 ≤ a.block ∧ a.block < W.heap.size ∧ ∀ v ∈ VS, v.ownBlock ≠ some a.block
theorem Inner.below {G : Nat} {VS gs : List Value} {L : List (List Spn)} {W W' : World} (h : Inner G VS gs L W) (hb : Below W.heap.size W W') : Inner G VS gs L W' := ⟨h.1, fun j l hl => by
  obtain ⟨A', c', h1, h2, h3, h4, h5⟩ := h.2 j l hl
  exact ⟨A', c', h1, h2.below hb, h3, h4, fun a hl0 ha => ⟨(h5 a hl0 ha).1, by have := (h5 a hl0 ha).2.1; have := hb.size; omega, (h5 a hl0 ha).2.2⟩⟩⟩
/-- one row has grown: which rows the slices lie apart from turns -/
theorem Inner.grown {G : Nat} {VS VS' gs : List Value} {L : List (List Spn)} {W W' : World} {v : Value} (h : Inner G VS gs L W) (hg : W.grownBy W' v.ownBlock) (hv : v ∈ VS) (hVS : ∀ u ∈ VS', u ∈ VS ∨ u.ownBlock = v.ownBlock ∨ u.ownBlock = some W.heap.size) : Inner G VS' gs L W' := ⟨h.1, fun j l hl => by
  obtain ⟨A', c', h1, h2, h3, h4, h5⟩ := h.2 j l hl
  refine ⟨A', c', h1, slAt_grown h2 hg (fun a hl0 ha e => (h5 a hl0 ha).2.2 v hv e.symm), h3, h4, fun a hl0 ha => ?_⟩
  obtain ⟨p1, p2, p3⟩ := h5 a hl0 ha
  refine ⟨p1, by have := hg.size; omega, fun u hu => ?_⟩
  rcases hVS u hu with e | e | e
  · exact p3 u e
  · rw [e]; exact p3 v hv
  · rw [e]; intro e2
    have e3 : W.heap.size = a.block := Option.some.inj e2
    omega⟩
theorem Inner.set {G : Nat} {VS gs : List Value} {L : List (List Spn)} {W : World} (h : Inner G VS gs L W) {g i : Nat} (hg : g < G + 1) (u : Value) : Inner G VS gs L (W.setCell ⟨g, i, none⟩ u) := ⟨h.1, fun j l hl => by
  obtain ⟨A', c', h1, h2, h3, h4, h5⟩ := h.2 j l hl
  refine ⟨A', c', h1, slAt_grown h2 (grown_put W g i u) (fun a hl0 ha e => ?_), h3, h4, fun a hl0 ha => ⟨(h5 a hl0 ha).1, by have := (h5 a hl0 ha).2.1; simpa using this, (h5 a hl0 ha).2.2⟩⟩
  have h6 := (h5 a hl0 ha).1
  have e3 : a.block = g := Option.some.inj e
  omega⟩
theorem Inner.snoc {G : Nat} {VS gs : List Value} {L : List (List Spn)} {W : World} (h : Inner G VS gs L W) {A' : Option Addr} {c' : Nat} {l : List Spn} (h2 : SlAt spE W A' l) (h3 : l.length ≤ c') (h4 : l.length ≤ 100000) (h5 : ∀ a, l ≠ [] → A' = some a → G + 1 ≤ a.block ∧ a.block < W.heap.size ∧ ∀ v ∈ VS, v.ownBlock ≠ some a.block) : Inner G VS (gs ++ [.slice A' l.length c']) (L ++ [l]) W := ⟨by simp [h.1], fun j m hm => by
  by_cases hj : j < L.length
  · rw [List.getElem?_append_left hj] at hm
    rw [List.getElem?_append_left (by rw [h.1]; exact hj)]
    exact h.2 j m hm
  · have hj2 : j = L.length := by
      have := (List.getElem?_eq_some_iff.1 hm).1
      simp at this
      omega
    subst hj2
    rw [List.getElem?_append_right (Nat.le_refl _), Nat.sub_self] at hm
    cases hm
    exact ⟨A', c', by rw [← h.1, List.getElem?_append_right (Nat.le_refl _), Nat.sub_self]; rfl, h2, h3, h4, h5⟩⟩
/-- the graph's cells -/
abbrev grC (Aq : Option Addr) (cq : Nat) (Ac : Option Addr) (cc : Nat) (B : Option Addr) (cb : Nat) (H : Option Addr) (ch : Nat) (t : Tbl) (q : Rq) (fg fr fd : Value) : Array Value := #[.slice Aq t.p.q.length cq, .slice Ac t.p.c.length cc, .slice B t.b.length cb, .slice H t.h.length ch, .int .i64 q.src, .int .i64 q.dst, .int .i64 q.size, .int .i64 q.ready, .int .i64 q.dead, .int .i64 q.prio, .bool q.cust, fg, fr, fd]
/-- what lies in memory: the boxes of the tables, of the request, of the graph; its rows of gaps, of rooms, of durations -/
structure BdV (n0 G : Nat) (w : World) (Aq : Option Addr) (cq : Nat) (Ac : Option Addr) (cc : Nat) (B : Option Addr) (cb : Nat) (H : Option Addr) (ch : Nat) (t : Tbl) (q : Rq) (fg fr fd vg vr vd : Value) (gs rs : List Value) (LG LR : List (List Spn)) (LD : List Int) (W : World) : Prop where
  tb : Bk W n0 29 (tbA Aq cq Ac cc B cb H ch t)
  qb : Bk W (n0 + 1) 31 (rqL q).toArray
  g : Bk W G 135 (grC Aq cq Ac cc B cb H ch t q fg fr fd)
  rg : W.ownsRow (G + 1) 136 1 vg gs.length gs
  rr : W.ownsRow (G + 1) 136 1 vr rs.length rs
  rd : W.ownsRow (G + 1) 3 1 vd LD.length (LD.map (Value.int .i64))
  ne : vg.ownBlock = none ∨ vg.ownBlock ≠ vr.ownBlock
  ig : Inner G [vg, vr, vd] gs LG W
  ir : Inner G [vg, vr, vd] rs LR W
  be : Below n0 w W
  hG : n0 + 2 ≤ G
section
variable {n0 G : Nat} {w W : World} {Aq Ac B H : Option Addr} {cq cc cb ch : Nat} {t : Tbl} {q : Rq} {fg fr fd vg vr vd : Value} {gs rs : List Value} {LG LR : List (List Spn)} {LD : List Int}
theorem BdV.size (h : BdV n0 G w Aq cq Ac cc B cb H ch t q fg fr fd vg vr vd gs rs LG LR LD W) : G + 1 ≤ W.heap.size ∧ n0 + 2 ≤ G := ⟨by have := h.g.lt; omega, h.hG⟩
theorem BdV.below {W' : World} (h : BdV n0 G w Aq cq Ac cc B cb H ch t q fg fr fd vg vr vd gs rs LG LR LD W) (hb : Below W.heap.size W W') : BdV n0 G w Aq cq Ac cc B cb H ch t q fg fr fd vg vr vd gs rs LG LR LD W' :=
  ⟨h.tb.below hb h.tb.lt, h.qb.below hb h.qb.lt, h.g.below hb h.g.lt, row_next h.rg hb, row_next h.rr hb, row_next h.rd hb, h.ne, h.ig.below hb, h.ir.below hb, h.be.trans (hb.mono (by have := h.size; omega)), h.hG⟩
theorem ne_types {W : World} {base k k' n n' : Nat} {t t' : TypeId} {v v' : Value} {xs xs' : List Value} (ht : t ≠ t') (h : W.ownsRow base t k v n xs) (h' : W.ownsRow base t' k' v' n' xs') : v.ownBlock = none ∨ v.ownBlock ≠ v'.ownBlock := by
  rcases h.2 with ⟨rfl, _⟩ | ⟨g, cap, cur, rfl, _, hg, _⟩
  · exact .inl rfl
  · refine .inr fun e => ?_
    rcases h'.2 with ⟨rfl, _⟩ | ⟨g', cap', cur', rfl, _, hg', _⟩
    · cases e
    · cases e
      rw [hg] at hg'
      cases hg'
      exact ht rfl
theorem none_or {a b : Option Nat} (h : b = none ∨ b ≠ a) : a = none ∨ a ≠ b := by
  rcases h with h | h
  · rw [h]
    cases a with
    | none => exact .inl rfl
    | some x => exact .inr (by simp)
  · exact .inr fun e => h e.symm
theorem row_new {W : World} {base k n : Nat} {t : TypeId} {v v' u : Value} {xs : List Value} (h : W.ownsRow base t k u n xs) (hne : u.ownBlock = none ∨ u.ownBlock ≠ v.ownBlock) (hat : v'.ownBlock = v.ownBlock ∨ v'.ownBlock = some W.heap.size) : u.ownBlock = none ∨ u.ownBlock ≠ v'.ownBlock := by
  rcases hat with e | e
  · rw [e]; exact hne
  · rw [e]
    cases hu : u.ownBlock with
    | none => exact .inl rfl
    | some b =>
      refine .inr fun e2 => ?_
      have := (row_lt h b hu).2
      cases e2
      omega
theorem BdV.growG {W' : World} {v' : Value} {A' : Option Addr} {c' : Nat} {l : List Spn} (h : BdV n0 G w Aq cq Ac cc B cb H ch t q fg fr fd vg vr vd gs rs LG LR LD W) (hg : W.grownBy W' vg.ownBlock) (hr : W'.ownsRow (G + 1) 136 1 v' (gs.length + 1) (gs ++ [.slice A' l.length c'])) (hat : v'.ownBlock = vg.ownBlock ∨ v'.ownBlock = some W.heap.size)
    (h2 : SlAt spE W A' l) (h3 : l.length ≤ c') (h4 : l.length ≤ 100000) (h5 : ∀ a, l ≠ [] → A' = some a → G + 1 ≤ a.block ∧ a.block < W.heap.size ∧ ∀ v ∈ [vg, vr, vd], v.ownBlock ≠ some a.block) :
    BdV n0 G w Aq cq Ac cc B cb H ch t q fg fr fd v' vr vd (gs ++ [.slice A' l.length c']) rs (LG ++ [l]) LR LD W' := by
  have up : ∀ {b : Nat} {u : TypeId} {cs : Array Value}, u ≠ 136 → Bk W b u cs → Bk W' b u cs := fun {b u cs} ht hb => hb.grown hg (bk_not_row hb ht h.rg)
  have hrr : vr.ownBlock = none ∨ vr.ownBlock ≠ vg.ownBlock := none_or h.ne
  have hrd : vd.ownBlock = none ∨ vd.ownBlock ≠ vg.ownBlock := ne_types (by decide) h.rd h.rg
  have hVS : ∀ u ∈ [v', vr, vd], u ∈ [vg, vr, vd] ∨ u.ownBlock = vg.ownBlock ∨ u.ownBlock = some W.heap.size := fun u hu => by
    simp only [List.mem_cons, List.not_mem_nil, or_false] at hu ⊢
    rcases hu with rfl | rfl | rfl
    · exact .inr hat
    · exact .inl (.inr (.inl rfl))
    · exact .inl (.inr (.inr rfl))
  refine ⟨up (by decide) h.tb, up (by decide) h.qb, up (by decide) h.g, by rw [List.length_append]; exact hr, h.rr.kept hg hrr, h.rd.kept hg hrd, none_or (row_new h.rr hrr hat), (h.ig.snoc h2 h3 h4 h5).grown hg (by simp) hVS, h.ir.grown hg (by simp) hVS, h.be.grown hg (by have := h.size; omega) (fun r e => by have := (row_lt h.rg r e).1; have := h.hG; omega), h.hG⟩
theorem BdV.growR {W' : World} {v' : Value} {A' : Option Addr} {c' : Nat} {l : List Spn} (h : BdV n0 G w Aq cq Ac cc B cb H ch t q fg fr fd vg vr vd gs rs LG LR LD W) (hg : W.grownBy W' vr.ownBlock) (hr : W'.ownsRow (G + 1) 136 1 v' (rs.length + 1) (rs ++ [.slice A' l.length c'])) (hat : v'.ownBlock = vr.ownBlock ∨ v'.ownBlock = some W.heap.size)
    (h2 : SlAt spE W A' l) (h3 : l.length ≤ c') (h4 : l.length ≤ 100000) (h5 : ∀ a, l ≠ [] → A' = some a → G + 1 ≤ a.block ∧ a.block < W.heap.size ∧ ∀ v ∈ [vg, vr, vd], v.ownBlock ≠ some a.block) :
    BdV n0 G w Aq cq Ac cc B cb H ch t q fg fr fd vg v' vd gs (rs ++ [.slice A' l.length c']) LG (LR ++ [l]) LD W' := by
  have up : ∀ {b : Nat} {u : TypeId} {cs : Array Value}, u ≠ 136 → Bk W b u cs → Bk W' b u cs := fun {b u cs} ht hb => hb.grown hg (bk_not_row hb ht h.rr)
  have hrd : vd.ownBlock = none ∨ vd.ownBlock ≠ vr.ownBlock := ne_types (by decide) h.rd h.rr
  have hVS : ∀ u ∈ [vg, v', vd], u ∈ [vg, vr, vd] ∨ u.ownBlock = vr.ownBlock ∨ u.ownBlock = some W.heap.size := fun u hu => by
    simp only [List.mem_cons, List.not_mem_nil, or_false] at hu ⊢
    rcases hu with rfl | rfl | rfl
    · exact .inl (.inl rfl)
    · exact .inr hat
    · exact .inl (.inr (.inr rfl))
  refine ⟨up (by decide) h.tb, up (by decide) h.qb, up (by decide) h.g, h.rg.kept hg h.ne, by rw [List.length_append]; exact hr, h.rd.kept hg hrd, row_new h.rg h.ne hat, h.ig.grown hg (by simp) hVS, (h.ir.snoc h2 h3 h4 h5).grown hg (by simp) hVS, h.be.grown hg (by have := h.size; omega) (fun r e => by have := (row_lt h.rr r e).1; have := h.hG; omega), h.hG⟩
theorem BdV.growD {W' : World} {v' : Value} {d : Int} (h : BdV n0 G w Aq cq Ac cc B cb H ch t q fg fr fd vg vr vd gs rs LG LR LD W) (hg : W.grownBy W' vd.ownBlock) (hr : W'.ownsRow (G + 1) 3 1 v' (LD.length + 1) (LD.map (Value.int .i64) ++ [.int .i64 d])) (hat : v'.ownBlock = vd.ownBlock ∨ v'.ownBlock = some W.heap.size) :
    BdV n0 G w Aq cq Ac cc B cb H ch t q fg fr fd vg vr v' gs rs LG LR (LD ++ [d]) W' := by
  have up : ∀ {b : Nat} {u : TypeId} {cs : Array Value}, u ≠ 3 → Bk W b u cs → Bk W' b u cs := fun {b u cs} ht hb => hb.grown hg (bk_not_row hb ht h.rd)
  have hVS : ∀ u ∈ [vg, vr, v'], u ∈ [vg, vr, vd] ∨ u.ownBlock = vd.ownBlock ∨ u.ownBlock = some W.heap.size := fun u hu => by
    simp only [List.mem_cons, List.not_mem_nil, or_false] at hu ⊢
    rcases hu with rfl | rfl | rfl
    · exact .inl (.inl rfl)
    · exact .inl (.inr (.inl rfl))
    · exact .inr hat
  refine ⟨up (by decide) h.tb, up (by decide) h.qb, up (by decide) h.g, h.rg.kept hg (ne_types (by decide) h.rg h.rd), h.rr.kept hg (ne_types (by decide) h.rr h.rd), by rw [List.length_append, List.map_append]; exact hr, h.ne, h.ig.grown hg (by simp) hVS, h.ir.grown hg (by simp) hVS, h.be.grown hg (by have := h.size; omega) (fun r e => by have := (row_lt h.rd r e).1; have := h.hG; omega), h.hG⟩
/-- a field of the graph is stored -/
theorem BdV.put {i : Nat} {fg' fr' fd' u : Value} (h : BdV n0 G w Aq cq Ac cc B cb H ch t q fg fr fd vg vr vd gs rs LG LR LD W) (he : (grC Aq cq Ac cc B cb H ch t q fg fr fd).setIfInBounds i u = grC Aq cq Ac cc B cb H ch t q fg' fr' fd') : BdV n0 G w Aq cq Ac cc B cb H ch t q fg' fr' fd' vg vr vd gs rs LG LR LD (W.setCell ⟨G, i, none⟩ u) := by
  have hb := h.g.put i u
  rw [he] at hb
  refine ⟨h.tb.other (p := ⟨G, i, none⟩) (by show n0 ≠ G; have := h.hG; omega) _, h.qb.other (p := ⟨G, i, none⟩) (by show n0 + 1 ≠ G; have := h.hG; omega) _, hb, h.rg.kept (grown_put W G i u) (.inr (bk_not_row h.g (by decide) h.rg).symm), h.rr.kept (grown_put W G i u) (.inr (bk_not_row h.g (by decide) h.rr).symm), h.rd.kept (grown_put W G i u) (.inr (bk_not_row h.g (by decide) h.rd).symm), h.ne, h.ig.set (by omega) u, h.ir.set (by omega) u, h.be.setCell (p := ⟨G, i, none⟩) (by show n0 ≤ G; have := h.hG; omega) _, h.hG⟩
end
theorem wp_append_any {P : Program} {w : World} {o : Oper} {a : Act} {K : Act → World → Prop} {Q : Exit → Act → World → Prop} (s x : Operand) (t e : TypeId) (ho : o.op = .call { callee := .builtin .append, args := #[s, x], argTypes := #[t, t] })
    (base : Nat) (i : TypeInfo) (z : Value) (size bytes : Nat) (ht : P.underlying t = some (.slice e)) (hi : P.info? e = some i) (hz : i.zero = some z) (hsize : i.size = size) (hby : i.bytes = bytes) (hzs : z.cells.size = size) (hsz : 0 < size)
    (v : Value) (n : Nat) (xs : List Value) (hs : a.eval s = v) (hown : w.ownsRow base e size v n xs) (ad : Addr) (news : List Value) (hx : a.eval x = .slice (some ad) 1 1) (hl : news.length = 1 * size) (hnews : ∀ j u, news[j]? = some u → w.cell? (ad.add j) = some u) (h1 : ∀ u ∈ news, u.oneCell' = true)
    (h63 : n + 1 ≤ maxLen) (hbytes : (n + 1) * bytes ≤ 140737488355328) (hbase : base ≤ w.heap.size)
    (h : ∀ v' w', w'.ownsRow base e size v' (n + 1) (xs ++ news) → w.grownBy w' v.ownBlock → (v'.ownBlock = v.ownBlock ∨ v'.ownBlock = some w.heap.size) → K (a.put o.dst v') w') : o.wp P a w K Q := by
  obtain ⟨v', w', hr, h2, h3, h4, h5⟩ := run_append_own_at (P := P) w base t o.type e i z size bytes ht hi hz hsize hby hzs hsz v n xs hown ad 1 1 news hl hnews h1 h63 hbytes hbase
  unfold Oper.wp execOp
  simp only [ho, resolve, invoke, builtin, Sem.run_bind, Sem.run_pure, Result.andThen_ok, List.map_toArray, List.map_cons, List.map_nil, hs, hx, hr]
  exact h v' w' h2 h3 h5
theorem row_slice {W : World} {base k n : Nat} {t : TypeId} {v : Value} {xs : List Value} (h : W.ownsRow base t k v n xs) : ∃ A c, v = .slice A n c := by
  rcases h.2 with ⟨rfl, rfl⟩ | ⟨g, cap, cur, rfl, _⟩
  · exact ⟨none, 0, rfl⟩
  · exact ⟨_, _, rfl⟩
theorem infosl : (Tryz.prog.info? 136).map (fun i => (i.zero, i.size, i.bytes)) = some (some (.slice none 0 0), 1, 24) := by kernel_rfl
theorem infoin : (Tryz.prog.info? 3).map (fun i => (i.zero, i.size, i.bytes)) = some (some (.int .i64 0), 1, 8) := by kernel_rfl
end Go.Proofs.YtebkgbmijocdjaaGreat.Tp
namespace Go.Proofs.YtebkgbmijocdjaaGreat.Tp
open Go Go.RowKit

theorem row_at {W : World} {base n : Nat} {t : TypeId} {v : Value} {xs : List Value} (h : W.ownsRow base t 1 v n xs) {j : Nat} {u : Value} (hj : xs[j]? = some u) : ∃ g c, v = .slice (some ⟨g, 0, none⟩) n c ∧ W.cell? ⟨g, 0 + j, none⟩ = some u := by
  rcases h.2 with ⟨rfl, rfl⟩ | ⟨g, cap, cur, rfl, _, hg, _, _, _, ht⟩
  · have := h.1
    have hl : xs = [] := List.eq_nil_of_length_eq_zero (by omega)
    rw [hl] at hj
    simp at hj
  · refine ⟨g, cap, rfl, ?_⟩
    rw [Nat.zero_add]
    have h1 : cur.toList[j]? = some u := by
      rw [← ht, List.getElem?_take] at hj
      split at hj
      · exact hj
      · cases hj
    rw [(show Bk W g t cur from hg).cell]
    simpa using h1
theorem ints_flat : ∀ (L : List Int), L.map (Value.int .i64) = L.flatMap intE.f
  | [] => rfl
  | x :: L => by rw [List.map_cons, List.flatMap_cons, ints_flat L]; rfl
theorem Inner.sls {G : Nat} {VS gs : List Value} {L : List (List Spn)} {W : World} {v : Value} (h : Inner G VS gs L W) (hr : W.ownsRow (G + 1) 136 1 v gs.length gs) {A : Option Addr} {n c : Nat} (e : v = .slice A n c) : SlsAt W A L := fun j l hl => by
  obtain ⟨A', c', h1, h2, h3, h4, _⟩ := h.2 j l hl
  obtain ⟨g, c2, e2, hc⟩ := row_at hr h1
  rw [e] at e2
  injection e2 with e3 _ _
  exact ⟨g, 0, A', c', e3, hc, h2, h3, h4⟩
theorem BdV.gat {n0 G : Nat} {w W : World} {Aq Ac B H : Option Addr} {cq cc cb ch : Nat} {t : Tbl} {q : Rq} {vg vr vd : Value} {gs rs : List Value} (h : BdV n0 G w Aq cq Ac cc B cb H ch t q vg vr vd vg vr vd gs rs (gapsOf t) (roomsOfT t q.size) (t.p.c.map fun c => dur c q.size) W) (ht : TblAt W Aq cq Ac cc B cb H ch t) (hok : TblOK t) (hq : RqOK t.p q) : GAt W G t q := by
  obtain ⟨Ag, cg, eg⟩ := row_slice h.rg
  obtain ⟨Ar, cr, er⟩ := row_slice h.rr
  obtain ⟨Ad, cd, ed⟩ := row_slice h.rd
  have l1 : gs.length = t.p.c.length := by rw [h.ig.1]; unfold gapsOf; simp
  have l2 : rs.length = t.p.q.length := by rw [h.ir.1]; unfold roomsOfT; simp
  have l3 : (t.p.c.map fun c => dur c q.size).length = t.p.c.length := by simp
  have hb := h.g
  rw [eg, er, ed, l1, l2, l3] at hb
  have hrd := h.rd
  rw [ints_flat] at hrd
  obtain ⟨A2, c2, e2, hs, _⟩ := sl_of_row (E := intE) hrd
  rw [ed] at e2
  injection e2 with e3 _ _
  subst e3
  exact ⟨Aq, cq, Ac, cc, B, cb, H, ch, Ag, cg, Ar, cr, Ad, cd, hb, ht, h.ig.sls h.rg eg, h.ir.sls h.rr er, hs, hok, hq⟩
set_option maxHeartbeats 16000000 in
set_option maxRecDepth 100000 in
theorem build_any (Aq : Option Addr) (cq : Nat) (Ac : Option Addr) (cc : Nat) (B : Option Addr) (cb : Nat) (H : Option Addr) (ch : Nat) (t : Tbl) (q : Rq) (w : World) (ht : TblAt w Aq cq Ac cc B cb H ch t) (hok : TblOK t) (hq : RqOK t.p q) :
    Calls Tryz.prog 26 #[.agg #[.slice Aq t.p.q.length cq, .slice Ac t.p.c.length cc, .slice B t.b.length cb, .slice H t.h.length ch], .agg #[.int .i64 q.src, .int .i64 q.dst, .int .i64 q.size, .int .i64 q.ready, .int .i64 q.dead, .int .i64 q.prio, .bool q.cust]] w fun e w' => ∃ G, e = .returned (.tuple #[.pointer (some ⟨G, 0, none⟩), .bool true]) ∧ GAt w' G t q ∧ w.heap.size ≤ G ∧ Below w.heap.size w w' := by
  have HT := Lib.hid ht
  have HOK := Lib.hid hok
  have HQ := Lib.hid hq
  have HB0 : Hid (Below w.heap.size w ((w.alloc (.cells (tbA Aq cq Ac cc B cb H ch t) 29)).alloc (.cells (rqL q).toArray 31))) := ((Below.refl _ _).alloc (Nat.le_refl _) _).alloc (by simp) _
  have HK0 : Hid (Bk ((w.alloc (.cells (tbA Aq cq Ac cc B cb H ch t) 29)).alloc (.cells (rqL q).toArray 31)) w.heap.size 29 (tbA Aq cq Ac cc B cb H ch t)) := (Bk.new _ _ _).alloc _
  have HK1 : Hid (Bk ((w.alloc (.cells (tbA Aq cq Ac cc B cb H ch t) 29)).alloc (.cells (rqL q).toArray 31)) (w.heap.size + 1) 31 (rqL q).toArray) := by
    have h := Bk.new (w.alloc (.cells (tbA Aq cq Ac cc B cb H ch t) 29)) 31 (rqL q).toArray
    rwa [World.size_alloc] at h
  have HTY := Lib.hid (fun w' hb => tables_yes Aq cq Ac cc B cb H ch t w' (ht.below (w' := w') hb) hok)
  have HRQ := Lib.hid (fun w' hb => request_any Aq cq Ac cc t.p q w' (ht.below (w' := w') hb).p)
  have a0 : ((w.alloc (.cells (tbA Aq cq Ac cc B cb H ch t) 29)).alloc (.cells (rqL q).toArray 31)).cell? ⟨w.heap.size, 0, none⟩ = some (.slice Aq t.p.q.length cq) := HK0.out.cell 0
  have a1 : ((w.alloc (.cells (tbA Aq cq Ac cc B cb H ch t) 29)).alloc (.cells (rqL q).toArray 31)).cell? ⟨w.heap.size, 1, none⟩ = some (.slice Ac t.p.c.length cc) := HK0.out.cell 1
  have a2 : ((w.alloc (.cells (tbA Aq cq Ac cc B cb H ch t) 29)).alloc (.cells (rqL q).toArray 31)).cell? ⟨w.heap.size, 2, none⟩ = some (.slice B t.b.length cb) := HK0.out.cell 2
  have a3 : ((w.alloc (.cells (tbA Aq cq Ac cc B cb H ch t) 29)).alloc (.cells (rqL q).toArray 31)).cell? ⟨w.heap.size, 3, none⟩ = some (.slice H t.h.length ch) := HK0.out.cell 3
  clear ht hok hq
  go_enter Tryz.func26, Tryz.ntmps26
  go_wp2_with fail
  clear a0 a1 a2 a3
  generalize ((w.alloc (.cells (tbA Aq cq Ac cc B cb H ch t) 29)).alloc (.cells (rqL q).toArray 31)) = W at HB0 HK0 HK1 ⊢
  generalize hn0 : w.heap.size = n0 at HB0 HK0 HK1 ⊢
  refine (HTY.out W (by rw [hn0]; exact HB0.out)).mono ?_
  rintro e w1 ⟨rfl, hb1⟩
  have HM0 := Lib.hid (HK0.out.below hb1 HK0.out.lt)
  have HM1 := Lib.hid (HK1.out.below hb1 HK1.out.lt)
  have HB1 : Hid (Below n0 w w1) := HB0.out.trans (hb1.mono (by have := HK1.out.lt; omega))
  clear hb1 HB0 HK0 HK1
  have a0 : w1.cell? ⟨n0, 0, none⟩ = some (.slice Aq t.p.q.length cq) := HM0.out.cell 0
  have a1 : w1.cell? ⟨n0, 1, none⟩ = some (.slice Ac t.p.c.length cc) := HM0.out.cell 1
  have a2 : w1.cell? ⟨n0, 2, none⟩ = some (.slice B t.b.length cb) := HM0.out.cell 2
  have a3 : w1.cell? ⟨n0, 3, none⟩ = some (.slice H t.h.length ch) := HM0.out.cell 3
  have b0 : w1.cell? ⟨n0 + 1, 0, none⟩ = some (.int .i64 q.src) := HM1.out.cell 0
  have b1 : w1.cell? ⟨n0 + 1, 1, none⟩ = some (.int .i64 q.dst) := HM1.out.cell 1
  have b2 : w1.cell? ⟨n0 + 1, 2, none⟩ = some (.int .i64 q.size) := HM1.out.cell 2
  have b3 : w1.cell? ⟨n0 + 1, 3, none⟩ = some (.int .i64 q.ready) := HM1.out.cell 3
  have b4 : w1.cell? ⟨n0 + 1, 4, none⟩ = some (.int .i64 q.dead) := HM1.out.cell 4
  have b5 : w1.cell? ⟨n0 + 1, 5, none⟩ = some (.int .i64 q.prio) := HM1.out.cell 5
  have b6 : w1.cell? ⟨n0 + 1, 6, none⟩ = some (.bool q.cust) := HM1.out.cell 6
  go_wp2_with fail
  refine (HRQ.out w1 (by rw [hn0]; exact HB1.out)).mono ?_
  rintro e w2 ⟨q1, rfl, hq1, hb2⟩
  have hq10 : q1 = 0 := hq1.2 HQ.out
  subst hq10
  have HN0 := Lib.hid (HM0.out.below hb2 HM0.out.lt)
  have HN1 := Lib.hid (HM1.out.below hb2 HM1.out.lt)
  have HB2 : Hid (Below n0 w w2) := HB1.out.trans (hb2.mono (by have := HM1.out.lt; omega))
  clear hb2 HB1 HM0 HM1 hq1 HRQ HTY a0 a1 a2 a3 b0 b1 b2 b3 b4 b5 b6
  have a0 : w2.cell? ⟨n0, 0, none⟩ = some (.slice Aq t.p.q.length cq) := HN0.out.cell 0
  have a1 : w2.cell? ⟨n0, 1, none⟩ = some (.slice Ac t.p.c.length cc) := HN0.out.cell 1
  have a2 : w2.cell? ⟨n0, 2, none⟩ = some (.slice B t.b.length cb) := HN0.out.cell 2
  have a3 : w2.cell? ⟨n0, 3, none⟩ = some (.slice H t.h.length ch) := HN0.out.cell 3
  have b0 : w2.cell? ⟨n0 + 1, 0, none⟩ = some (.int .i64 q.src) := HN1.out.cell 0
  have b1 : w2.cell? ⟨n0 + 1, 1, none⟩ = some (.int .i64 q.dst) := HN1.out.cell 1
  have b2 : w2.cell? ⟨n0 + 1, 2, none⟩ = some (.int .i64 q.size) := HN1.out.cell 2
  have b3 : w2.cell? ⟨n0 + 1, 3, none⟩ = some (.int .i64 q.ready) := HN1.out.cell 3
  have b4 : w2.cell? ⟨n0 + 1, 4, none⟩ = some (.int .i64 q.dead) := HN1.out.cell 4
  have b5 : w2.cell? ⟨n0 + 1, 5, none⟩ = some (.int .i64 q.prio) := HN1.out.cell 5
  have b6 : w2.cell? ⟨n0 + 1, 6, none⟩ = some (.bool q.cust) := HN1.out.cell 6
  have HG3 : Hid (Bk (w2.alloc (.cells (grC Aq cq Ac cc B cb H ch t q (.slice none 0 0) (.slice none 0 0) (.slice none 0 0)) 135)) w2.heap.size 135 (grC Aq cq Ac cc B cb H ch t q (.slice none 0 0) (.slice none 0 0) (.slice none 0 0))) := Bk.new _ _ _
  have HB3 : Hid (Below w2.heap.size w2 (w2.alloc (.cells (grC Aq cq Ac cc B cb H ch t q (.slice none 0 0) (.slice none 0 0) (.slice none 0 0)) 135))) := (Below.refl _ _).alloc (Nat.le_refl _) _
  have HV3 : Hid (BdV n0 w2.heap.size w Aq cq Ac cc B cb H ch t q (.slice none 0 0) (.slice none 0 0) (.slice none 0 0) (.slice none 0 0) (.slice none 0 0) (.slice none 0 0) [] [] [] [] [] (w2.alloc (.cells (grC Aq cq Ac cc B cb H ch t q (.slice none 0 0) (.slice none 0 0) (.slice none 0 0)) 135))) :=
    ⟨HN0.out.below HB3.out HN0.out.lt, HN1.out.below HB3.out HN1.out.lt, HG3.out, World.ownsRow_nil _ _ _ _, World.ownsRow_nil _ _ _ _, World.ownsRow_nil _ _ _ _, .inl rfl, ⟨rfl, fun j l hl => by simp at hl⟩, ⟨rfl, fun j l hl => by simp at hl⟩, HB2.out.trans (HB3.out.mono (by have := HN1.out.lt; omega)), by have := HN1.out.lt; omega⟩
  have c1 : (w2.alloc (.cells (grC Aq cq Ac cc B cb H ch t q (.slice none 0 0) (.slice none 0 0) (.slice none 0 0)) 135)).cell? ⟨n0, 1, none⟩ = some (.slice Ac t.p.c.length cc) := HV3.out.tb.cell 1
  go_wp2_with fail
  clear a0 a1 a2 a3 b0 b1 b2 b3 b4 b5 b6 c1 HG3 HB3 HN0 HN1 HB2
  generalize (w2.alloc (.cells (grC Aq cq Ac cc B cb H ch t q (.slice none 0 0) (.slice none 0 0) (.slice none 0 0)) 135)) = w3 at HV3 ⊢
  generalize w2.heap.size = G at HV3 ⊢
  go_loopw [7, 8, 9, 10, 11, 12, 34] (fun _ _ _ _ _ _ i wr => ∃ (k : Nat) (vg vd : Value) (gs : List Value), k ≤ t.p.c.length ∧ i = .int .i64 k ∧ BdV n0 G w Aq cq Ac cc B cb H ch t q vg (.slice none 0 0) vd vg (.slice none 0 0) vd gs [] ((gapsOf t).take k) [] ((t.p.c.map fun c => dur c q.size).take k) wr) (fun _ _ _ _ _ _ i _ => t.p.c.length - (intOf i).toNat)
  case atStart => exact ⟨0, _, _, [], Nat.zero_le _, rfl, HV3.out⟩
  case round =>
    obtain ⟨k, vg, vd, gs, hk, rfl, hv⟩ := hrel
    have HV := Lib.hid hv
    clear hv HV3
    by_cases hlt : k < t.p.c.length
    · obtain ⟨c, hc⟩ : ∃ c, t.p.c[k]? = some c := ⟨_, List.getElem?_eq_getElem hlt⟩
      have HC := Lib.hid hc
      have HTW := Lib.hid (fun W' hb => HT.out.below (w' := W') hb)
      obtain ⟨bc, oc, hAc, hr⟩ := (HTW.out wr (by rw [hn0]; exact HV.out.be)).p.c.one (by omega)
      have hrg := hr k c hc
      have c0 : wr.cell? ⟨bc, oc + k * 7, none⟩ = some (.int .i64 c.src) := hrg 0 _ rfl
      have c1 : wr.cell? ⟨bc, oc + k * 7 + 1, none⟩ = some (.int .i64 c.dst) := hrg 1 _ rfl
      have c2 : wr.cell? ⟨bc, oc + k * 7 + 2, none⟩ = some (.int .i64 c.beg) := hrg 2 _ rfl
      have c3 : wr.cell? ⟨bc, oc + k * 7 + 3, none⟩ = some (.int .i64 c.fin) := hrg 3 _ rfl
      have c4 : wr.cell? ⟨bc, oc + k * 7 + 4, none⟩ = some (.int .i64 c.rate) := hrg 4 _ rfl
      have c5 : wr.cell? ⟨bc, oc + k * 7 + 5, none⟩ = some (.int .i64 c.rng) := hrg 5 _ rfl
      have c6 : wr.cell? ⟨bc, oc + k * 7 + 6, none⟩ = some (.int .i64 c.loss) := hrg 6 _ rfl
      have HBX : Hid (Below wr.heap.size wr (wr.alloc (.cells (ctA c) 104))) := (Below.refl _ _).alloc (Nat.le_refl _) _
      have HCB : Hid (Bk (wr.alloc (.cells (ctA c) 104)) wr.heap.size 104 (ctA c)) := Bk.new _ _ _
      have HV5 := Lib.hid (HV.out.below HBX.out)
      have HGP : Hid ((gapsOf t).take (k + 1) = (gapsOf t).take k ++ [freeL c (busyL t.b k) c.beg]) := take_snoc (by unfold gapsOf; rw [List.getElem?_map, List.getElem?_zipIdx, hc]; simp)
      have HDP : Hid ((t.p.c.map fun c => dur c q.size).take (k + 1) = (t.p.c.map fun c => dur c q.size).take k ++ [dur c q.size]) := take_snoc (by rw [List.getElem?_map, hc]; rfl)
      have HFR := Lib.hid (fun w' hb => free_yes Aq cq Ac cc t.p B cb t.b k c w' (HTW.out w' hb).p (HTW.out w' hb).b (by have := HOK.out.2.1.1; omega) ⟨HOK.out.1, HOK.out.2.1⟩ hc)
      have HLL : Hid ((freeL c (busyL t.b k) c.beg).length ≤ 100000) := by
        show _ ≤ _
        unfold freeL
        rw [List.length_append]
        have h1 := freeG_len (max c.beg c.beg) (busyL t.b k)
        have h2 := gapL_len (freeG (max c.beg c.beg) (busyL t.b k)).2 c.fin
        have h3 := busyL_len t.b k
        have h4 := HOK.out.2.1.1
        omega
      have hk0 : (0 : Int) ≤ (k : Int) := by omega
      have hk1 : (k : Int) < (t.p.c.length : Int) := by omega
      have a0 : (wr.alloc (.cells (ctA c) 104)).cell? ⟨n0, 0, none⟩ = some (.slice Aq t.p.q.length cq) := HV5.out.tb.cell 0
      have a1 : (wr.alloc (.cells (ctA c) 104)).cell? ⟨n0, 1, none⟩ = some (.slice Ac t.p.c.length cc) := HV5.out.tb.cell 1
      have a2 : (wr.alloc (.cells (ctA c) 104)).cell? ⟨n0, 2, none⟩ = some (.slice B t.b.length cb) := HV5.out.tb.cell 2
      have HLT := Lib.hid (fun r e => (row_lt HV.out.rg r e).2)
      have HLT2 := Lib.hid (fun r e => (row_lt HV.out.rd r e).2)
      have HZ : Hid (G + 1 ≤ wr.heap.size ∧ n0 + 2 ≤ G) := HV.out.size
      clear hc hr hrg HV
      subst hAc
      go_wp2_with fail
      clear c0 c1 c2 c3 c4 c5 c6 a0 a1 a2
      have hz5 : (wr.alloc (.cells (ctA c) 104)).heap.size = wr.heap.size + 1 := by simp
      have HZ5 := Lib.hid hz5
      clear hz5
      generalize (wr.alloc (.cells (ctA c) 104)) = w5 at HCB HV5 HZ5 ⊢
      refine (HFR.out w5 (by rw [hn0]; exact HV5.out.be)).mono ?_
      rintro e w6 ⟨A6, c6, rfl, hs6, hc6, hba6, hb6⟩
      have HCB6 := Lib.hid (HCB.out.below hb6 HCB.out.lt)
      have HV6 := Lib.hid (HV5.out.below hb6)
      have HS6 := Lib.hid hs6
      have HL6 := Lib.hid hc6
      have HA6 := Lib.hid hba6
      clear hb6 hs6 hc6 hba6 HCB HV5 HBX HFR
      generalize freeL c (busyL t.b k) c.beg = LS at HGP HS6 HL6 HLL ⊢
      have HCD := Lib.hid (fun w => cduration_any c ((HOK.out.1.2.2.1 c (List.mem_of_getElem? HC.out)).1) q.size HQ.out.2.2.2.2.1 w)
      have d0 : w6.cell? ⟨wr.heap.size, 0, none⟩ = some (.int .i64 c.src) := HCB6.out.cell 0
      have d1 : w6.cell? ⟨wr.heap.size, 1, none⟩ = some (.int .i64 c.dst) := HCB6.out.cell 1
      have d2 : w6.cell? ⟨wr.heap.size, 2, none⟩ = some (.int .i64 c.beg) := HCB6.out.cell 2
      have d3 : w6.cell? ⟨wr.heap.size, 3, none⟩ = some (.int .i64 c.fin) := HCB6.out.cell 3
      have d4 : w6.cell? ⟨wr.heap.size, 4, none⟩ = some (.int .i64 c.rate) := HCB6.out.cell 4
      have d5 : w6.cell? ⟨wr.heap.size, 5, none⟩ = some (.int .i64 c.rng) := HCB6.out.cell 5
      have d6 : w6.cell? ⟨wr.heap.size, 6, none⟩ = some (.int .i64 c.loss) := HCB6.out.cell 6
      have b2 : w6.cell? ⟨n0 + 1, 2, none⟩ = some (.int .i64 q.size) := HV6.out.qb.cell 2
      go_wp2_with fail
      clear d0 d1 d2 d3 d4 d5 d6 b2
      refine (HCD.out w6).mono ?_
      rintro e w7 ⟨rfl, hb7⟩
      have HV7 := Lib.hid (HV6.out.below hb7)
      have HS7 := Lib.hid (HS6.out.below hb7)
      have HA7 : Hid (∀ a, LS ≠ [] → A6 = some a → G + 1 ≤ a.block ∧ a.block < w7.heap.size ∧ ∀ v ∈ [vg, .slice none 0 0, vd], v.ownBlock ≠ some a.block) := fun a hl ha => by
        have h1 := HA6.out a ha
        have h2 := HZ5.out
        have h3 := HZ.out
        refine ⟨by omega, ?_, fun v hv e => ?_⟩
        · cases hL : LS with
          | nil => exact absurd hL hl
          | cons s l =>
            obtain ⟨b, off, e, hr⟩ := HS7.out 0 s (by rw [hL]; rfl)
            rw [ha] at e
            cases e
            exact World.block_lt_of_cell? _ _ (hr 0 _ rfl)
        · simp only [List.mem_cons, List.not_mem_nil, or_false] at hv
          rcases hv with rfl | rfl | rfl
          · have := HLT.out _ e; omega
          · cases e
          · have := HLT2.out _ e; omega
      clear hb7 HV6 HS6 HCB6 HA6 HCD
      generalize dur c q.size = DD at HDP ⊢
      obtain ⟨Ag, cg, rfl⟩ := row_slice HV7.out.rg
      obtain ⟨Ad, cd, rfl⟩ := row_slice HV7.out.rd
      obtain ⟨i1, hi1, hy1, hy2, hy3⟩ := info_parts infosl
      obtain ⟨i2, hi2, hw1, hw2, hw3⟩ := info_parts infoin
      have HGL : Hid (gs.length ≤ 64) := by
        have h1 := HV7.out.ig.1
        have h2 := HOK.out.1.1.2.2
        show _ ≤ _
        rw [h1, List.length_take]
        omega
      have HDL : Hid (((t.p.c.map fun c => dur c q.size).take k).length ≤ 64) := by
        have h2 := HOK.out.1.1.2.2
        show _ ≤ _
        rw [List.length_take]
        omega
      have hk64 : (k : Int) ≤ 64 := by have := HOK.out.1.1.2.2; omega
      generalize (t.p.c.map fun c => dur c q.size).take k = LD at HV7 HDP HDL HA7 ⊢
      generalize (gapsOf t).take k = LG at HV7 HGP ⊢
      have HSF : Hid (∀ X, Bk X G 135 (grC Aq cq (some ⟨bc, oc, none⟩) cc B cb H ch t q (.slice Ag gs.length cg) (.slice none 0 0) (.slice Ad LD.length cd)) → X.cell? ⟨G, 11, none⟩ = some (.slice Ag gs.length cg) ∧ X.cell? ⟨G, 13, none⟩ = some (.slice Ad LD.length cd)) := fun X hb => ⟨hb.cell 11, hb.cell 13⟩
      go_wp2_with fail
      refine region_g (S := fun w' => w'.cell? ⟨G, 11, none⟩ = some (.slice Ag gs.length cg) ∧ w'.cell? ⟨G, 13, none⟩ = some (.slice Ad LD.length cd)) [18, 21] (by kernel_rfl) (HSF.out _ (HV7.out.below (Below.refl w7.heap.size w7).drew).g) (fun hHeld => ?_)
      have HVX0 := Lib.hid (HV7.out.below (Below.refl w7.heap.size w7).drew)
      have HSV : Hid (∀ X, Below w7.drew.heap.size w7.drew X → SlAt spE X A6 LS) := fun X hb => (HS7.out.below (Below.refl w7.heap.size w7).drew).below hb
      have HBX0 : Hid (Below w7.drew.heap.size w7.drew w7.drew) := Below.refl _ _
      replace HA7 : Hid (∀ a, LS ≠ [] → A6 = some a → G + 1 ≤ a.block ∧ a.block < w7.drew.heap.size ∧ ∀ v ∈ ([.slice Ag gs.length cg, .slice none 0 0, .slice Ad LD.length cd] : List Value), v.ownBlock ≠ some a.block) := HA7
      clear HV7 HS7
      generalize w7.drew = V at HVX0 HSV HBX0 HA7 hHeld ⊢
      refine takeF (i := 0) (v := ?v0_1) rfl (by kernel_rfl) (by kernel_rfl) (by kernel_rfl) (by kernel_rfl) (fun _ _ _ h => nomatch h.1) (Or.inl ⟨by rfl, ?hy0_1⟩) (by assumption) ?_
      case hy0_1 => (intro w _; go_simp; try with_reducible rfl)
      try simp only [Act.put, List.setIfInBounds_toArray, List.set_cons_zero, List.set_cons_succ]
      refine takeF (i := 1) (v := ?v1_2) rfl (by kernel_rfl) (by kernel_rfl) (by kernel_rfl) (by kernel_rfl) (fun _ _ _ h => nomatch h.1) (Or.inl ⟨by rfl, ?hy1_2⟩) (by assumption) ?_
      case hy1_2 => (intro w _; go_simp; try with_reducible rfl)
      try simp only [Act.put, List.setIfInBounds_toArray, List.set_cons_zero, List.set_cons_succ]
      refine takeF (i := 2) (v := ?v2_3) rfl (by kernel_rfl) (by kernel_rfl) (by kernel_rfl) (by kernel_rfl) (fun _ _ _ h => nomatch h.1) (Or.inl ⟨by rfl, ?hy2_3⟩) (by assumption) ?_
      case hy2_3 => (intro w _; go_simp; try with_reducible rfl)
      try simp only [Act.put, List.setIfInBounds_toArray, List.set_cons_zero, List.set_cons_succ]
      refine takeF (i := 3) (v := ?v3_4) rfl (by kernel_rfl) (by kernel_rfl) (by kernel_rfl) (by kernel_rfl) (fun _ _ _ h => nomatch h.1) (Or.inl ⟨by rfl, ?hy3_4⟩) (by assumption) ?_
      case hy3_4 => (intro w _; go_simp; try with_reducible rfl)
      try simp only [Act.put, List.setIfInBounds_toArray, List.set_cons_zero, List.set_cons_succ]
      refine takeF (i := 4) (v := ?v4_5) rfl (by kernel_rfl) (by kernel_rfl) (by kernel_rfl) (by kernel_rfl) (fun _ _ _ h => nomatch h.1) (Or.inl ⟨by rfl, ?hy4_5⟩) (by assumption) ?_
      case hy4_5 => (intro w _; go_simp; try with_reducible rfl)
      try simp only [Act.put, List.setIfInBounds_toArray, List.set_cons_zero, List.set_cons_succ]
      refine takeG (i := 5) (v := (.slice Ag gs.length cg)) rfl (by kernel_rfl) (by kernel_rfl) (by kernel_rfl) (by kernel_rfl) (by kernel_rfl) (fun _ _ _ h => nomatch h.1) (Or.inl ⟨by rfl, ?hy5_17⟩) (by assumption) ?_
      case hy5_17 => (intro w hSw; (try dsimp only at hSw); go_simp; try with_reducible rfl)
      try simp only [Act.put, List.setIfInBounds_toArray, List.set_cons_zero, List.set_cons_succ]
      refine takeF (i := 6) (v := ?v6_6) rfl (by kernel_rfl) (by kernel_rfl) (by kernel_rfl) (by kernel_rfl) (fun _ _ _ h => nomatch h.1) (Or.inl ⟨by rfl, ?hy6_6⟩) (by assumption) ?_
      case hy6_6 => (intro w _; go_simp; try with_reducible rfl)
      try simp only [Act.put, List.setIfInBounds_toArray, List.set_cons_zero, List.set_cons_succ]
      refine takeF (i := 9) (v := ?v9_7) rfl (by kernel_rfl) (by kernel_rfl) (by kernel_rfl) (by kernel_rfl) (fun _ _ _ h => nomatch h.1) (Or.inl ⟨by rfl, ?hy9_7⟩) (by assumption) ?_
      case hy9_7 => (intro w _; go_simp; try with_reducible rfl)
      try simp only [Act.put, List.setIfInBounds_toArray, List.set_cons_zero, List.set_cons_succ]
      refine takeF (i := 10) (v := ?v10_8) rfl (by kernel_rfl) (by kernel_rfl) (by kernel_rfl) (by kernel_rfl) (fun _ _ _ h => nomatch h.1) (Or.inl ⟨by rfl, ?hy10_8⟩) (by assumption) ?_
      case hy10_8 => (intro w _; go_simp; try with_reducible rfl)
      try simp only [Act.put, List.setIfInBounds_toArray, List.set_cons_zero, List.set_cons_succ]
      refine takeF (i := 11) (v := ?v11_9) rfl (by kernel_rfl) (by kernel_rfl) (by kernel_rfl) (by kernel_rfl) (fun _ _ _ h => nomatch h.1) (Or.inl ⟨by rfl, ?hy11_9⟩) (by assumption) ?_
      case hy11_9 => (intro w _; go_simp; try with_reducible rfl)
      try simp only [Act.put, List.setIfInBounds_toArray, List.set_cons_zero, List.set_cons_succ]
      refine takeG (i := 12) (v := (.slice Ad LD.length cd)) rfl (by kernel_rfl) (by kernel_rfl) (by kernel_rfl) (by kernel_rfl) (by kernel_rfl) (fun _ _ _ h => nomatch h.1) (Or.inl ⟨by rfl, ?hy12_18⟩) (by assumption) ?_
      case hy12_18 => (intro w hSw; (try dsimp only at hSw); go_simp; try with_reducible rfl)
      try simp only [Act.put, List.setIfInBounds_toArray, List.set_cons_zero, List.set_cons_succ]
      refine takeF (i := 13) (v := ?v13_10) rfl (by kernel_rfl) (by kernel_rfl) (by kernel_rfl) (by kernel_rfl) (fun _ _ _ h => nomatch h.1) (Or.inl ⟨by rfl, ?hy13_10⟩) (by assumption) ?_
      case hy13_10 => (intro w _; go_simp; try with_reducible rfl)
      try simp only [Act.put, List.setIfInBounds_toArray, List.set_cons_zero, List.set_cons_succ]
      clear hHeld
      refine readyG2 (i := 7) (j := 14) rfl rfl (by kernel_rfl) (by rfl) (by rfl) (fun K hK => ?_) (fun K hK => ?_)
      · go_simp
        have hb := (Below.refl V.heap.size V).alloc (Nat.le_refl _) (.cells #[(.slice A6 LS.length c6)] 136)
        have hv := HVX0.out.below hb
        have hp : Bk (V.alloc (.cells #[(.slice A6 LS.length c6)] 136)) V.heap.size 136 #[(.slice A6 LS.length c6)] := Bk.new _ _ _
        have HVX1 := Lib.hid hv
        have HP1X1 := Lib.hid hp
        have HBX1 := Lib.hid (below_next HBX0.out hb)
        refine hK _ _ (HSF.out _ HVX1.out.g) ?_
        clear hK K hb hv hp HVX0 HBX0
        try simp only [Act.put, List.setIfInBounds_toArray, List.set_cons_zero, List.set_cons_succ]
        generalize (V.alloc (.cells #[(.slice A6 LS.length c6)] 136)) = X1 at HVX1 HP1X1 HBX1 ⊢
        generalize V.heap.size = p1 at HP1X1 ⊢
        refine readyG2 (i := 8) (j := 14) rfl rfl (by kernel_rfl) (by rfl) (by rfl) (fun K hK => ?_) (fun K hK => ?_)
        · refine wp_append_any (.tmp 60) (.tmp 62) 133 136 rfl (G + 1) i1 (.slice none 0 0) 1 24 Tryz.underlying133 hi1 hy1 hy2 hy3 rfl (by decide) (.slice Ag gs.length cg) gs.length gs rfl HVX1.out.rg ⟨p1, 0, none⟩ [(.slice A6 LS.length c6)] rfl rfl (fun j u hu => by rw [Addr.add_mid, Nat.zero_add, HP1X1.out.cell]; simpa using hu) (fun u hu => by rw [List.mem_singleton.1 hu]; rfl) (by have := HGL.out; unfold maxLen; omega) (by have := HGL.out; omega) HVX1.out.size.1 (fun v8 w8 h2 h3 h4 => ?_)
          obtain ⟨A8, c8, rfl⟩ := row_slice h2
          have hv := HVX1.out.growG h3 h2 h4 (HSV.out _ HBX1.out) HL6.out HLL.out (fun a hl ha => ⟨(HA7.out a hl ha).1, by have h5 := (HA7.out a hl ha).2.1; have h6 := HBX1.out.size; omega, (HA7.out a hl ha).2.2⟩)
          have HVX2 := Lib.hid hv
          refine hK _ _ (HSF.out _ HVX2.out.g) ?_
          clear hK K hv h2 h3 h4 HVX1 HBX1 HP1X1
          try simp only [Act.put, List.setIfInBounds_toArray, List.set_cons_zero, List.set_cons_succ]
          generalize w8 = X2 at HVX2 ⊢
          refine readyG (i := 14) rfl (by kernel_rfl) (by rfl) (fun K hK => ?_)
          go_simp
          have hb := (Below.refl X2.heap.size X2).alloc (Nat.le_refl _) (.cells #[(.int .i64 DD)] 3)
          have hv := HVX2.out.below hb
          have hp : Bk (X2.alloc (.cells #[(.int .i64 DD)] 3)) X2.heap.size 3 #[(.int .i64 DD)] := Bk.new _ _ _
          have HVX3 := Lib.hid hv
          have HP2X3 := Lib.hid hp
          refine hK _ _ (HSF.out _ HVX3.out.g) ?_
          clear hK K hb hv hp HVX2
          try simp only [Act.put, List.setIfInBounds_toArray, List.set_cons_zero, List.set_cons_succ]
          generalize (X2.alloc (.cells #[(.int .i64 DD)] 3)) = X3 at HVX3 HP2X3 ⊢
          generalize X2.heap.size = p2 at HP2X3 ⊢
          refine readyG (i := 15) rfl (by kernel_rfl) (by rfl) (fun K hK => ?_)
          refine wp_append_any (.tmp 67) (.tmp 69) 22 3 rfl (G + 1) i2 (.int .i64 0) 1 8 Tryz.underlying22 hi2 hw1 hw2 hw3 rfl (by decide) (.slice Ad LD.length cd) LD.length (LD.map (Value.int .i64)) rfl HVX3.out.rd ⟨p2, 0, none⟩ [.int .i64 DD] rfl rfl (fun j u hu => by rw [Addr.add_mid, Nat.zero_add, HP2X3.out.cell]; simpa using hu) (fun u hu => by rw [List.mem_singleton.1 hu]; rfl) (by have := HDL.out; unfold maxLen; omega) (by have := HDL.out; omega) HVX3.out.size.1 (fun v9 w9 h2 h3 h4 => ?_)
          obtain ⟨A9, c9, rfl⟩ := row_slice h2
          have hv := HVX3.out.growD h3 h2 h4
          have HVX4 := Lib.hid hv
          have hHeld := HSF.out _ HVX4.out.g
          refine hK _ _ hHeld ?_
          clear hK K hv h2 h3 h4 HVX3 HP2X3
          try simp only [Act.put, List.setIfInBounds_toArray, List.set_cons_zero, List.set_cons_succ]
          generalize w9 = X4 at HVX4 hHeld ⊢
          refine takeF (i := 16) (v := ?v16_11) rfl (by kernel_rfl) (by kernel_rfl) (by kernel_rfl) (by kernel_rfl) (fun _ _ _ h => nomatch h.1) (Or.inl ⟨by rfl, ?hy16_11⟩) (by assumption) ?_
          case hy16_11 => (intro w _; go_simp; try with_reducible rfl)
          try simp only [Act.put, List.setIfInBounds_toArray, List.set_cons_zero, List.set_cons_succ]
          refine takeF (i := 17) (v := ?v17_12) rfl (by kernel_rfl) (by kernel_rfl) (by kernel_rfl) (by kernel_rfl) (fun _ _ _ h => nomatch h.1) (Or.inl ⟨by rfl, ?hy17_12⟩) (by assumption) ?_
          case hy17_12 => (intro w _; go_simp; try with_reducible rfl)
          try simp only [Act.put, List.setIfInBounds_toArray, List.set_cons_zero, List.set_cons_succ]
          have r0 : X4.cell? ⟨G, 11, none⟩ = some (.slice Ag gs.length cg) := HVX4.out.g.cell 11
          have f0 : X4.frozen? ⟨G, 11, none⟩ = false := HVX4.out.g.free 11
          have HVy := Lib.hid (HVX4.out.put (i := 11) (u := .slice A8 (gs.length + 1) c8) (fg' := .slice A8 (gs.length + 1) c8) (fr' := .slice none 0 0) (fd' := .slice Ad LD.length cd) rfl)
          refine storeG (i := 18) rfl (by kernel_rfl) (by rfl) (by rfl) (fun K hK => ?_)
          go_simp
          refine hK _ _ ?_
          clear hK K r0 f0 hHeld HVX4
          try simp only [Act.put, List.setIfInBounds_toArray, List.set_cons_zero, List.set_cons_succ]
          generalize (X4.setCell ⟨G, 11, none⟩ (.slice A8 (gs.length + 1) c8)) = Y1 at HVy ⊢
          refine storeG (i := 19) rfl (by kernel_rfl) (by rfl) (by rfl) (fun K hK => ?_)
          go_simp
          refine hK _ _ ?_
          clear hK K
          try simp only [Act.put, List.setIfInBounds_toArray, List.set_cons_zero, List.set_cons_succ]
          refine storeG (i := 20) rfl (by kernel_rfl) (by rfl) (by rfl) (fun K hK => ?_)
          go_simp
          refine hK _ _ ?_
          clear hK K
          try simp only [Act.put, List.setIfInBounds_toArray, List.set_cons_zero, List.set_cons_succ]
          have r0 : Y1.cell? ⟨G, 13, none⟩ = some (.slice Ad LD.length cd) := HVy.out.g.cell 13
          have f0 : Y1.frozen? ⟨G, 13, none⟩ = false := HVy.out.g.free 13
          have HVz := Lib.hid (HVy.out.put (i := 13) (u := .slice A9 (LD.length + 1) c9) (fg' := .slice A8 (gs.length + 1) c8) (fr' := .slice none 0 0) (fd' := .slice A9 (LD.length + 1) c9) rfl)
          refine storeG (i := 21) rfl (by kernel_rfl) (by rfl) (by rfl) (fun K hK => ?_)
          go_simp
          refine hK _ _ ?_
          clear hK K r0 f0 HVy
          try simp only [Act.put, List.setIfInBounds_toArray, List.set_cons_zero, List.set_cons_succ]
          refine doneG (by kernel_rfl) ?_
          clear HSF HSV
          go_wp2
          go_roundw
          case rel => exact ⟨k + 1, _, _, _, by omega, by go_num, by rw [HGP.out, HDP.out]; exact HVz.out⟩
          case measure => simp [intOf]; omega
        · go_simp
          have hb := (Below.refl X1.heap.size X1).alloc (Nat.le_refl _) (.cells #[(.int .i64 DD)] 3)
          have hv := HVX1.out.below hb
          have hp : Bk (X1.alloc (.cells #[(.int .i64 DD)] 3)) X1.heap.size 3 #[(.int .i64 DD)] := Bk.new _ _ _
          have HVX2 := Lib.hid hv
          have HP2X2 := Lib.hid hp
          have HBX2 := Lib.hid (below_next HBX1.out hb)
          have HP1X2 := Lib.hid (HP1X1.out.below hb HP1X1.out.lt)
          refine hK _ _ (HSF.out _ HVX2.out.g) ?_
          clear hK K hb hv hp HVX1 HBX1 HP1X1
          try simp only [Act.put, List.setIfInBounds_toArray, List.set_cons_zero, List.set_cons_succ]
          generalize (X1.alloc (.cells #[(.int .i64 DD)] 3)) = X2 at HVX2 HP2X2 HBX2 HP1X2 ⊢
          generalize X1.heap.size = p2 at HP2X2 ⊢
          refine readyG (i := 8) rfl (by kernel_rfl) (by rfl) (fun K hK => ?_)
          refine wp_append_any (.tmp 60) (.tmp 62) 133 136 rfl (G + 1) i1 (.slice none 0 0) 1 24 Tryz.underlying133 hi1 hy1 hy2 hy3 rfl (by decide) (.slice Ag gs.length cg) gs.length gs rfl HVX2.out.rg ⟨p1, 0, none⟩ [(.slice A6 LS.length c6)] rfl rfl (fun j u hu => by rw [Addr.add_mid, Nat.zero_add, HP1X2.out.cell]; simpa using hu) (fun u hu => by rw [List.mem_singleton.1 hu]; rfl) (by have := HGL.out; unfold maxLen; omega) (by have := HGL.out; omega) HVX2.out.size.1 (fun v8 w8 h2 h3 h4 => ?_)
          obtain ⟨A8, c8, rfl⟩ := row_slice h2
          have hv := HVX2.out.growG h3 h2 h4 (HSV.out _ HBX2.out) HL6.out HLL.out (fun a hl ha => ⟨(HA7.out a hl ha).1, by have h5 := (HA7.out a hl ha).2.1; have h6 := HBX2.out.size; omega, (HA7.out a hl ha).2.2⟩)
          have hp2 := HP2X2.out.grown h3 (bk_not_row HP2X2.out (by decide) HVX2.out.rg)
          have HVX3 := Lib.hid hv
          have HP2X3 := Lib.hid hp2
          refine hK _ _ (HSF.out _ HVX3.out.g) ?_
          clear hK K hv h2 h3 h4 HVX2 HBX2 HP1X2 hp2 HP2X2
          try simp only [Act.put, List.setIfInBounds_toArray, List.set_cons_zero, List.set_cons_succ]
          generalize w8 = X3 at HVX3 HP2X3 ⊢
          refine readyG (i := 15) rfl (by kernel_rfl) (by rfl) (fun K hK => ?_)
          refine wp_append_any (.tmp 67) (.tmp 69) 22 3 rfl (G + 1) i2 (.int .i64 0) 1 8 Tryz.underlying22 hi2 hw1 hw2 hw3 rfl (by decide) (.slice Ad LD.length cd) LD.length (LD.map (Value.int .i64)) rfl HVX3.out.rd ⟨p2, 0, none⟩ [.int .i64 DD] rfl rfl (fun j u hu => by rw [Addr.add_mid, Nat.zero_add, HP2X3.out.cell]; simpa using hu) (fun u hu => by rw [List.mem_singleton.1 hu]; rfl) (by have := HDL.out; unfold maxLen; omega) (by have := HDL.out; omega) HVX3.out.size.1 (fun v9 w9 h2 h3 h4 => ?_)
          obtain ⟨A9, c9, rfl⟩ := row_slice h2
          have hv := HVX3.out.growD h3 h2 h4
          have HVX4 := Lib.hid hv
          have hHeld := HSF.out _ HVX4.out.g
          refine hK _ _ hHeld ?_
          clear hK K hv h2 h3 h4 HVX3 HP2X3
          try simp only [Act.put, List.setIfInBounds_toArray, List.set_cons_zero, List.set_cons_succ]
          generalize w9 = X4 at HVX4 hHeld ⊢
          refine takeF (i := 16) (v := ?v16_13) rfl (by kernel_rfl) (by kernel_rfl) (by kernel_rfl) (by kernel_rfl) (fun _ _ _ h => nomatch h.1) (Or.inl ⟨by rfl, ?hy16_13⟩) (by assumption) ?_
          case hy16_13 => (intro w _; go_simp; try with_reducible rfl)
          try simp only [Act.put, List.setIfInBounds_toArray, List.set_cons_zero, List.set_cons_succ]
          refine takeF (i := 17) (v := ?v17_14) rfl (by kernel_rfl) (by kernel_rfl) (by kernel_rfl) (by kernel_rfl) (fun _ _ _ h => nomatch h.1) (Or.inl ⟨by rfl, ?hy17_14⟩) (by assumption) ?_
          case hy17_14 => (intro w _; go_simp; try with_reducible rfl)
          try simp only [Act.put, List.setIfInBounds_toArray, List.set_cons_zero, List.set_cons_succ]
          have r0 : X4.cell? ⟨G, 11, none⟩ = some (.slice Ag gs.length cg) := HVX4.out.g.cell 11
          have f0 : X4.frozen? ⟨G, 11, none⟩ = false := HVX4.out.g.free 11
          have HVy := Lib.hid (HVX4.out.put (i := 11) (u := .slice A8 (gs.length + 1) c8) (fg' := .slice A8 (gs.length + 1) c8) (fr' := .slice none 0 0) (fd' := .slice Ad LD.length cd) rfl)
          refine storeG (i := 18) rfl (by kernel_rfl) (by rfl) (by rfl) (fun K hK => ?_)
          go_simp
          refine hK _ _ ?_
          clear hK K r0 f0 hHeld HVX4
          try simp only [Act.put, List.setIfInBounds_toArray, List.set_cons_zero, List.set_cons_succ]
          generalize (X4.setCell ⟨G, 11, none⟩ (.slice A8 (gs.length + 1) c8)) = Y1 at HVy ⊢
          refine storeG (i := 19) rfl (by kernel_rfl) (by rfl) (by rfl) (fun K hK => ?_)
          go_simp
          refine hK _ _ ?_
          clear hK K
          try simp only [Act.put, List.setIfInBounds_toArray, List.set_cons_zero, List.set_cons_succ]
          refine storeG (i := 20) rfl (by kernel_rfl) (by rfl) (by rfl) (fun K hK => ?_)
          go_simp
          refine hK _ _ ?_
          clear hK K
          try simp only [Act.put, List.setIfInBounds_toArray, List.set_cons_zero, List.set_cons_succ]
          have r0 : Y1.cell? ⟨G, 13, none⟩ = some (.slice Ad LD.length cd) := HVy.out.g.cell 13
          have f0 : Y1.frozen? ⟨G, 13, none⟩ = false := HVy.out.g.free 13
          have HVz := Lib.hid (HVy.out.put (i := 13) (u := .slice A9 (LD.length + 1) c9) (fg' := .slice A8 (gs.length + 1) c8) (fr' := .slice none 0 0) (fd' := .slice A9 (LD.length + 1) c9) rfl)
          refine storeG (i := 21) rfl (by kernel_rfl) (by rfl) (by rfl) (fun K hK => ?_)
          go_simp
          refine hK _ _ ?_
          clear hK K r0 f0 HVy
          try simp only [Act.put, List.setIfInBounds_toArray, List.set_cons_zero, List.set_cons_succ]
          refine doneG (by kernel_rfl) ?_
          clear HSF HSV
          go_wp2
          go_roundw
          case rel => exact ⟨k + 1, _, _, _, by omega, by go_num, by rw [HGP.out, HDP.out]; exact HVz.out⟩
          case measure => simp [intOf]; omega
      · go_simp
        have hb := (Below.refl V.heap.size V).alloc (Nat.le_refl _) (.cells #[(.int .i64 DD)] 3)
        have hv := HVX0.out.below hb
        have hp : Bk (V.alloc (.cells #[(.int .i64 DD)] 3)) V.heap.size 3 #[(.int .i64 DD)] := Bk.new _ _ _
        have HVX1 := Lib.hid hv
        have HP2X1 := Lib.hid hp
        have HBX1 := Lib.hid (below_next HBX0.out hb)
        refine hK _ _ (HSF.out _ HVX1.out.g) ?_
        clear hK K hb hv hp HVX0 HBX0
        try simp only [Act.put, List.setIfInBounds_toArray, List.set_cons_zero, List.set_cons_succ]
        generalize (V.alloc (.cells #[(.int .i64 DD)] 3)) = X1 at HVX1 HP2X1 HBX1 ⊢
        generalize V.heap.size = p2 at HP2X1 ⊢
        refine readyG (i := 7) rfl (by kernel_rfl) (by rfl) (fun K hK => ?_)
        go_simp
        have hb := (Below.refl X1.heap.size X1).alloc (Nat.le_refl _) (.cells #[(.slice A6 LS.length c6)] 136)
        have hv := HVX1.out.below hb
        have hp : Bk (X1.alloc (.cells #[(.slice A6 LS.length c6)] 136)) X1.heap.size 136 #[(.slice A6 LS.length c6)] := Bk.new _ _ _
        have HVX2 := Lib.hid hv
        have HP1X2 := Lib.hid hp
        have HBX2 := Lib.hid (below_next HBX1.out hb)
        have HP2X2 := Lib.hid (HP2X1.out.below hb HP2X1.out.lt)
        refine hK _ _ (HSF.out _ HVX2.out.g) ?_
        clear hK K hb hv hp HVX1 HBX1 HP2X1
        try simp only [Act.put, List.setIfInBounds_toArray, List.set_cons_zero, List.set_cons_succ]
        generalize (X1.alloc (.cells #[(.slice A6 LS.length c6)] 136)) = X2 at HVX2 HP1X2 HBX2 HP2X2 ⊢
        generalize X1.heap.size = p1 at HP1X2 ⊢
        refine readyG (i := 8) rfl (by kernel_rfl) (by rfl) (fun K hK => ?_)
        refine wp_append_any (.tmp 60) (.tmp 62) 133 136 rfl (G + 1) i1 (.slice none 0 0) 1 24 Tryz.underlying133 hi1 hy1 hy2 hy3 rfl (by decide) (.slice Ag gs.length cg) gs.length gs rfl HVX2.out.rg ⟨p1, 0, none⟩ [(.slice A6 LS.length c6)] rfl rfl (fun j u hu => by rw [Addr.add_mid, Nat.zero_add, HP1X2.out.cell]; simpa using hu) (fun u hu => by rw [List.mem_singleton.1 hu]; rfl) (by have := HGL.out; unfold maxLen; omega) (by have := HGL.out; omega) HVX2.out.size.1 (fun v8 w8 h2 h3 h4 => ?_)
        obtain ⟨A8, c8, rfl⟩ := row_slice h2
        have hv := HVX2.out.growG h3 h2 h4 (HSV.out _ HBX2.out) HL6.out HLL.out (fun a hl ha => ⟨(HA7.out a hl ha).1, by have h5 := (HA7.out a hl ha).2.1; have h6 := HBX2.out.size; omega, (HA7.out a hl ha).2.2⟩)
        have hp2 := HP2X2.out.grown h3 (bk_not_row HP2X2.out (by decide) HVX2.out.rg)
        have HVX3 := Lib.hid hv
        have HP2X3 := Lib.hid hp2
        refine hK _ _ (HSF.out _ HVX3.out.g) ?_
        clear hK K hv h2 h3 h4 HVX2 HBX2 HP1X2 hp2 HP2X2
        try simp only [Act.put, List.setIfInBounds_toArray, List.set_cons_zero, List.set_cons_succ]
        generalize w8 = X3 at HVX3 HP2X3 ⊢
        refine readyG (i := 15) rfl (by kernel_rfl) (by rfl) (fun K hK => ?_)
        refine wp_append_any (.tmp 67) (.tmp 69) 22 3 rfl (G + 1) i2 (.int .i64 0) 1 8 Tryz.underlying22 hi2 hw1 hw2 hw3 rfl (by decide) (.slice Ad LD.length cd) LD.length (LD.map (Value.int .i64)) rfl HVX3.out.rd ⟨p2, 0, none⟩ [.int .i64 DD] rfl rfl (fun j u hu => by rw [Addr.add_mid, Nat.zero_add, HP2X3.out.cell]; simpa using hu) (fun u hu => by rw [List.mem_singleton.1 hu]; rfl) (by have := HDL.out; unfold maxLen; omega) (by have := HDL.out; omega) HVX3.out.size.1 (fun v9 w9 h2 h3 h4 => ?_)
        obtain ⟨A9, c9, rfl⟩ := row_slice h2
        have hv := HVX3.out.growD h3 h2 h4
        have HVX4 := Lib.hid hv
        have hHeld := HSF.out _ HVX4.out.g
        refine hK _ _ hHeld ?_
        clear hK K hv h2 h3 h4 HVX3 HP2X3
        try simp only [Act.put, List.setIfInBounds_toArray, List.set_cons_zero, List.set_cons_succ]
        generalize w9 = X4 at HVX4 hHeld ⊢
        refine takeF (i := 16) (v := ?v16_15) rfl (by kernel_rfl) (by kernel_rfl) (by kernel_rfl) (by kernel_rfl) (fun _ _ _ h => nomatch h.1) (Or.inl ⟨by rfl, ?hy16_15⟩) (by assumption) ?_
        case hy16_15 => (intro w _; go_simp; try with_reducible rfl)
        try simp only [Act.put, List.setIfInBounds_toArray, List.set_cons_zero, List.set_cons_succ]
        refine takeF (i := 17) (v := ?v17_16) rfl (by kernel_rfl) (by kernel_rfl) (by kernel_rfl) (by kernel_rfl) (fun _ _ _ h => nomatch h.1) (Or.inl ⟨by rfl, ?hy17_16⟩) (by assumption) ?_
        case hy17_16 => (intro w _; go_simp; try with_reducible rfl)
        try simp only [Act.put, List.setIfInBounds_toArray, List.set_cons_zero, List.set_cons_succ]
        have r0 : X4.cell? ⟨G, 11, none⟩ = some (.slice Ag gs.length cg) := HVX4.out.g.cell 11
        have f0 : X4.frozen? ⟨G, 11, none⟩ = false := HVX4.out.g.free 11
        have HVy := Lib.hid (HVX4.out.put (i := 11) (u := .slice A8 (gs.length + 1) c8) (fg' := .slice A8 (gs.length + 1) c8) (fr' := .slice none 0 0) (fd' := .slice Ad LD.length cd) rfl)
        refine storeG (i := 18) rfl (by kernel_rfl) (by rfl) (by rfl) (fun K hK => ?_)
        go_simp
        refine hK _ _ ?_
        clear hK K r0 f0 hHeld HVX4
        try simp only [Act.put, List.setIfInBounds_toArray, List.set_cons_zero, List.set_cons_succ]
        generalize (X4.setCell ⟨G, 11, none⟩ (.slice A8 (gs.length + 1) c8)) = Y1 at HVy ⊢
        refine storeG (i := 19) rfl (by kernel_rfl) (by rfl) (by rfl) (fun K hK => ?_)
        go_simp
        refine hK _ _ ?_
        clear hK K
        try simp only [Act.put, List.setIfInBounds_toArray, List.set_cons_zero, List.set_cons_succ]
        refine storeG (i := 20) rfl (by kernel_rfl) (by rfl) (by rfl) (fun K hK => ?_)
        go_simp
        refine hK _ _ ?_
        clear hK K
        try simp only [Act.put, List.setIfInBounds_toArray, List.set_cons_zero, List.set_cons_succ]
        have r0 : Y1.cell? ⟨G, 13, none⟩ = some (.slice Ad LD.length cd) := HVy.out.g.cell 13
        have f0 : Y1.frozen? ⟨G, 13, none⟩ = false := HVy.out.g.free 13
        have HVz := Lib.hid (HVy.out.put (i := 13) (u := .slice A9 (LD.length + 1) c9) (fg' := .slice A8 (gs.length + 1) c8) (fr' := .slice none 0 0) (fd' := .slice A9 (LD.length + 1) c9) rfl)
        refine storeG (i := 21) rfl (by kernel_rfl) (by rfl) (by rfl) (fun K hK => ?_)
        go_simp
        refine hK _ _ ?_
        clear hK K r0 f0 HVy
        try simp only [Act.put, List.setIfInBounds_toArray, List.set_cons_zero, List.set_cons_succ]
        refine doneG (by kernel_rfl) ?_
        clear HSF HSV
        go_wp2
        go_roundw
        case rel => exact ⟨k + 1, _, _, _, by omega, by go_num, by rw [HGP.out, HDP.out]; exact HVz.out⟩
        case measure => simp [intOf]; omega
    · have hkk : k = t.p.c.length := by omega
      subst hkk
      have hv0 := HV.out
      rw [List.take_of_length_le (by unfold gapsOf; simp), List.take_of_length_le (by simp)] at hv0
      have HV0 := Lib.hid hv0
      have a0 : wr.cell? ⟨n0, 0, none⟩ = some (.slice Aq t.p.q.length cq) := HV0.out.tb.cell 0
      clear hv0 HV
      go_wp2_with fail
      clear a0
      go_loopw [13, 14, 15, 80] (fun _ _ _ i wr => ∃ (n : Nat) (vr : Value) (rs : List Value), n ≤ t.p.q.length ∧ i = .int .i64 n ∧ BdV n0 G w Aq cq Ac cc B cb H ch t q vg vr vd vg vr vd gs rs (gapsOf t) ((roomsOfT t q.size).take n) (t.p.c.map fun c => dur c q.size) wr) (fun _ _ _ i _ => t.p.q.length - (intOf i).toNat)
      case atStart => exact ⟨0, _, [], Nat.zero_le _, rfl, HV0.out⟩
      case round =>
        obtain ⟨n, vr, rs, hn, rfl, hv⟩ := hrel
        have HV := Lib.hid hv
        clear hv HV0
        by_cases hlt : n < t.p.q.length
        · obtain ⟨qn, hqn⟩ : ∃ qn, t.p.q[n]? = some qn := ⟨_, List.getElem?_eq_getElem hlt⟩
          have HRP : Hid ((roomsOfT t q.size).take (n + 1) = (roomsOfT t q.size).take n ++ [roomsL qn q.size (levelsL t.h n)]) := take_snoc (by unfold roomsOfT; rw [List.getElem?_map, List.getElem?_zipIdx, hqn]; simp)
          have HLL : Hid ((roomsL qn q.size (levelsL t.h n)).length ≤ 100000) := by
            have h1 := rooms_few (hdFine (p := t.p) HOK.out.2.2.2.1) (n : Int) qn q.size
            have h2 : (t.h.filter fun h : Hld => decide (h.node = (n : Int))).length ≤ t.h.length := List.length_filter_le _ _
            have h3 := HOK.out.2.2.1
            show _ ≤ _
            omega
          have HFR := Lib.hid (fun w' hb => sfree_yes Aq cq Ac cc t.p H ch t.h n q.size qn w' (HT.out.below (w' := w') hb).p (HT.out.below (w' := w') hb).h ⟨HOK.out.1, HOK.out.2.2⟩ hqn HQ.out.2.2.2.2.1)
          have a0 : wr.cell? ⟨n0, 0, none⟩ = some (.slice Aq t.p.q.length cq) := HV.out.tb.cell 0
          have a1 : wr.cell? ⟨n0, 1, none⟩ = some (.slice Ac t.p.c.length cc) := HV.out.tb.cell 1
          have a3 : wr.cell? ⟨n0, 3, none⟩ = some (.slice H t.h.length ch) := HV.out.tb.cell 3
          have b2 : wr.cell? ⟨n0 + 1, 2, none⟩ = some (.int .i64 q.size) := HV.out.qb.cell 2
          have hn64 : (n : Int) ≤ 16 := by have := HOK.out.1.1.2.1; omega
          have hn0' : (0 : Int) ≤ (n : Int) := by omega
          have hn1 : (n : Int) < (t.p.q.length : Int) := by omega
          have HLT := Lib.hid (fun r e => (row_lt HV.out.rg r e).2)
          have HLT2 := Lib.hid (fun r e => (row_lt HV.out.rr r e).2)
          have HLT3 := Lib.hid (fun r e => (row_lt HV.out.rd r e).2)
          have HZ : Hid (G + 1 ≤ wr.heap.size ∧ n0 + 2 ≤ G) := HV.out.size
          clear hqn
          go_wp2_with fail
          clear a0 a1 a3 b2
          refine (HFR.out wr (by rw [hn0]; exact HV.out.be)).mono ?_
          rintro e w6 ⟨A6, c6, rfl, hs6, hc6, hba6, hb6⟩
          have HV6 := Lib.hid (HV.out.below hb6)
          have HS6 := Lib.hid hs6
          have HL6 := Lib.hid hc6
          generalize roomsL qn q.size (levelsL t.h n) = LS at HRP HS6 HL6 HLL hs6 ⊢
          have HA6 : Hid (∀ a, LS ≠ [] → A6 = some a → G + 1 ≤ a.block ∧ a.block < w6.heap.size ∧ ∀ v ∈ [vg, vr, vd], v.ownBlock ≠ some a.block) := fun a hl ha => by
            have h1 := hba6 a ha
            have h3 := HZ.out
            refine ⟨by omega, ?_, fun v hv e => ?_⟩
            · cases hL : LS with
              | nil => exact absurd hL hl
              | cons s l =>
                obtain ⟨b, off, e, hr⟩ := HS6.out 0 s (by rw [hL]; rfl)
                rw [ha] at e
                cases e
                exact World.block_lt_of_cell? _ _ (hr 0 _ rfl)
            · simp only [List.mem_cons, List.not_mem_nil, or_false] at hv
              rcases hv with rfl | rfl | rfl
              · have := HLT.out _ e; omega
              · have := HLT2.out _ e; omega
              · have := HLT3.out _ e; omega
          clear hb6 hs6 hc6 hba6 HFR HV
          obtain ⟨Ar, cr, rfl⟩ := row_slice HV6.out.rr
          obtain ⟨i1, hi1, hy1, hy2, hy3⟩ := info_parts infosl
          have HRL : Hid (rs.length ≤ 64) := by
            have h1 := HV6.out.ir.1
            have h2 := HOK.out.1.1.2.1
            show _ ≤ _
            rw [h1, List.length_take]
            omega
          generalize (roomsOfT t q.size).take n = LR at HV6 HRP ⊢
          have HB7 : Hid (Below w6.heap.size w6 (w6.alloc (.cells #[.slice A6 LS.length c6] 136))) := (Below.refl _ _).alloc (Nat.le_refl _) _
          have HV7 := Lib.hid (HV6.out.below HB7.out)
          have r0 : w6.cell? ⟨G, 12, none⟩ = some (.slice Ar rs.length cr) := HV6.out.g.cell 12
          go_wp2_with (at_builtin; refine wpList_append_own_at _ rfl _ _ 133 rfl (G + 1) 136 i1 (.slice none 0 0) 1 24 Tryz.underlying133 hi1 hy1 hy2 hy3 rfl (by decide) _ _ _ rfl HV7.out.rr ⟨_, 0, none⟩ 1 1 [.slice A6 LS.length c6] rfl rfl ?d1 ?d2 ?d3 ?d4 ?d5 ?_)
          case d1 => exact fun j u hu => by rw [Addr.add_mid, Nat.zero_add]; exact new_at _ [.slice A6 LS.length c6] _ (by simp) j u hu
          case d2 => exact fun u hu => by rw [List.mem_singleton.1 hu]; rfl
          case d3 => have := HRL.out; unfold maxLen; omega
          case d4 => have := HRL.out; omega
          case d5 => exact HV7.out.size.1
          intro v8 w8 h2 h3 _ h4
          obtain ⟨A8, c8, rfl⟩ := row_slice h2
          have hv := HV7.out.growR h3 h2 (h4.imp id fun e => e.trans (by simp)) (HS6.out.below HB7.out) HL6.out HLL.out (fun a hl ha => ⟨(HA6.out a hl ha).1, by have h5 := (HA6.out a hl ha).2.1; have h6 := HB7.out.size; omega, (HA6.out a hl ha).2.2⟩)
          have HV8 := Lib.hid hv
          have r1 : w8.cell? ⟨G, 12, none⟩ = some (.slice Ar rs.length cr) := HV8.out.g.cell 12
          have f1 : w8.frozen? ⟨G, 12, none⟩ = false := HV8.out.g.free 12
          have HV9 := Lib.hid (HV8.out.put (i := 12) (u := .slice A8 (rs.length + 1) c8) (fg' := vg) (fr' := .slice A8 (rs.length + 1) c8) (fd' := vd) rfl)
          clear h2 h3 h4 hv r0 HV6 HV7 HB7
          go_wp2
          go_roundw
          case rel => exact ⟨n + 1, _, _, by omega, by go_num, by rw [HRP.out]; exact HV9.out⟩
          case measure => simp [intOf]; omega
        · have hnn : n = t.p.q.length := by omega
          subst hnn
          have hv0 := HV.out
          rw [List.take_of_length_le (by unfold roomsOfT; simp)] at hv0
          have HF := Lib.hid (hv0.gat (HT.out.below (w' := wr) (by rw [hn0]; exact hv0.be)) HOK.out HQ.out)
          have HZ : Hid (G + 1 ≤ wr.heap.size ∧ n0 + 2 ≤ G) := HV.out.size
          have HBE := Lib.hid hv0.be
          clear hv0 HV
          go_wp2
          go_ret2
          exact ⟨G, rfl, HF.out, by have := HZ.out; omega, by rw [hn0]; exact HBE.out⟩
end Go.Proofs.YtebkgbmijocdjaaGreat.Tp
