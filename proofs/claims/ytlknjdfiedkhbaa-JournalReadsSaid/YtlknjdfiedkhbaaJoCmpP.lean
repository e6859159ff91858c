/- Compaction of a journal as plain data: what remains is a list of records with their places; the maps of the program, the lists of the reference and what each keeps are read off it. No program is in sight here. -/
import Derived.Test.YtlknjdfiedkhbaaJoMaps
import Derived.Test.YtlknjdfiedkhbaaJoDec
namespace Go.Proofs.Ytlknjdfiedkhbaa
open Go Go.RowKit
open Jo (RId Itm Rec wi vId ck ckI zId zIt)

abbrev KE := Nat × Rec
def isS (x : RId) (e : KE) : Bool := decide (e.2.kind = 1) && decide (e.2.item.id = x)
def isD (x : RId) (e : KE) : Bool := decide (e.2.kind = 3) && decide (e.2.item.id = x)
theorem isS_iff {x : RId} {e : KE} : isS x e = true ↔ e.2.kind = 1 ∧ e.2.item.id = x := by simp [isS]
theorem isD_iff {x : RId} {e : KE} : isD x e = true ↔ e.2.kind = 3 ∧ e.2.item.id = x := by simp [isD]
def tickE (x : RId) (t : Int) (e : KE) : KE := if isS x e = true then (e.1, tickC e.2 t) else e
theorem tickE_1 (x : RId) (t : Int) (e : KE) : (tickE x t e).1 = e.1 := by unfold tickE; split <;> rfl
theorem tickE_k (x : RId) (t : Int) (e : KE) : (tickE x t e).2.kind = e.2.kind ∧ (tickE x t e).2.item.id = e.2.item.id := by unfold tickE; split <;> exact ⟨rfl, rfl⟩
theorem tickE_S (x y : RId) (t : Int) (e : KE) : isS y (tickE x t e) = isS y e := by have := tickE_k x t e; unfold isS; rw [this.1, this.2]
theorem tickE_D (x y : RId) (t : Int) (e : KE) : isD y (tickE x t e) = isD y e := by have := tickE_k x t e; unfold isD; rw [this.1, this.2]
/-- what one record does to what remains -/
def stK (i : Nat) (r : Rec) (K : List KE) : List KE :=
  if r.kind = 1 then (if K.any (isS r.item.id) = true then K else K ++ [(i, r)])
  else if r.kind = 3 then (if K.any (isD r.item.id) = true then K else K ++ [(i, r)])
  else if r.kind = 2 then K.filter (fun e => !isS r.id e)
  else if r.kind = 4 then K.map (tickE r.id r.tick)
  else K
/-- what remains of the first n records -/
def runK (l : List Rec) : Nat → List KE
  | 0 => []
  | k + 1 => match l[k]? with
    | some r => stK k r (runK l k)
    | none => runK l k
theorem runK_step (l : List Rec) (k : Nat) (r : Rec) (h : l[k]? = some r) : runK l (k + 1) = stK k r (runK l k) := by simp [runK, h]

/-- what holds of what remains -/
structure InvK (l : List Rec) (n : Nat) (K : List KE) : Prop where
  up : K.Pairwise fun a b => a.1 < b.1
  lt : ∀ e ∈ K, e.1 < n
  src : ∀ e ∈ K, ∃ r, l[e.1]? = some r ∧ e.2 = tickC r e.2.item.tick ∧ (r.kind = 1 ∨ r.kind = 3)
  one : K.Pairwise fun a b => ¬ (a.2.kind = b.2.kind ∧ a.2.item.id = b.2.item.id)
theorem tickC_self (r : Rec) : tickC r r.item.tick = r := rfl
theorem tickC_twice (r : Rec) (a b : Int) : tickC (tickC r a) b = tickC r b := rfl
theorem InvK.snoc {l : List Rec} {n : Nat} {K : List KE} (h : InvK l n K) {r : Rec} (hr : l[n]? = some r) (hk : r.kind = 1 ∨ r.kind = 3) (hn : ∀ e ∈ K, ¬ (e.2.kind = r.kind ∧ e.2.item.id = r.item.id)) : InvK l (n + 1) (K ++ [(n, r)]) where
  up := by
    rw [List.pairwise_append]
    exact ⟨h.up, by simp, fun a ha b hb => by simp only [List.mem_singleton] at hb; subst hb; exact h.lt a ha⟩
  lt := fun e he => by
    rcases List.mem_append.1 he with he | he
    · exact Nat.lt_succ_of_lt (h.lt e he)
    · simp only [List.mem_singleton] at he; subst he; exact Nat.lt_succ_self _
  src := fun e he => by
    rcases List.mem_append.1 he with he | he
    · exact h.src e he
    · simp only [List.mem_singleton] at he; subst he; exact ⟨r, hr, rfl, hk⟩
  one := by
    rw [List.pairwise_append]
    exact ⟨h.one, by simp, fun a ha b hb => by simp only [List.mem_singleton] at hb; subst hb; exact hn a ha⟩
theorem InvK.more {l : List Rec} {n : Nat} {K : List KE} (h : InvK l n K) : InvK l (n + 1) K := ⟨h.up, fun e he => Nat.lt_succ_of_lt (h.lt e he), h.src, h.one⟩
theorem InvK.step {l : List Rec} {n : Nat} {K : List KE} (h : InvK l n K) {r : Rec} (hr : l[n]? = some r) : InvK l (n + 1) (stK n r K) := by
  unfold stK
  split
  · rename_i h1
    split
    · exact h.more
    · rename_i h2
      refine h.snoc hr (.inl h1) (fun e he c => h2 ?_)
      rw [List.any_eq_true]
      exact ⟨e, he, isS_iff.2 ⟨c.1.trans h1, c.2⟩⟩
  · split
    · rename_i h1
      split
      · exact h.more
      · rename_i h2
        refine h.snoc hr (.inr h1) (fun e he c => h2 ?_)
        rw [List.any_eq_true]
        exact ⟨e, he, isD_iff.2 ⟨c.1.trans h1, c.2⟩⟩
    · split
      · have hs := List.filter_sublist (p := fun e => !isS r.id e) (l := K)
        exact ⟨h.up.sublist hs, fun e he => Nat.lt_succ_of_lt (h.lt e ((List.mem_filter.1 he).1)), fun e he => h.src e ((List.mem_filter.1 he).1), h.one.sublist hs⟩
      · split
        · refine ⟨?_, ?_, ?_, ?_⟩
          · rw [List.pairwise_map]
            exact h.up.imp fun {a b} hab => by rw [tickE_1, tickE_1]; exact hab
          · intro e he
            obtain ⟨e', he', rfl⟩ := List.mem_map.1 he
            rw [tickE_1]; exact Nat.lt_succ_of_lt (h.lt e' he')
          · intro e he
            obtain ⟨e', he', rfl⟩ := List.mem_map.1 he
            obtain ⟨q, h1, h2, h3⟩ := h.src e' he'
            refine ⟨q, by rw [tickE_1]; exact h1, ?_, h3⟩
            unfold tickE
            split
            · simp only; rw [h2]; rfl
            · exact h2
          · rw [List.pairwise_map]
            refine h.one.imp fun {a b} hab => ?_
            rw [(tickE_k r.id r.tick a).1, (tickE_k r.id r.tick b).1, (tickE_k r.id r.tick a).2, (tickE_k r.id r.tick b).2]
            exact hab
        · exact h.more
theorem runK_inv (l : List Rec) : ∀ n, InvK l n (runK l n)
  | 0 => ⟨List.Pairwise.nil, fun e he => by simp [runK] at he, fun e he => by simp [runK] at he, List.Pairwise.nil⟩
  | n + 1 => by
    cases h : l[n]? with
    | none => simp only [runK, h]; exact (runK_inv l n).more
    | some r => rw [runK_step l n r h]; exact (runK_inv l n).step h
/-- an entry is known by its kind and id -/
theorem InvK.same {l : List Rec} {n : Nat} {K : List KE} (h : InvK l n K) {a b : KE} (ha : a ∈ K) (hb : b ∈ K) (hk : a.2.kind = b.2.kind) (hi : a.2.item.id = b.2.item.id) : a = b := by
  have hall : ∀ x ∈ K, ∀ y ∈ K, x = y ∨ ¬ (x.2.kind = y.2.kind ∧ x.2.item.id = y.2.item.id) := by
    have := h.one
    clear ha hb h
    induction K with
    | nil => intro x hx; simp at hx
    | cons e K ih =>
      rw [List.pairwise_cons] at this
      intro x hx y hy
      rcases List.mem_cons.1 hx with rfl | hx'
      · rcases List.mem_cons.1 hy with rfl | hy'
        · exact .inl rfl
        · exact .inr (this.1 y hy')
      · rcases List.mem_cons.1 hy with rfl | hy'
        · exact .inr fun c => this.1 x hx' ⟨c.1.symm, c.2.symm⟩
        · exact ih this.2 x hx' y hy'
  rcases hall a ha b hb with h1 | h1
  · exact h1
  · exact absurd ⟨hk, hi⟩ h1
theorem InvK.place {l : List Rec} {n : Nat} {K : List KE} (h : InvK l n K) {a b : KE} (ha : a ∈ K) (hb : b ∈ K) (hk : a.1 = b.1) : a = b := by
  obtain ⟨r, h1, h2, _⟩ := h.src a ha
  obtain ⟨q, g1, g2, _⟩ := h.src b hb
  rw [hk, g1] at h1
  obtain rfl := Option.some.inj h1
  exact h.same ha hb (by rw [h2, g2]; rfl) (by rw [h2, g2]; rfl)

/-! The program's maps. -/
def mapS (K : List KE) (x : RId) : Option (Int × Int) := (K.find? (isS x)).map fun e => ((e.1 : Int), e.2.item.tick)
def mapD (K : List KE) (x : RId) : Option (Int × Int) := (K.find? (isD x)).map fun e => ((e.1 : Int), e.2.item.tick)
theorem find_none {K : List KE} {p : KE → Bool} (h : ¬ K.any p = true) : K.find? p = none := by
  rw [List.find?_eq_none]
  intro e he c
  exact h (List.any_eq_true.2 ⟨e, he, c⟩)
theorem find_filter (K : List KE) (p q : KE → Bool) : (K.filter p).find? q = K.find? (fun a => p a && q a) := by
  induction K with
  | nil => rfl
  | cons e K ih =>
    cases h : p e with
    | true => rw [List.filter_cons_of_pos h, List.find?_cons, List.find?_cons, h, Bool.true_and, ih]
    | false => rw [List.filter_cons_of_neg (by simp [h]), List.find?_cons, h, Bool.false_and, ih]
theorem find_any {K : List KE} {p : KE → Bool} : (K.find? p).isSome = K.any p := by
  rw [Bool.eq_iff_iff, List.any_eq_true]
  simp
theorem map_step (l : List Rec) : ∀ n, (∀ x, (runC l n).1 x = mapS (runK l n) x) ∧ (∀ x, (runC l n).2 x = mapD (runK l n) x)
  | 0 => ⟨fun _ => rfl, fun _ => rfl⟩
  | n + 1 => by
    obtain ⟨i1, i2⟩ := map_step l n
    cases h : l[n]? with
    | none => simp only [runK, runC, h]; exact ⟨i1, i2⟩
    | some r =>
      rw [runK_step l n r h, runC_step l n r h]
      have s1 : ((runC l n).1 r.item.id).isSome = (runK l n).any (isS r.item.id) := by rw [i1, mapS, Option.isSome_map, find_any]
      have s2 : ((runC l n).2 r.item.id).isSome = (runK l n).any (isD r.item.id) := by rw [i2, mapD, Option.isSome_map, find_any]
      unfold stC stK
      split
      · rename_i h1
        rw [s1]
        split
        · exact ⟨i1, i2⟩
        · rename_i h2
          refine ⟨fun x => ?_, fun x => ?_⟩
          · simp only [putF, mapS, List.find?_append]
            by_cases hx : x = r.item.id
            · subst hx
              have hp : isS r.item.id (n, r) = true := isS_iff.2 ⟨h1, rfl⟩
              rw [find_none h2, if_pos rfl]
              simp [hp]
            · have hp : isS x (n, r) = false := by
                cases c : isS x (n, r) with
                | false => rfl
                | true => exact absurd (isS_iff.1 c).2.symm hx
              rw [if_neg hx, i1, mapS]
              simp [hp]
          · have hp : isD x (n, r) = false := by
              cases c : isD x (n, r) with
              | false => rfl
              | true => have := (isD_iff.1 c).1; simp only at this; omega
            simp only [mapD, List.find?_append]
            rw [i2, mapD]
            simp [hp]
      · rename_i h1
        split
        · rename_i h3
          rw [s2]
          split
          · exact ⟨i1, i2⟩
          · rename_i h2
            refine ⟨fun x => ?_, fun x => ?_⟩
            · have hp : isS x (n, r) = false := by
                cases c : isS x (n, r) with
                | false => rfl
                | true => exact absurd (isS_iff.1 c).1 h1
              simp only [mapS, List.find?_append]
              rw [i1, mapS]
              simp [hp]
            · simp only [putF, mapD, List.find?_append]
              by_cases hx : x = r.item.id
              · subst hx
                have hp : isD r.item.id (n, r) = true := isD_iff.2 ⟨h3, rfl⟩
                rw [find_none h2, if_pos rfl]
                simp [hp]
              · have hp : isD x (n, r) = false := by
                  cases c : isD x (n, r) with
                  | false => rfl
                  | true => exact absurd (isD_iff.1 c).2.symm hx
                rw [if_neg hx, i2, mapD]
                simp [hp]
        · split
          · refine ⟨fun x => ?_, fun x => ?_⟩
            · simp only [delF, mapS, find_filter]
              by_cases hx : x = r.id
              · subst hx
                rw [if_pos rfl]
                have : (runK l n).find? (fun a => !isS r.id a && isS r.id a) = none := by rw [List.find?_eq_none]; intro e _; cases isS r.id e <;> simp
                rw [this]; rfl
              · rw [if_neg hx, i1, mapS]
                have : (fun a : KE => !isS r.id a && isS x a) = isS x := by
                  funext e
                  cases c : isS x e with
                  | false => simp
                  | true =>
                    cases d : isS r.id e with
                    | false => rfl
                    | true => exact absurd ((isS_iff.1 c).2.symm.trans (isS_iff.1 d).2) hx
                simp only [this]
            · simp only [mapD, find_filter]
              rw [i2, mapD]
              have : (fun a : KE => !isS r.id a && isD x a) = isD x := by
                funext e
                cases c : isD x e with
                | false => simp
                | true =>
                  cases d : isS r.id e with
                  | false => rfl
                  | true => have a1 := (isD_iff.1 c).1; have a2 := (isS_iff.1 d).1; omega
              simp only [this]
          · split
            · have hS : ∀ x, ((runK l n).map (tickE r.id r.tick)).find? (isS x) = ((runK l n).find? (isS x)).map (tickE r.id r.tick) := fun x => by
                rw [List.find?_map]
                have : (isS x ∘ tickE r.id r.tick) = isS x := by funext e; exact tickE_S _ _ _ _
                rw [this]
              have hD : ∀ x, ((runK l n).map (tickE r.id r.tick)).find? (isD x) = ((runK l n).find? (isD x)).map (tickE r.id r.tick) := fun x => by
                rw [List.find?_map]
                have : (isD x ∘ tickE r.id r.tick) = isD x := by funext e; exact tickE_D _ _ _ _
                rw [this]
              have hother : ∀ x, mapD ((runK l n).map (tickE r.id r.tick)) x = mapD (runK l n) x := fun x => by
                unfold mapD
                rw [hD]
                cases c : (runK l n).find? (isD x) with
                | none => rfl
                | some e =>
                  have he := List.find?_some c
                  have : tickE r.id r.tick e = e := by
                    unfold tickE
                    rw [if_neg]
                    intro d
                    have a1 := (isD_iff.1 he).1; have a2 := (isS_iff.1 d).1; omega
                  simp only [Option.map_some, this]
              have hneq : ∀ x, x ≠ r.id → mapS ((runK l n).map (tickE r.id r.tick)) x = mapS (runK l n) x := fun x hx => by
                unfold mapS
                rw [hS]
                cases c : (runK l n).find? (isS x) with
                | none => rfl
                | some e =>
                  have he := List.find?_some c
                  have : tickE r.id r.tick e = e := by
                    unfold tickE
                    rw [if_neg]
                    intro d
                    exact hx ((isS_iff.1 he).2.symm.trans (isS_iff.1 d).2)
                  simp only [Option.map_some, this]
              have heq : mapS ((runK l n).map (tickE r.id r.tick)) r.id = (mapS (runK l n) r.id).map fun v => (v.1, r.tick) := by
                unfold mapS
                rw [hS]
                cases c : (runK l n).find? (isS r.id) with
                | none => rfl
                | some e =>
                  have he := List.find?_some c
                  have : tickE r.id r.tick e = (e.1, tickC e.2 r.tick) := by unfold tickE; rw [if_pos he]
                  simp only [Option.map_some, this]
                  rfl
              split
              · rename_i h5
                refine ⟨fun x => ?_, fun x => by rw [hother]; exact i2 x⟩
                simp only [putF]
                by_cases hx : x = r.id
                · subst hx
                  rw [if_pos rfl, heq]
                  rw [i1] at h5 ⊢
                  cases c : mapS (runK l n) r.id with
                  | none => rw [c] at h5; simp at h5
                  | some v => rfl
                · rw [if_neg hx, hneq x hx]; exact i1 x
              · rename_i h5
                refine ⟨fun x => ?_, fun x => by rw [hother]; exact i2 x⟩
                by_cases hx : x = r.id
                · subst hx
                  rw [heq]
                  rw [i1] at h5 ⊢
                  cases c : mapS (runK l n) r.id with
                  | none => rfl
                  | some v => rw [c] at h5; simp at h5
                · rw [hneq x hx]; exact i1 x
            · exact ⟨i1, i2⟩
end Go.Proofs.Ytlknjdfiedkhbaa
