/- What remains of a journal, as the program, the reference and Effect tell it: plain data. No program is in sight here. -/
import Derived.Test.YtlknjdfiedkhbaaJoCmpP
namespace Go.Proofs.Ytlknjdfiedkhbaa
open Go Go.RowKit
open Jo (RId Itm Rec wi vId ck ckI zId zIt)

theorem find_mem {K : List KE} {p : KE → Bool} {e : KE} (h : K.find? p = some e) : e ∈ K ∧ p e = true := ⟨List.mem_of_find?_eq_some h, List.find?_some h⟩
theorem filter_one {l : List Rec} {n : Nat} {K : List KE} (h : InvK l n K) {e : KE} (he : e ∈ K) : K.filter (fun x => decide (x.1 = e.1)) = [e] := by
  have h1 : ∀ {L : List KE}, L.Pairwise (fun a b => a.1 < b.1) → e ∈ L → L.filter (fun x => decide (x.1 = e.1)) = [e] := fun {L} => by
    induction L with
    | nil => intro _ h; simp at h
    | cons x L ih =>
      intro hp hm
      rw [List.pairwise_cons] at hp
      rcases List.mem_cons.1 hm with rfl | hm
      · have : L.filter (fun x => decide (x.1 = e.1)) = [] := by
          rw [List.filter_eq_nil_iff]
          intro y hy
          have := hp.1 y hy
          simp; omega
        rw [List.filter_cons_of_pos (by simp), this]
      · have := hp.1 e hm
        rw [List.filter_cons_of_neg (by simp; omega), ih hp.2 hm]
  exact h1 h.up he
theorem filter_zero {K : List KE} {k : Nat} (h : ∀ e ∈ K, e.1 ≠ k) : K.filter (fun x => decide (x.1 = k)) = [] := by
  rw [List.filter_eq_nil_iff]
  intro e he
  simpa using h e he
/-- the record that the program keeps at place k -/
theorem pick_at {l : List Rec} {n k : Nat} {r : Rec} (hr : l[k]? = some r) : pickC k r (runC l n) = ((runK l n).filter fun x => decide (x.1 = k)).map (·.2) := by
  have hi := runK_inv l n
  obtain ⟨m1, m2⟩ := map_step l n
  have key : ∀ p : KE → Bool, atC r (runC l n) = ((runK l n).find? p).map (fun e => ((e.1 : Int), e.2.item.tick)) →
      (∀ e ∈ runK l n, p e = true → e.2.item.id = r.item.id) → (∀ e ∈ runK l n, e.1 = k → p e = true) → (∀ e ∈ runK l n, p e = true → ∀ e' ∈ runK l n, e'.1 = k → e' = e) →
      pickC k r (runC l n) = ((runK l n).filter fun x => decide (x.1 = k)).map (·.2) := fun p h1 _ h3 h4 => by
    unfold pickC
    rw [h1]
    cases c : (runK l n).find? p with
    | none =>
      have : ∀ e ∈ runK l n, e.1 ≠ k := fun e he hk => by
        have := List.find?_eq_none.1 c e he
        exact this (h3 e he hk)
      rw [filter_zero this]
      simp
    | some e =>
      obtain ⟨e1, e2⟩ := find_mem c
      by_cases hk : e.1 = k
      · obtain ⟨q, q1, q2, _⟩ := hi.src e e1
        rw [hk, hr] at q1
        obtain rfl := Option.some.inj q1
        have hf := filter_one hi e1
        rw [hk] at hf
        rw [hf]
        simp only [Option.map_some, Option.isSome_some, Option.getD_some, true_and, List.map_cons, List.map_nil]
        rw [if_pos (by rw [hk]), ← q2]
      · have : ∀ e' ∈ runK l n, e'.1 ≠ k := fun e' he' hk' => by
          have := h4 e e1 e2 e' he' hk'
          rw [this] at hk'
          exact hk hk'
        rw [filter_zero this]
        simp only [Option.map_some, Option.isSome_some, Option.getD_some, true_and, List.map_nil]
        rw [if_neg (by omega)]
  have hsrc : ∀ e ∈ runK l n, e.1 = k → e.2.kind = r.kind ∧ e.2.item.id = r.item.id ∧ (r.kind = 1 ∨ r.kind = 3) := fun e he hk => by
    obtain ⟨q, q1, q2, q3⟩ := hi.src e he
    rw [hk, hr] at q1
    obtain rfl := Option.some.inj q1
    exact ⟨by rw [q2]; rfl, by rw [q2]; rfl, q3⟩
  by_cases h3 : r.kind = 3
  · refine key (isD r.item.id) (by unfold atC; rw [if_pos h3, m2]; rfl) (fun e _ h => (isD_iff.1 h).2) (fun e he hk => ?_) (fun e he hp e' he' hk => ?_)
    · obtain ⟨a, b, _⟩ := hsrc e he hk
      exact isD_iff.2 ⟨a.trans h3, b⟩
    · obtain ⟨a, b, _⟩ := hsrc e' he' hk
      have := isD_iff.1 hp
      exact hi.same he' he (by rw [a, h3, this.1]) (by rw [b, this.2])
  · by_cases h1 : r.kind = 1
    · refine key (isS r.item.id) (by unfold atC; rw [if_neg h3, m1]; rfl) (fun e _ h => (isS_iff.1 h).2) (fun e he hk => ?_) (fun e he hp e' he' hk => ?_)
      · obtain ⟨a, b, _⟩ := hsrc e he hk
        exact isS_iff.2 ⟨a.trans h1, b⟩
      · obtain ⟨a, b, _⟩ := hsrc e' he' hk
        have := isS_iff.1 hp
        exact hi.same he' he (by rw [a, h1, this.1]) (by rw [b, this.2])
    · have hno : ∀ e ∈ runK l n, e.1 ≠ k := fun e he hk => by
        obtain ⟨_, _, c⟩ := hsrc e he hk
        exact c.elim h1 h3
      rw [filter_zero hno]
      unfold pickC atC
      rw [if_neg h3, m1, mapS]
      cases c : (runK l n).find? (isS r.item.id) with
      | none => simp
      | some e =>
        have := hno e (find_mem c).1
        simp only [Option.map_some, Option.isSome_some, Option.getD_some, true_and, List.map_nil]
        rw [if_neg (by omega)]
theorem split_at : ∀ {K : List KE} (k : Nat), K.Pairwise (fun a b => a.1 < b.1) → K.filter (fun x => decide (x.1 < k + 1)) = K.filter (fun x => decide (x.1 < k)) ++ K.filter (fun x => decide (x.1 = k))
  | [], _, _ => rfl
  | e :: K, k, h => by
    rw [List.pairwise_cons] at h
    have ih := split_at k h.2
    by_cases h1 : e.1 < k
    · rw [List.filter_cons_of_pos (by simp; omega), List.filter_cons_of_pos (by simpa using h1), List.filter_cons_of_neg (by simp; omega), ih]
      rfl
    · have z1 : K.filter (fun x => decide (x.1 < k)) = [] := by
        rw [List.filter_eq_nil_iff]
        intro x hx
        have := h.1 x hx
        simp; omega
      by_cases h2 : e.1 = k
      · have z2 : K.filter (fun x => decide (x.1 = k)) = [] := by
          rw [List.filter_eq_nil_iff]
          intro x hx
          have := h.1 x hx
          simp; omega
        rw [z1, z2, List.append_nil] at ih
        rw [List.filter_cons_of_pos (by simp; omega), List.filter_cons_of_neg (by simpa using h1), List.filter_cons_of_pos (by simpa using h2), ih, z1, z2]
        rfl
      · rw [List.filter_cons_of_neg (by simp; omega), List.filter_cons_of_neg (by simpa using h1), List.filter_cons_of_neg (by simpa using h2), ih]
theorem outC_runK (l : List Rec) (n : Nat) : ∀ k, k ≤ l.length → outC l (runC l n) k = ((runK l n).filter fun x => decide (x.1 < k)).map (·.2)
  | 0, _ => by
    have : (runK l n).filter (fun x => decide (x.1 < 0)) = [] := by rw [List.filter_eq_nil_iff]; intro e _; simp
    rw [this]; rfl
  | k + 1, hk => by
    obtain ⟨r, hr⟩ : ∃ r, l[k]? = some r := ⟨_, List.getElem?_eq_getElem (by omega)⟩
    rw [outC_step l _ k r hr, outC_runK l n k (by omega), pick_at hr, ← List.map_append, ← split_at k (runK_inv l n).up]
/-- what remains, as the program tells it -/
theorem outC_all (l : List Rec) : outC l (runC l l.length) l.length = (runK l l.length).map (·.2) := by
  rw [outC_runK l l.length l.length (Nat.le_refl _)]
  have : (runK l l.length).filter (fun x => decide (x.1 < l.length)) = runK l l.length := by
    rw [List.filter_eq_self]
    intro e he
    simpa using (runK_inv l l.length).lt e he
  rw [this]

/-! The reference's lists. -/
def fidx (L : List Itm) (x : RId) : Option Nat := L.findIdx? fun y => decide (y.id = x)
/-- what 'step' does -/
def stE (r : Rec) (I D : List Itm) : List Itm × List Itm :=
  if r.kind = 1 ∧ fidx I r.item.id = none then (I ++ [r.item], D)
  else if r.kind = 3 ∧ fidx D r.item.id = none then (I, D ++ [r.item])
  else match fidx I r.id with
    | some i => if r.kind = 2 then (I.take i ++ I.drop (i + 1), D) else if r.kind = 4 then (I.modify i (fun y => { y with tick := r.tick }), D) else (I, D)
    | none => (I, D)
/-- what Effect answers -/
def effL (l : List Rec) : Nat → List Itm × List Itm
  | 0 => ([], [])
  | k + 1 => match l[k]? with
    | some r => stE r (effL l k).1 (effL l k).2
    | none => effL l k
theorem effL_step (l : List Rec) (k : Nat) (r : Rec) (h : l[k]? = some r) : effL l (k + 1) = stE r (effL l k).1 (effL l k).2 := by simp [effL, h]
def proj (q : Int) (K : List KE) : List Itm := (K.filter fun e => decide (e.2.kind = q)).map fun e => e.2.item
theorem proj_append (q : Int) (a b : List KE) : proj q (a ++ b) = proj q a ++ proj q b := by simp [proj]
theorem fidx_none {L : List Itm} {x : RId} : fidx L x = none ↔ ∀ y ∈ L, y.id ≠ x := by
  unfold fidx
  rw [List.findIdx?_eq_none_iff]
  simp
theorem proj_S (K : List KE) (x : RId) : fidx (proj 1 K) x = none ↔ ¬ K.any (isS x) = true := by
  rw [fidx_none, List.any_eq_true]
  constructor
  · rintro h ⟨e, he, hs⟩
    obtain ⟨a, b⟩ := isS_iff.1 hs
    exact h e.2.item (List.mem_map.2 ⟨e, List.mem_filter.2 ⟨he, by simpa using a⟩, rfl⟩) b
  · intro h y hy c
    obtain ⟨e, he, rfl⟩ := List.mem_map.1 hy
    obtain ⟨h1, h2⟩ := List.mem_filter.1 he
    exact h ⟨e, h1, isS_iff.2 ⟨by simpa using h2, c⟩⟩
theorem proj_D (K : List KE) (x : RId) : fidx (proj 3 K) x = none ↔ ¬ K.any (isD x) = true := by
  rw [fidx_none, List.any_eq_true]
  constructor
  · rintro h ⟨e, he, hs⟩
    obtain ⟨a, b⟩ := isD_iff.1 hs
    exact h e.2.item (List.mem_map.2 ⟨e, List.mem_filter.2 ⟨he, by simpa using a⟩, rfl⟩) b
  · intro h y hy c
    obtain ⟨e, he, rfl⟩ := List.mem_map.1 hy
    obtain ⟨h1, h2⟩ := List.mem_filter.1 he
    exact h ⟨e, h1, isD_iff.2 ⟨by simpa using h2, c⟩⟩
theorem proj_ids {l : List Rec} {n : Nat} {K : List KE} (h : InvK l n K) : (proj 1 K).Pairwise fun a b => a.id ≠ b.id := by
  unfold proj
  rw [List.pairwise_map, List.pairwise_filter]
  exact h.one.imp fun {a b} hab ha hb c => hab ⟨by simp at ha hb; rw [ha, hb], c⟩
theorem cut_filter : ∀ {L : List Itm} {x : RId} {i : Nat}, L.Pairwise (fun a b => a.id ≠ b.id) → fidx L x = some i → L.take i ++ L.drop (i + 1) = L.filter fun y => !decide (y.id = x)
  | [], x, i, _, h => by simp [fidx] at h
  | y :: L, x, i, hp, h => by
    rw [List.pairwise_cons] at hp
    unfold fidx at h
    rw [List.findIdx?_cons] at h
    by_cases c : y.id = x
    · rw [if_pos (by simpa using c)] at h
      obtain rfl := Option.some.inj h
      have : L.filter (fun y => !decide (y.id = x)) = L := by
        rw [List.filter_eq_self]
        intro z hz
        have := hp.1 z hz
        simp; intro d; exact this (c.trans d.symm)
      rw [List.filter_cons_of_neg (by simpa using c), this]
      rfl
    · rw [if_neg (by simpa using c)] at h
      obtain ⟨j, hj, rfl⟩ := Option.map_eq_some_iff.1 h
      have ih := cut_filter (i := j) hp.2 hj
      rw [List.filter_cons_of_pos (by simpa using c), ← ih]
      rfl
theorem mod_map : ∀ {L : List Itm} {x : RId} {i : Nat} (f : Itm → Itm), L.Pairwise (fun a b => a.id ≠ b.id) → fidx L x = some i → L.modify i f = L.map fun y => if y.id = x then f y else y
  | [], x, i, _, _, h => by simp [fidx] at h
  | y :: L, x, i, f, hp, h => by
    rw [List.pairwise_cons] at hp
    unfold fidx at h
    rw [List.findIdx?_cons] at h
    by_cases c : y.id = x
    · rw [if_pos (by simpa using c)] at h
      obtain rfl := Option.some.inj h
      have : L.map (fun y => if y.id = x then f y else y) = L := by
        conv => rhs; rw [← List.map_id L]
        refine List.map_congr_left fun z hz => ?_
        have := hp.1 z hz
        rw [if_neg (fun d => this (c.trans d.symm))]
        rfl
      rw [List.map_cons, if_pos c, this]
      simp
    · rw [if_neg (by simpa using c)] at h
      obtain ⟨j, hj, rfl⟩ := Option.map_eq_some_iff.1 h
      have ih := mod_map (i := j) f hp.2 hj
      rw [List.map_cons, if_neg c, ← ih]
      simp
theorem proj_same {q : Int} {K : List KE} {f : KE → KE} (h1 : ∀ e ∈ K, (f e).2.kind = e.2.kind) (h2 : ∀ e ∈ K, e.2.kind = q → (f e).2.item = e.2.item) : proj q (K.map f) = proj q K := by
  unfold proj
  induction K with
  | nil => rfl
  | cons e K ih =>
    have i1 := ih (fun e he => h1 e (List.mem_cons_of_mem _ he)) (fun e he => h2 e (List.mem_cons_of_mem _ he))
    have k := h1 e List.mem_cons_self
    rw [List.map_cons]
    by_cases c : e.2.kind = q
    · rw [List.filter_cons_of_pos (by rw [k]; simpa using c), List.filter_cons_of_pos (by simpa using c), List.map_cons, List.map_cons, h2 e List.mem_cons_self c, i1]
    · rw [List.filter_cons_of_neg (by rw [k]; simpa using c), List.filter_cons_of_neg (by simpa using c), i1]
theorem proj_del (q : Int) (K : List KE) (x : RId) (hq : q = 1 ∨ q = 3) : proj q (K.filter fun e => !isS x e) = if q = 1 then (proj 1 K).filter (fun y => !decide (y.id = x)) else proj q K := by
  induction K with
  | nil => unfold proj; split <;> rfl
  | cons e K ih =>
    have hp : ∀ (a : Int) (e : KE) (K : List KE), proj a (e :: K) = if e.2.kind = a then e.2.item :: proj a K else proj a K := fun a e K => by
      unfold proj
      by_cases c : e.2.kind = a
      · rw [List.filter_cons_of_pos (by simpa using c), if_pos c]; rfl
      · rw [List.filter_cons_of_neg (by simpa using c), if_neg c]
    cases c : isS x e with
    | true =>
      obtain ⟨c1, c2⟩ := isS_iff.1 c
      rw [List.filter_cons_of_neg (by simp [c]), ih, hp, hp, if_pos c1]
      rcases hq with rfl | rfl
      · rw [if_pos rfl, if_pos rfl, List.filter_cons_of_neg (by simpa using c2)]
      · rw [if_neg (by decide), if_neg (by decide), if_neg (by omega)]
    | false =>
      rw [List.filter_cons_of_pos (by simp [c]), hp, ih, hp, hp]
      rcases hq with rfl | rfl
      · simp only [if_true]
        by_cases d : e.2.kind = 1
        · have : e.2.item.id ≠ x := fun d2 => by rw [isS_iff.2 ⟨d, d2⟩] at c; exact absurd c (by decide)
          rw [if_pos d, if_pos d, List.filter_cons_of_pos (by simpa using this)]
        · rw [if_neg d, if_neg d]
      · simp
theorem tick_proj (K : List KE) (x : RId) (t : Int) : proj 1 (K.map (tickE x t)) = (proj 1 K).map fun y => if y.id = x then { y with tick := t } else y := by
  induction K with
  | nil => rfl
  | cons e K ih =>
    have hp : ∀ (a : Int) (e : KE) (K : List KE), proj a (e :: K) = if e.2.kind = a then e.2.item :: proj a K else proj a K := fun a e K => by
      unfold proj
      by_cases c : e.2.kind = a
      · rw [List.filter_cons_of_pos (by simpa using c), if_pos c]; rfl
      · rw [List.filter_cons_of_neg (by simpa using c), if_neg c]
    rw [List.map_cons, hp, hp, ih, (tickE_k x t e).1]
    by_cases d : e.2.kind = 1
    · rw [if_pos d, if_pos d, List.map_cons]
      unfold tickE
      by_cases c : e.2.item.id = x
      · rw [if_pos (isS_iff.2 ⟨d, c⟩), if_pos c]; rfl
      · rw [if_neg (fun h => c (isS_iff.1 h).2), if_neg c]
    · rw [if_neg d, if_neg d]
/-- what Effect tells is what remains -/
theorem eff_runK (l : List Rec) : ∀ n, effL l n = (proj 1 (runK l n), proj 3 (runK l n))
  | 0 => rfl
  | n + 1 => by
    have ih := eff_runK l n
    have hi := runK_inv l n
    cases h : l[n]? with
    | none => simp only [effL, runK, h]; exact ih
    | some r =>
      rw [effL_step l n r h, runK_step l n r h, ih]
      generalize runK l n = K at hi ⊢
      simp only
      unfold stE stK
      by_cases h1 : r.kind = 1
      · have n3 : ¬ r.kind = 3 := by omega
        rw [if_pos h1]
        by_cases hs : K.any (isS r.item.id) = true
        · have : ¬ fidx (proj 1 K) r.item.id = none := fun c => (proj_S K _).1 c hs
          rw [if_pos hs, if_neg (fun c => this c.2), if_neg (fun c => n3 c.1)]
          cases fidx (proj 1 K) r.id with
          | none => rfl
          | some i => simp only; rw [if_neg (by omega), if_neg (by omega)]
        · rw [if_neg hs, if_pos ⟨h1, (proj_S K _).2 hs⟩, proj_append, proj_append]
          have a1 : proj 1 [(n, r)] = [r.item] := by simp [proj, h1]
          have a3 : proj 3 [(n, r)] = [] := by simp [proj, h1]
          rw [a1, a3, List.append_nil]
      · rw [if_neg h1, if_neg (fun c => h1 c.1)]
        by_cases h3 : r.kind = 3
        · rw [if_pos h3]
          by_cases hs : K.any (isD r.item.id) = true
          · have : ¬ fidx (proj 3 K) r.item.id = none := fun c => (proj_D K _).1 c hs
            rw [if_pos hs, if_neg (fun c => this c.2)]
            cases fidx (proj 1 K) r.id with
            | none => rfl
            | some i => simp only; rw [if_neg (by omega), if_neg (by omega)]
          · rw [if_neg hs, if_pos ⟨h3, (proj_D K _).2 hs⟩, proj_append, proj_append]
            have a1 : proj 1 [(n, r)] = [] := by simp [proj, h3]
            have a3 : proj 3 [(n, r)] = [r.item] := by simp [proj, h3]
            rw [a1, a3, List.append_nil]
        · rw [if_neg h3, if_neg (fun c => h3 c.1)]
          have hids := proj_ids hi
          by_cases h2 : r.kind = 2
          · rw [if_pos h2, proj_del 1 K r.id (.inl rfl), proj_del 3 K r.id (.inr rfl), if_pos rfl, if_neg (by decide)]
            cases c : fidx (proj 1 K) r.id with
            | none =>
              have : (proj 1 K).filter (fun y => !decide (y.id = r.id)) = proj 1 K := by
                rw [List.filter_eq_self]
                intro y hy
                simpa using fidx_none.1 c y hy
              rw [this]
            | some i => simp only; rw [if_pos h2, cut_filter hids c]
          · rw [if_neg h2]
            have hD : proj 3 (K.map (tickE r.id r.tick)) = proj 3 K := proj_same (fun e _ => (tickE_k _ _ e).1) (fun e _ he => by
              unfold tickE
              rw [if_neg (fun d => by have := (isS_iff.1 d).1; omega)])
            by_cases h4 : r.kind = 4
            · rw [if_pos h4, tick_proj, hD]
              cases c : fidx (proj 1 K) r.id with
              | none =>
                have : (proj 1 K).map (fun y => if y.id = r.id then { y with tick := r.tick } else y) = proj 1 K := by
                  conv => rhs; rw [← List.map_id (proj 1 K)]
                  refine List.map_congr_left fun y hy => ?_
                  rw [if_neg (fidx_none.1 c y hy)]; rfl
                rw [this]
              | some i => simp only; rw [if_neg h2, if_pos h4, mod_map _ hids c]
            · rw [if_neg h4]
              cases fidx (proj 1 K) r.id with
              | none => rfl
              | some i => simp only; rw [if_neg h2, if_neg h4]
end Go.Proofs.Ytlknjdfiedkhbaa
