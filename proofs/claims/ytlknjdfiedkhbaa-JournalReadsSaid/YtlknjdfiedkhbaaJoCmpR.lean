/- The reference's compaction, and compacting again, as plain data. No program is in sight here. -/
import Derived.Test.YtlknjdfiedkhbaaJoCmpQ
namespace Go.Proofs.Ytlknjdfiedkhbaa
open Go Go.RowKit
open Jo (RId Itm Rec wi vId ck ckI zId zIt)

/-- whether an item that came with record i remains, and its ticket, behind d more records -/
def remT (l : List Rec) (x : RId) (i : Nat) (t0 : Int) : Nat → Bool × Int
  | 0 => (true, t0)
  | d + 1 => match l[i + 1 + d]? with
    | some r => (if r.kind = 2 ∧ r.id = x then false else (remT l x i t0 d).1, if r.kind = 4 ∧ r.id = x then r.tick else (remT l x i t0 d).2)
    | none => remT l x i t0 d
theorem remT_step (l : List Rec) (x : RId) (i : Nat) (t0 : Int) (d : Nat) (r : Rec) (h : l[i + 1 + d]? = some r) : remT l x i t0 (d + 1) = (if r.kind = 2 ∧ r.id = x then false else (remT l x i t0 d).1, if r.kind = 4 ∧ r.id = x then r.tick else (remT l x i t0 d).2) := by simp [remT, h]
/-- what the reference keeps of record i -/
def refPick (l : List Rec) (i : Nat) (r : Rec) : List Rec :=
  if r.kind = 3 then (if fidx (effL l i).2 r.item.id = none then [r] else [])
  else if r.kind = 1 then (if fidx (effL l i).1 r.item.id = none then
    (if (remT l r.item.id i r.item.tick (l.length - (i + 1))).1 = true then [tickC r (remT l r.item.id i r.item.tick (l.length - (i + 1))).2] else []) else [])
  else []
def refC (l : List Rec) : Nat → List Rec
  | 0 => []
  | k + 1 => match l[k]? with
    | some r => refC l k ++ refPick l k r
    | none => refC l k
theorem refC_step (l : List Rec) (k : Nat) (r : Rec) (h : l[k]? = some r) : refC l (k + 1) = refC l k ++ refPick l k r := by simp [refC, h]
theorem refPick_len (l : List Rec) (i : Nat) (r : Rec) : (refPick l i r).length ≤ 1 := by
  unfold refPick
  split
  · split <;> simp
  · split
    · split
      · split <;> simp
      · simp
    · simp
theorem refC_len (l : List Rec) : ∀ k, (refC l k).length ≤ k
  | 0 => Nat.le_refl _
  | k + 1 => by
    have := refC_len l k
    simp only [refC]
    split
    · rename_i r _
      have := refPick_len l k r
      rw [List.length_append]; omega
    · omega

/-- what becomes of the entry of one place -/
theorem place_step {K : List KE} {n k : Nat} (q : Rec) (hne : n ≠ k) : (stK n q K).filter (fun x => decide (x.1 = k)) =
    if q.kind = 2 then (K.filter fun x => decide (x.1 = k)).filter (fun e => !isS q.id e) else if q.kind = 4 then (K.filter fun x => decide (x.1 = k)).map (tickE q.id q.tick) else K.filter fun x => decide (x.1 = k) := by
  have happ : (K ++ [(n, q)]).filter (fun x => decide (x.1 = k)) = K.filter (fun x => decide (x.1 = k)) := by
    rw [List.filter_append, List.filter_cons_of_neg (by simpa using hne)]; simp
  unfold stK
  by_cases h1 : q.kind = 1
  · rw [if_pos h1, if_neg (show ¬ q.kind = 2 by omega), if_neg (show ¬ q.kind = 4 by omega)]
    split
    · rfl
    · exact happ
  · rw [if_neg h1]
    by_cases h3 : q.kind = 3
    · rw [if_pos h3, if_neg (show ¬ q.kind = 2 by omega), if_neg (show ¬ q.kind = 4 by omega)]
      split
      · rfl
      · exact happ
    · rw [if_neg h3]
      by_cases h2 : q.kind = 2
      · rw [if_pos h2, if_pos h2, List.filter_filter, List.filter_filter]
        congr 1
        funext e
        exact Bool.and_comm _ _
      · rw [if_neg h2, if_neg h2]
        by_cases h4 : q.kind = 4
        · rw [if_pos h4, if_pos h4, List.filter_map]
          congr 1
          have : ((fun x : KE => decide (x.1 = k)) ∘ tickE q.id q.tick) = fun x : KE => decide (x.1 = k) := by
            funext e
            simp only [Function.comp_apply, tickE_1]
          rw [this]
        · rw [if_neg h4, if_neg h4]
theorem place_nil (l : List Rec) (k : Nat) : ∀ d, (runK l (k + 1)).filter (fun x => decide (x.1 = k)) = [] → (runK l (k + 1 + d)).filter (fun x => decide (x.1 = k)) = []
  | 0, h => h
  | d + 1, h => by
    have ih := place_nil l k d h
    cases c : l[k + 1 + d]? with
    | none =>
      have e : runK l (k + 1 + d + 1) = runK l (k + 1 + d) := by simp only [runK, c]
      rw [show k + 1 + (d + 1) = k + 1 + d + 1 by omega, e]; exact ih
    | some q =>
      rw [show k + 1 + (d + 1) = k + 1 + d + 1 by omega, runK_step l _ q c, place_step q (by omega), ih]
      split
      · rfl
      · split <;> rfl
theorem place_D {l : List Rec} {k : Nat} {r : Rec} (h3 : r.kind = 3) : ∀ d, (runK l (k + 1)).filter (fun x => decide (x.1 = k)) = [(k, r)] → (runK l (k + 1 + d)).filter (fun x => decide (x.1 = k)) = [(k, r)]
  | 0, h => h
  | d + 1, h => by
    have ih := place_D h3 d h
    cases c : l[k + 1 + d]? with
    | none =>
      have e : runK l (k + 1 + d + 1) = runK l (k + 1 + d) := by simp only [runK, c]
      rw [show k + 1 + (d + 1) = k + 1 + d + 1 by omega, e]; exact ih
    | some q =>
      have hn : isS q.id (k, r) = false := by
        cases c : isS q.id (k, r) with
        | false => rfl
        | true => have := (isS_iff.1 c).1; simp only at this; omega
      rw [show k + 1 + (d + 1) = k + 1 + d + 1 by omega, runK_step l _ q c, place_step q (by omega), ih]
      split
      · rw [List.filter_cons_of_pos (by simp [hn])]; rfl
      · split
        · rw [List.map_cons]; unfold tickE; rw [hn]; rfl
        · rfl
theorem place_S {l : List Rec} {k : Nat} {r : Rec} (h1 : r.kind = 1) : ∀ d, (runK l (k + 1)).filter (fun x => decide (x.1 = k)) = [(k, r)] →
    (runK l (k + 1 + d)).filter (fun x => decide (x.1 = k)) = if (remT l r.item.id k r.item.tick d).1 = true then [(k, tickC r (remT l r.item.id k r.item.tick d).2)] else []
  | 0, h => by rw [Nat.add_zero, h]; rfl
  | d + 1, h => by
    have ih := place_S h1 d h
    cases c : l[k + 1 + d]? with
    | none =>
      have e : runK l (k + 1 + d + 1) = runK l (k + 1 + d) := by simp only [runK, c]
      have e2 : remT l r.item.id k r.item.tick (d + 1) = remT l r.item.id k r.item.tick d := by simp only [remT, c]
      rw [show k + 1 + (d + 1) = k + 1 + d + 1 by omega, e, e2]; exact ih
    | some q =>
      rw [show k + 1 + (d + 1) = k + 1 + d + 1 by omega, runK_step l _ q c, place_step q (by omega), ih, remT_step l _ _ _ _ q c]
      generalize remT l r.item.id k r.item.tick d = s
      obtain ⟨s1, s2⟩ := s
      simp only
      have hS : isS q.id (k, tickC r s2) = decide (q.id = r.item.id) := by
        unfold isS
        have a : (tickC r s2).kind = 1 := h1
        have b : (tickC r s2).item.id = r.item.id := rfl
        simp only [a, b, decide_true, Bool.true_and]
        rw [Bool.eq_iff_iff]
        simp [eq_comm]
      have hT : tickE q.id q.tick (k, tickC r s2) = if q.id = r.item.id then (k, tickC r q.tick) else (k, tickC r s2) := by
        unfold tickE
        rw [hS]
        by_cases hx : q.id = r.item.id
        · rw [if_pos (by simpa using hx), if_pos hx]; rfl
        · rw [if_neg (by simpa using hx), if_neg hx]
      by_cases h2 : q.kind = 2
      · have h4 : ¬ q.kind = 4 := by omega
        by_cases hx : q.id = r.item.id
        · rw [decide_eq_true hx] at hS
          have e : (if q.kind = 2 ∧ q.id = r.item.id then false else s1) = false := if_pos ⟨h2, hx⟩
          rw [if_pos h2, e]
          cases s1 <;> simp [hS]
        · rw [decide_eq_false hx] at hS
          cases s1 <;> simp [h2, hS, hx]
      · by_cases h4 : q.kind = 4
        · by_cases hx : q.id = r.item.id
          · rw [if_pos hx] at hT
            have e : (if q.kind = 4 ∧ q.id = r.item.id then q.tick else s2) = q.tick := if_pos ⟨h4, hx⟩
            rw [if_neg h2, if_pos h4, e]
            cases s1 <;> simp [hT, h2]
          · cases s1 <;> simp [h4, hT, hx]
        · cases s1 <;> simp [h2, h4]
theorem ref_at {l : List Rec} {k : Nat} {r : Rec} (hr : l[k]? = some r) : refPick l k r = ((runK l l.length).filter fun x => decide (x.1 = k)).map (·.2) := by
  have hk : k < l.length := (List.getElem?_eq_some_iff.1 hr).1
  have hi := runK_inv l k
  have hz : (runK l k).filter (fun x => decide (x.1 = k)) = [] := filter_zero fun e he => Nat.ne_of_lt (hi.lt e he)
  have hN : l.length = k + 1 + (l.length - (k + 1)) := by omega
  have hs := runK_step l k r hr
  have hone : (runK l k ++ [(k, r)]).filter (fun x => decide (x.1 = k)) = [(k, r)] := by
    rw [List.filter_append, hz, List.filter_cons_of_pos (by simp)]; rfl
  unfold refPick
  rw [eff_runK]
  simp only
  unfold stK at hs
  by_cases h3 : r.kind = 3
  · rw [if_pos h3]
    rw [if_neg (by omega), if_pos h3] at hs
    by_cases ha : (runK l k).any (isD r.item.id) = true
    · rw [if_pos ha] at hs
      rw [if_neg (fun c => (proj_D _ _).1 c ha)]
      conv => rhs; rw [hN]
      rw [place_nil l k _ (by rw [hs]; exact hz)]
      rfl
    · rw [if_neg ha] at hs
      rw [if_pos ((proj_D _ _).2 ha)]
      conv => rhs; rw [hN]
      rw [place_D h3 _ (by rw [hs]; exact hone)]
      rfl
  · rw [if_neg h3]
    by_cases h1 : r.kind = 1
    · rw [if_pos h1]
      rw [if_pos h1] at hs
      by_cases ha : (runK l k).any (isS r.item.id) = true
      · rw [if_pos ha] at hs
        rw [if_neg (fun c => (proj_S _ _).1 c ha)]
        conv => rhs; rw [hN]
        rw [place_nil l k _ (by rw [hs]; exact hz)]
        rfl
      · rw [if_neg ha] at hs
        rw [if_pos ((proj_S _ _).2 ha)]
        conv => rhs; rw [hN]
        rw [place_S h1 _ (by rw [hs]; exact hone)]
        split <;> rfl
    · rw [if_neg h1]
      have : (runK l (k + 1)).filter (fun x => decide (x.1 = k)) = [] := by
        rw [hs, if_neg h1, if_neg h3]
        split
        · rw [List.filter_filter, List.filter_eq_nil_iff]
          intro e he
          have := hi.lt e he
          simp; omega
        · split
          · rw [List.filter_eq_nil_iff]
            intro e he
            obtain ⟨e', he', rfl⟩ := List.mem_map.1 he
            have := hi.lt e' he'
            rw [tickE_1]
            simp; omega
          · exact hz
      conv => rhs; rw [hN]
      rw [place_nil l k _ this]
      rfl
theorem refC_runK (l : List Rec) : ∀ k, k ≤ l.length → refC l k = ((runK l l.length).filter fun x => decide (x.1 < k)).map (·.2)
  | 0, _ => by
    have : (runK l l.length).filter (fun x => decide (x.1 < 0)) = [] := by rw [List.filter_eq_nil_iff]; intro e _; simp
    rw [this]; rfl
  | k + 1, hk => by
    obtain ⟨r, hr⟩ : ∃ r, l[k]? = some r := ⟨_, List.getElem?_eq_getElem (by omega)⟩
    rw [refC_step l k r hr, refC_runK l k (by omega), ref_at hr, ← List.map_append, ← split_at k (runK_inv l _).up]
/-- the reference and the program keep the same -/
theorem refC_all (l : List Rec) : refC l l.length = outC l (runC l l.length) l.length := by
  rw [outC_runK l l.length l.length (Nat.le_refl _), refC_runK l l.length (Nat.le_refl _)]

/-! Compacting again. -/
theorem errK_all : ∀ {l : List Rec}, errK l = 0 ↔ ∀ r ∈ l, ck r = 0
  | [] => by simp [errK]
  | r :: l => by
    unfold errK
    constructor
    · intro h
      split at h
      · rename_i c
        intro x hx
        rcases List.mem_cons.1 hx with rfl | hx
        · exact c
        · exact errK_all.1 h x hx
      · rename_i c; exact absurd h c
    · intro h
      rw [if_pos (h r List.mem_cons_self)]
      exact errK_all.2 fun x hx => h x (List.mem_cons_of_mem _ hx)
theorem ck_tick {r : Rec} {t : Int} (h : ck r = 0) (h1 : r.kind = 1) (ht : wi t 0 1152921504606846976 = true) : ck (tickC r t) = 0 := by
  obtain ⟨c1, c2, ⟨c3, c4, c5, c6⟩ | ⟨c3, _⟩⟩ := ck_ok h
  · obtain ⟨i1, i2, i3, i4, i5, i6⟩ := ckI_ok c4
    have hi : ckI (tickC r t).item = 0 := by
      unfold ckI
      rw [if_pos (by show (vId r.item.id && wi t 0 1152921504606846976 && wi r.item.dest 0 15 && wi r.item.exp 1 1099511627776 && wi r.item.prio 0 2) = true; rw [i1, ht, i3, i4, i5]; rfl)]
      exact if_pos i6
    unfold ck
    rw [if_pos (show wi (tickC r t).kind 1 4 = true from c1), if_pos (show wi (tickC r t).time 0 1099511627776 = true from c2), if_pos (show (tickC r t).kind = 1 ∨ (tickC r t).kind = 3 from c3), if_pos hi]
    exact if_pos ⟨c5, c6⟩
  · exact absurd (.inl h1) c3
theorem runK_ck {l : List Rec} (h : errK l = 0) : ∀ n, ∀ e ∈ runK l n, ck e.2 = 0
  | 0 => fun e he => by simp [runK] at he
  | n + 1 => by
    have ih := runK_ck h n
    cases c : l[n]? with
    | none => simp only [runK, c]; exact ih
    | some r =>
      have hr := errK_all.1 h r (List.mem_of_getElem? c)
      rw [runK_step l n r c]
      have happ : ∀ e ∈ runK l n ++ [(n, r)], ck e.2 = 0 := fun e he => by
        rcases List.mem_append.1 he with he | he
        · exact ih e he
        · simp only [List.mem_singleton] at he; subst he; exact hr
      unfold stK
      split
      · split
        · exact ih
        · exact happ
      · split
        · split
          · exact ih
          · exact happ
        · split
          · exact fun e he => ih e (List.mem_filter.1 he).1
          · split
            · rename_i h3 h2 h4
              intro e he
              obtain ⟨e', he', rfl⟩ := List.mem_map.1 he
              unfold tickE
              split
              · rename_i hs
                have ht : wi r.tick 0 1152921504606846976 = true := by
                  obtain ⟨_, _, ⟨q, _⟩ | ⟨_, _, q, _⟩⟩ := ck_ok hr
                  · omega
                  · exact q h4
                exact ck_tick (ih e' he') (isS_iff.1 hs).1 ht
              · exact ih e' he'
            · exact ih
theorem proj_map (q : Int) (K : List KE) : proj q K = ((K.map (·.2)).filter fun r => decide (r.kind = q)).map (·.item) := by
  unfold proj
  rw [List.filter_map, List.map_map]
  rfl
theorem again_runK {m : List Rec} (h1 : ∀ r ∈ m, r.kind = 1 ∨ r.kind = 3) (h2 : m.Pairwise fun a b => ¬ (a.kind = b.kind ∧ a.item.id = b.item.id)) : ∀ n, n ≤ m.length → (runK m n).map (·.2) = m.take n
  | 0, _ => by simp [runK]
  | n + 1, hn => by
    have ih := again_runK h1 h2 n (by omega)
    obtain ⟨r, hr⟩ : ∃ r, m[n]? = some r := ⟨_, List.getElem?_eq_getElem (by omega)⟩
    have hm : m.take (n + 1) = m.take n ++ [r] := by
      rw [List.take_succ_eq_append_getElem (by omega)]
      have : m[n] = r := (List.getElem?_eq_some_iff.1 hr).2
      rw [this]
    have hno : ∀ e ∈ runK m n, ¬ (e.2.kind = r.kind ∧ e.2.item.id = r.item.id) := fun e he => by
      have hmem : e.2 ∈ m.take n := by rw [← ih]; exact List.mem_map.2 ⟨e, he, rfl⟩
      have hp : (m.take (n + 1)).Pairwise fun a b => ¬ (a.kind = b.kind ∧ a.item.id = b.item.id) := h2.sublist (List.take_sublist _ _)
      rw [hm, List.pairwise_append] at hp
      exact hp.2.2 e.2 hmem r List.mem_cons_self
    rw [runK_step m n r hr, hm]
    unfold stK
    rcases h1 r (List.mem_of_getElem? hr) with k | k
    · rw [if_pos k, if_neg, List.map_append, ih]
      · rfl
      · rw [List.any_eq_true]
        rintro ⟨e, he, hs⟩
        obtain ⟨a, b⟩ := isS_iff.1 hs
        exact hno e he ⟨a.trans k.symm, b⟩
    · rw [if_neg (by omega), if_pos k, if_neg, List.map_append, ih]
      · rfl
      · rw [List.any_eq_true]
        rintro ⟨e, he, hs⟩
        obtain ⟨a, b⟩ := isD_iff.1 hs
        exact hno e he ⟨a.trans k.symm, b⟩
theorem len_two : ∀ {m : List Rec}, (∀ r ∈ m, r.kind = 1 ∨ r.kind = 3) → m.length = (m.filter fun r => decide (r.kind = 1)).length + (m.filter fun r => decide (r.kind = 3)).length
  | [], _ => rfl
  | r :: m, h => by
    have ih := len_two fun x hx => h x (List.mem_cons_of_mem _ hx)
    rcases h r List.mem_cons_self with k | k
    · rw [List.filter_cons_of_pos (by simpa using k), List.filter_cons_of_neg (by simp; omega), List.length_cons, List.length_cons, ih]; omega
    · rw [List.filter_cons_of_neg (by simp; omega), List.filter_cons_of_pos (by simpa using k), List.length_cons, List.length_cons, ih]; omega
/-- the law of compaction -/
theorem compacts {l : List Rec} (h : errK l = 0) : errK (cmpL l) = 0 ∧ cmpL (cmpL l) = cmpL l ∧ effL (cmpL l) (cmpL l).length = effL l l.length ∧ (cmpL l).length = (effL l l.length).1.length + (effL l l.length).2.length ∧
    (cmpL l).length ≤ l.length ∧ (∀ r ∈ cmpL l, r.kind = 1 ∨ r.kind = 3) ∧ ∀ r ∈ cmpL l, ck r = 0 := by
  have hi := runK_inv l l.length
  have hm : cmpL l = (runK l l.length).map (·.2) := by unfold cmpL; rw [if_pos h, outC_all]
  have hlen : (cmpL l).length ≤ l.length := by unfold cmpL; rw [if_pos h]; exact outC_len l _ _
  have hk : ∀ r ∈ cmpL l, r.kind = 1 ∨ r.kind = 3 := fun r hr => by
    rw [hm] at hr
    obtain ⟨e, he, rfl⟩ := List.mem_map.1 hr
    obtain ⟨q, _, q2, q3⟩ := hi.src e he
    rw [q2]; exact q3
  have hck : ∀ r ∈ cmpL l, ck r = 0 := fun r hr => by
    rw [hm] at hr
    obtain ⟨e, he, rfl⟩ := List.mem_map.1 hr
    exact runK_ck h _ e he
  have hp : (cmpL l).Pairwise fun a b => ¬ (a.kind = b.kind ∧ a.item.id = b.item.id) := by rw [hm, List.pairwise_map]; exact hi.one
  have he := errK_all.2 hck
  have ha := again_runK hk hp (cmpL l).length (Nat.le_refl _)
  rw [List.take_length] at ha
  refine ⟨he, ?_, ?_, ?_, hlen, hk, hck⟩
  · have hc : ∀ x : List Rec, errK x = 0 → cmpL x = outC x (runC x x.length) x.length := fun x hx => by unfold cmpL; rw [if_pos hx]
    rw [hc _ he, outC_all, ha]
  · rw [eff_runK, eff_runK, proj_map, proj_map, proj_map 1 (runK l l.length), proj_map 3 (runK l l.length), ha, ← hm]
  · rw [eff_runK, proj_map, proj_map, ← hm, List.length_map, List.length_map]
    exact len_two hk
end Go.Proofs.Ytlknjdfiedkhbaa
