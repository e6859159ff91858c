/- The way that is found: its holds are valid; the search of the way backwards, as plain data. Conditions: the tables and the request are valid.
Bounds of the moves and of the labels. Conditions: the tables and the request are valid. -/
import Derived.Test.YtebkgbmijocdjaaGreatTpAdL
namespace Go.Proofs.YtebkgbmijocdjaaGreat.Tp
open Go Go.RowKit
set_option linter.unusedVariables false

section
variable {t : Tbl} {q : Rq}
/-- the way that is found can be booked, its holds are valid -/
theorem path_admitD (ht : TblOK t) (hq : RqOK t.p q) {L : List Lab} (hL : Labs (grf t q) L) (hA : ∀ a ∈ L, ∀ b ∈ L, same a b = true → a = b) {at_ : Int} {x : Lab} {m : List Hop} {xs : List Lab} (h : LPath (grf t q) L at_ x m xs) (hx1 : x.node = q.src) (hx2 : x.time = q.ready)
    (hl1 : t.b.length + m.length ≤ 512) (hl2 : t.h.length + m.length ≤ 512) : AdmitD t q m := by
  refine ⟨path_admit ht hq hL hA h hx1 hx2 hl1 hl2, fun k hk => ?_⟩
  have hg := grf_ok ht hq
  have hf := grf_free ht hq
  have hxL : x ∈ L := by
    obtain ⟨l, rfl⟩ := h.head
    exact h.sub x (by simp)
  have fx := hL.fine x hxL
  obtain ⟨-, hh2⟩ := h.holds hg hf hL hA q.ready (by have := fx.2.2.2.1; omega) (by omega)
  rw [hx1] at hh2
  obtain ⟨k0, hk0, rfl⟩ := List.mem_map.1 hk
  obtain ⟨y, hy, h1, h2, h3, h4, h5, h6, q', hq', -⟩ := hh2 k0 hk0
  have fy := hL.fine y (h.sub y hy)
  have hn : 0 ≤ k0.node := by have := fy.2.1; omega
  have hn2 : k0.node.toNat < t.p.q.length := (List.getElem?_eq_some_iff.1 hq').1
  have hsz := hq.2.2.2.2.1
  unfold maxT at h6
  exact ⟨hn, by show k0.node < _; omega, h5, h4, h6, hsz.1, hsz.2, by show (0 : Int) ≤ 0; omega, by show (0 : Int) ≤ _; omega⟩
end

/-! The search backwards. -/
/-- of the moves of a label, the first that leads to a place at a time -/
def befM (to_ : Lab) : List (Lab × Hop) → Option Hop
  | [] => none
  | y :: l => if same y.1 to_ && y.1.time == to_.time then some y.2 else befM to_ l
/-- of labels, the first from which a move leads to a place at a time -/
def befF (g : Grf) (to_ : Lab) : List Lab → Option (Lab × Hop)
  | [] => none
  | x :: l => match befM to_ (movesF g x) with
    | some h => some (x, h)
    | none => befF g to_ l
theorem befM_some {to_ : Lab} {h : Hop} : ∀ {l : List (Lab × Hop)}, befM to_ l = some h → ∃ y, (y, h) ∈ l ∧ same y to_ = true ∧ y.time = to_.time
  | [], e => by simp [befM] at e
  | y :: l, e => by
    unfold befM at e
    split at e
    · rename_i hc
      cases e
      simp only [Bool.and_eq_true, beq_iff_eq] at hc
      exact ⟨y.1, by simp, hc.1, hc.2⟩
    · obtain ⟨z, hz, h2⟩ := befM_some e
      exact ⟨z, by simp [hz], h2⟩
theorem befM_none {to_ : Lab} : ∀ {l : List (Lab × Hop)}, befM to_ l = none → ∀ y h, (y, h) ∈ l → same y to_ = true → y.time ≠ to_.time
  | [], _, y, h, hm => by simp at hm
  | z :: l, e, y, h, hm => by
    unfold befM at e
    split at e
    · cases e
    · rename_i hc
      intro h1 h2
      rcases List.mem_cons.1 hm with e2 | e2
      · subst e2
        exact hc (by simp [h1, h2])
      · exact befM_none e y h e2 h1 h2
theorem befF_some {g : Grf} {to_ x : Lab} {h : Hop} : ∀ {l : List Lab}, befF g to_ l = some (x, h) → x ∈ l ∧ ∃ y, (y, h) ∈ movesF g x ∧ same y to_ = true ∧ y.time = to_.time
  | [], e => by simp [befF] at e
  | z :: l, e => by
    unfold befF at e
    split at e
    · rename_i k hk
      cases e
      exact ⟨by simp, befM_some hk⟩
    · obtain ⟨h1, h2⟩ := befF_some e
      exact ⟨by simp [h1], h2⟩
theorem befF_none {g : Grf} {to_ : Lab} : ∀ {l : List Lab}, befF g to_ l = none → ∀ x ∈ l, ∀ y h, (y, h) ∈ movesF g x → same y to_ = true → y.time ≠ to_.time
  | [], _, x, hx => by simp at hx
  | z :: l, e, x, hx => by
    unfold befF at e
    split at e
    · cases e
    · rename_i hk
      rcases List.mem_cons.1 hx with e2 | e2
      · subst e2; exact befM_none hk
      · exact befF_none e x e2
/-- the times of the moves to the destination -/
def arrT (g : Grf) (L : List Lab) : List Int := L.flatMap fun x => (movesF g x).filterMap fun y => if y.1.node = g.dst then some y.1.time else none
/-- the least of a row and of what was found before -/
def minO : Option Int → List Int → Option Int
  | o, [] => o
  | none, t :: l => minO (some t) l
  | some b, t :: l => minO (some (if t < b then t else b)) l
theorem minO_app : ∀ (a b : List Int) (o : Option Int), minO o (a ++ b) = minO (minO o a) b
  | [], b, o => by cases o <;> rfl
  | t :: a, b, none => by rw [List.cons_append, minO, minO, minO_app a b]
  | t :: a, b, some c => by rw [List.cons_append, minO, minO, minO_app a b]
theorem minO_some : ∀ {l : List Int} {b : Int}, ∃ n, minO (some b) l = some n ∧ (n = b ∨ n ∈ l) ∧ n ≤ b ∧ ∀ t ∈ l, n ≤ t
  | [], b => ⟨b, rfl, .inl rfl, Int.le_refl _, by simp⟩
  | t :: l, b => by
    obtain ⟨n, h1, h2, h3, h4⟩ := minO_some (l := l) (b := if t < b then t else b)
    refine ⟨n, h1, ?_, ?_, ?_⟩
    · rcases h2 with h2 | h2
      · split at h2
        · exact .inr (by simp [h2])
        · exact .inl h2
      · exact .inr (by simp [h2])
    · split at h3 <;> omega
    · intro u hu
      rcases List.mem_cons.1 hu with e | e
      · subst e; split at h3 <;> omega
      · exact h4 u e
theorem minO_none {l : List Int} : minO none l = none ↔ l = [] := by
  cases l with
  | nil => simp [minO]
  | cons t l =>
    obtain ⟨n, h1, -⟩ := minO_some (l := l) (b := t)
    rw [minO, h1]; simp
theorem minO_least {l : List Int} {n : Int} (h : minO none l = some n) : n ∈ l ∧ ∀ t ∈ l, n ≤ t := by
  cases l with
  | nil => simp [minO] at h
  | cons t l =>
    obtain ⟨m, h1, h2, h3, h4⟩ := minO_some (l := l) (b := t)
    rw [minO, h1] at h
    cases h
    refine ⟨?_, fun u hu => ?_⟩
    · rcases h2 with h2 | h2
      · simp [h2]
      · simp [h2]
    · rcases List.mem_cons.1 hu with e | e
      · rw [e]; exact h3
      · exact h4 u e
theorem mem_arrT {g : Grf} {L : List Lab} {t : Int} : t ∈ arrT g L ↔ ∃ x ∈ L, ∃ y h, (y, h) ∈ movesF g x ∧ y.node = g.dst ∧ y.time = t := by
  unfold arrT
  simp only [List.mem_flatMap, List.mem_filterMap]
  constructor
  · rintro ⟨x, hx, ⟨y, h⟩, h1, h2⟩
    simp only at h2
    split at h2
    · cases h2
      exact ⟨x, hx, y, h, h1, by assumption, rfl⟩
    · cases h2
  · rintro ⟨x, hx, y, h, h1, h2, h3⟩
    exact ⟨x, hx, (y, h), h1, by simp [h2, h3]⟩
/-- the place where a way shall end -/
def endL (g : Grf) (a : Int) : Lab := ⟨g.dst, 0, 1099511627776, a⟩
theorem back_start {g : Grf} {L : List Lab} {a : Int} {x : Lab} {h : Hop} (e : befF g (endL g a) L = some (x, h)) : LPath g L a x [h] [x] := by
  obtain ⟨hx, y, hm, hs, ht⟩ := befF_some e
  exact .last hx hm (same_iff.1 hs).1 ht
theorem back_step {g : Grf} {L : List Lab} {a : Int} {x z : Lab} {h : Hop} {hs : List Hop} {xs : List Lab} (hp : LPath g L a z hs xs) (e : befF g z L = some (x, h)) : LPath g L a x (h :: hs) (x :: xs) := by
  obtain ⟨hx, y, hm, hs, ht⟩ := befF_some e
  refine .cons hx hm ?_ hs ht hp
  obtain ⟨l, rfl⟩ := hp.head
  exact hp.sub z (by simp)
theorem back_found0 {g : Grf} {L : List Lab} {a : Int} (h : a ∈ arrT g L) : befF g (endL g a) L ≠ none := by
  obtain ⟨x, hx, y, k, hm, hn, ht⟩ := mem_arrT.1 h
  intro e
  refine befF_none e x hx y k hm ?_ ht
  obtain ⟨i, c, r, h1, h2, h3, h4, h5, rfl⟩ := mem_movesF.1 hm
  unfold roomsF at h3
  rw [if_pos hn, List.mem_singleton] at h3
  subst h3
  exact same_iff.2 ⟨hn, rfl⟩
theorem back_found {g : Grf} {L : List Lab} (hL : Labs g L) {z : Lab} (hz : z ∈ L) (hs : ¬ (z.node = g.src ∧ z.time = g.ready)) : befF g z L ≠ none := by
  intro e
  rcases hL.sound z hz with h | ⟨x, hx, k, hm⟩
  · obtain ⟨r, _, _, _, rfl⟩ := Start.iff.1 h
    exact hs ⟨rfl, rfl⟩
  · exact befF_none e x hx z k hm (same_refl z) rfl
/-- how far the search backwards is -/
def BackSt (g : Grf) (L : List Lab) (a : Int) (out : List Hop) (to_ : Lab) : Prop := (out = [] ∧ to_ = endL g a) ∨ ∃ xs, LPath g L a to_ out.reverse xs
theorem BackSt.next {g : Grf} {L : List Lab} {a : Int} {out : List Hop} {to_ x : Lab} {h : Hop} (hb : BackSt g L a out to_) (e : befF g to_ L = some (x, h)) : BackSt g L a (out ++ [h]) x := by
  rcases hb with ⟨rfl, rfl⟩ | ⟨xs, hp⟩
  · exact .inr ⟨_, back_start e⟩
  · refine .inr ⟨x :: xs, ?_⟩
    rw [List.reverse_append]
    exact back_step hp e
theorem BackSt.found {g : Grf} {L : List Lab} (hL : Labs g L) {a : Int} (ha : a ∈ arrT g L) {out : List Hop} {to_ : Lab} (hb : BackSt g L a out to_) (hs : out = [] ∨ ¬ (to_.node = g.src ∧ to_.time = g.ready)) : befF g to_ L ≠ none := by
  rcases hb with ⟨rfl, rfl⟩ | ⟨xs, hp⟩
  · exact back_found0 ha
  · rcases hs with rfl | hs
    · have := hp.len
      cases hp
    · refine back_found hL ?_ hs
      obtain ⟨l, rfl⟩ := hp.head
      exact hp.sub _ (by simp)
theorem BackSt.few {g : Grf} (hg : GOK g) {L : List Lab} {a : Int} {out : List Hop} {to_ : Lab} (hb : BackSt g L a out to_) : out.length ≤ L.length := by
  rcases hb with ⟨rfl, rfl⟩ | ⟨xs, hp⟩
  · exact Nat.zero_le _
  · have := hp.few hg
    rwa [List.length_reverse] at this
end Go.Proofs.YtebkgbmijocdjaaGreat.Tp
namespace Go.Proofs.YtebkgbmijocdjaaGreat.Tp
open Go Go.RowKit

theorem mvOf_len (g : Grf) (x : Lab) (i : Nat) (c : Ct) (r : Spn) : (mvOf g x i c r).length ≤ 1 := by
  unfold mvOf
  split
  · simp
  · split <;> simp
theorem flatMap_len {α β : Type} (f : α → List β) : ∀ (l : List α), (∀ a ∈ l, (f a).length ≤ 1) → (l.flatMap f).length ≤ l.length
  | [], _ => by simp
  | a :: l, h => by
    rw [List.flatMap_cons, List.length_append, List.length_cons]
    have h1 := h a (by simp)
    have h2 := flatMap_len f l fun b hb => h b (by simp [hb])
    omega
theorem mvCt_len (g : Grf) (x : Lab) (i : Nat) (c : Ct) (M : Nat) (h : ∀ n, (roomsF g n).length ≤ M) : (mvCt g x i c).length ≤ M := by
  unfold mvCt
  split
  · exact Nat.le_trans (flatMap_len _ _ fun r _ => mvOf_len g x i c r) (h _)
  · simp
theorem movesFrom_len (g : Grf) (x : Lab) (M : Nat) (h : ∀ n, (roomsF g n).length ≤ M) : ∀ (l : List Ct) (k : Nat), (movesFrom g x k l).length ≤ l.length * M
  | [], k => by simp [movesFrom]
  | c :: l, k => by
    rw [movesFrom, List.length_append, List.length_cons, Nat.succ_mul]
    have h1 := mvCt_len g x k c M h
    have h2 := movesFrom_len g x M h l (k + 1)
    omega
section
variable {t : Tbl} {q : Rq}
theorem roomsF_len (ht : TblOK t) (n : Int) : (roomsF (grf t q) n).length ≤ 513 := by
  unfold roomsF
  split
  · simp
  · show ((roomsOfT t q.size).getD n.toNat []).length ≤ 513
    cases he : t.p.q[n.toNat]? with
    | none => rw [roomsOf_none he]; simp
    | some y =>
      rw [roomsOf_at he]
      have h1 := rooms_few (hdFine (p := t.p) ht.2.2.2.1) (n.toNat : Int) y q.size
      have h2 : (t.h.filter fun h : Hld => decide (h.node = (n.toNat : Int))).length ≤ t.h.length := List.length_filter_le _ _
      have h3 := ht.2.2.1
      omega
theorem moves_few (ht : TblOK t) (x : Lab) : (movesF (grf t q) x).length < 1000000 := by
  have h1 := movesFrom_len (grf t q) x 513 (roomsF_len ht) (grf t q).cs 0
  have h2 : (grf t q).cs.length ≤ 64 := ht.1.1.2.2
  have h3 : (grf t q).cs.length * 513 ≤ 64 * 513 := Nat.mul_le_mul_right _ h2
  unfold movesF
  omega
theorem room_bd (ht : TblOK t) (hq : RqOK t.p q) {n : Int} (hn : 0 ≤ n) {r : Spn} (hr : r ∈ (grf t q).rooms.getD n.toNat []) : 0 ≤ r.frm ∧ r.frm < r.til ∧ r.til ≤ 1099511627776 := by
  have hf := grf_free ht hq
  have h1 := hf.roomS n r hn hr r.frm r.til (Int.le_refl _) (Int.le_refl _)
  have h2 := hf.roomP n.toNat r hr
  obtain ⟨h3, h4, -⟩ := h1
  unfold maxT at h4
  exact ⟨h3, h2, h4⟩
theorem roomsF_bd (ht : TblOK t) (hq : RqOK t.p q) (n : Int) (r : Spn) (hr : r ∈ roomsF (grf t q) n) : 0 ≤ r.frm ∧ r.frm ≤ 1099511627776 := by
  unfold roomsF at hr
  split at hr
  · rw [List.mem_singleton.1 hr]
    exact ⟨by decide, by decide⟩
  · have h := room_bd ht hq (n := (n.toNat : Int)) (by omega) (r := r) (by rw [Int.toNat_natCast]; exact hr)
    omega
theorem fine_bd (ht : TblOK t) (hq : RqOK t.p q) {x : Lab} (hx : Fine (grf t q) x) : 0 ≤ x.time ∧ x.time ≤ 1099511627776 := by
  have h := room_bd ht hq hx.2.1 hx.2.2.1
  have h2 : x.frm ≤ x.time := hx.2.2.2.1
  have h3 : x.time < x.til := hx.2.2.2.2
  simp only at h
  omega
theorem keyN_bd (ht : TblOK t) : keyN (grf t q) ≤ 528 := by
  have h1 := keyN_le ht q
  have h2 := ht.2.2.1
  have h3 := ht.1.1.2.1
  omega
end
/-- how many labels are open -/
theorem start_len {t : Tbl} {q : Rq} (ht : TblOK t) (hq : RqOK t.p q) : (startF (grf t q)).length ≤ 513 := by
  unfold startF
  rw [List.length_map]
  refine Nat.le_trans (List.length_filter_le _ _) ?_
  have h := roomsF_len (q := q) ht (grf t q).src
  unfold roomsF at h
  rw [if_neg (by exact hq.2.2.2.1)] at h
  exact h
theorem step_len {t : Tbl} {q : Rq} (ht : TblOK t) (s : List Lab × List Lab) : (stepF (grf t q) s).2.length ≤ s.2.length + 1000000 := by
  obtain ⟨done, o⟩ := s
  cases o with
  | nil => simp [stepF]
  | cons a l =>
    rw [stepF]
    simp only [List.length_append]
    have h1 := List.length_filter_le (fun y => !same (minLab a l) y) (a :: l)
    have h2 : (newLabs (grf t q) (done ++ [minLab a l]) (minLab a l)).length ≤ (movesF (grf t q) (minLab a l)).length := by
      unfold newLabs
      refine Nat.le_trans (List.length_filter_le _ _) ?_
      rw [List.length_map]
      exact Nat.le_refl _
    have h3 := moves_few (q := q) ht (minLab a l)
    omega
theorem iter_len {t : Tbl} {q : Rq} (ht : TblOK t) (hq : RqOK t.p q) : ∀ k, (iterF (grf t q) k).2.length ≤ 513 + k * 1000000
  | 0 => by have := start_len ht hq; show (startF (grf t q)).length ≤ _; omega
  | k + 1 => by
    have h1 := iter_len ht hq k
    have h2 := step_len (q := q) ht (iterF (grf t q) k)
    show (stepF (grf t q) (iterF (grf t q) k)).2.length ≤ _
    omega
/-- the labels that the first of the moves have laid -/
def newP (dst : Int) (D : List Lab) (pre : List (Lab × Hop)) : List Lab := (pre.map (·.1)).filter fun y => !(y.node == dst) && !(D.any fun z => same y z)
theorem newP_all (g : Grf) (D : List Lab) (x : Lab) : newP g.dst D (movesF g x) = newLabs g D x := rfl
theorem newP_yes {dst : Int} {D : List Lab} {pre : List (Lab × Hop)} {y : Lab × Hop} (h1 : y.1.node ≠ dst) (h2 : ∀ z ∈ D, same y.1 z = false) : newP dst D (pre ++ [y]) = newP dst D pre ++ [y.1] := by
  unfold newP
  rw [List.map_append, List.filter_append]
  have h3 : (D.any fun z => same y.1 z) = false := by
    rw [List.any_eq_false]
    intro z hz
    rw [h2 z hz]
    simp
  have h4 : (y.1.node == dst) = false := by simpa using h1
  simp [h3, h4]
theorem newP_no {dst : Int} {D : List Lab} {pre : List (Lab × Hop)} {y : Lab × Hop} (h : y.1.node = dst ∨ ∃ z ∈ D, same y.1 z = true) : newP dst D (pre ++ [y]) = newP dst D pre := by
  unfold newP
  rw [List.map_append, List.filter_append]
  rcases h with h | ⟨z, hz, h⟩
  · have h4 : (y.1.node == dst) = true := by simpa using h
    simp [h4]
  · have h3 : (D.any fun z => same y.1 z) = true := List.any_eq_true.2 ⟨z, hz, h⟩
    simp [h3]
theorem newP_len (dst : Int) (D : List Lab) (pre : List (Lab × Hop)) : (newP dst D pre).length ≤ pre.length := by
  unfold newP
  refine Nat.le_trans (List.length_filter_le _ _) ?_
  rw [List.length_map]
  exact Nat.le_refl _
/-- the first rooms' labels at the start -/
def stL (src ready : Int) (l : List Spn) : List Lab := (l.filter fun r => decide (r.frm ≤ ready) && decide (ready < r.til)).map fun r => ⟨src, r.frm, r.til, ready⟩
theorem stL_snoc (src ready : Int) (l : List Spn) (r : Spn) : stL src ready (l ++ [r]) = if r.frm ≤ ready ∧ ready < r.til then stL src ready l ++ [⟨src, r.frm, r.til, ready⟩] else stL src ready l := by
  unfold stL
  rw [List.filter_append, List.map_append]
  split
  · rename_i h
    simp [h.1, h.2]
  · rename_i h
    by_cases h1 : r.frm ≤ ready
    · have h2 : ¬ ready < r.til := fun h2 => h ⟨h1, h2⟩
      simp [h2]
    · simp [h1]
end Go.Proofs.YtebkgbmijocdjaaGreat.Tp
