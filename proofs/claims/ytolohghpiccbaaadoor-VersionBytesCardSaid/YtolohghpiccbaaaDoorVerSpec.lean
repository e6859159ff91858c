/- Version vectors as plain functions on lists of integers, and what the laws say of them. No program is in sight here. -/
import Derived.WalkKit
namespace Go.Proofs.YtolohghpiccbaaaDoor.Ver

def top : Int := 1099511627776
def okn (x : Int) : Bool := decide (0 ≤ x) && decide (x ≤ top)
/-- why a list is no vector -/
def chk (l : List Int) : Int := if 1 ≤ l.length ∧ l.length ≤ 16 then (if l.all okn then 0 else 2) else 4
def fit (a b : List Int) : Int := if chk a = 0 ∧ chk b = 0 then (if a.length = b.length then 0 else 10) else 1
def joinL (a b : List Int) : List Int := if fit a b = 0 then List.zipWith max a b else []
def meetL (a b : List Int) : List Int := if fit a b = 0 then List.zipWith min a b else []
def at' (l : List Int) (i : Nat) : Int := l[i]?.getD 0
def tickE (v : List Int) (i : Int) : Int := if chk v = 0 then (if 0 ≤ i ∧ i < v.length then (if at' v i.toNat = top then 5 else 0) else 2) else 1
def tickL (v : List Int) (i : Int) : List Int := if tickE v i = 0 then v.set i.toNat (at' v i.toNat + 1) else []
def cov (v : List Int) (i c : Int) : Bool := decide (chk v = 0 ∧ 0 ≤ i ∧ i < v.length ∧ c ≤ at' v i.toNat)
/-- the first k elements are at most those of the other -/
def leK (a b : List Int) : Nat → Bool
  | 0 => true
  | k + 1 => leK a b k && decide (at' a k ≤ at' b k)
def leB (a b : List Int) : Bool := leK a b a.length
def cmpOf : Bool → Bool → Int
  | true, true => 0
  | true, false => 1
  | false, true => 2
  | false, false => 3
def cmpV (a b : List Int) : Int := if fit a b = 0 then cmpOf (leB a b) (leB b a) else 0

theorem leK_iff (a b : List Int) : ∀ k, leK a b k = true ↔ ∀ j, j < k → at' a j ≤ at' b j
  | 0 => by simp [leK]
  | k + 1 => by
    rw [leK, Bool.and_eq_true, leK_iff a b k, decide_eq_true_iff]
    constructor
    · rintro ⟨h1, h2⟩ j hj
      by_cases e : j = k
      · subst e; exact h2
      · exact h1 j (by omega)
    · intro h
      exact ⟨fun j hj => h j (by omega), h k (by omega)⟩
theorem leB_iff (a b : List Int) : leB a b = true ↔ ∀ j, j < a.length → at' a j ≤ at' b j := leK_iff a b _

theorem at_ext {a b : List Int} (hl : a.length = b.length) (h : ∀ j, j < a.length → at' a j = at' b j) : a = b := by
  apply List.ext_getElem hl
  intro j h1 h2
  have := h j h1
  simpa [at', List.getElem?_eq_getElem h1, List.getElem?_eq_getElem h2] using this
theorem at_zip (f : Int → Int → Int) (a b : List Int) (j : Nat) (h1 : j < a.length) (h2 : j < b.length) : at' (List.zipWith f a b) j = f (at' a j) (at' b j) := by
  simp [at', List.getElem?_zipWith, List.getElem?_eq_getElem h1, List.getElem?_eq_getElem h2]

theorem all_iff (l : List Int) : l.all okn = true ↔ ∀ j, j < l.length → 0 ≤ at' l j ∧ at' l j ≤ top := by
  rw [List.all_eq_true]
  constructor
  · intro h j hj
    have := h l[j] (List.getElem_mem hj)
    simpa [at', List.getElem?_eq_getElem hj, okn] using this
  · intro h x hx
    obtain ⟨j, hj, rfl⟩ := List.getElem_of_mem hx
    simpa [at', List.getElem?_eq_getElem hj, okn] using h j hj

/-- a vector -/
def Vec (n : Nat) (l : List Int) : Prop := l.length = n ∧ 1 ≤ n ∧ n ≤ 16 ∧ ∀ j, j < n → 0 ≤ at' l j ∧ at' l j ≤ top
theorem chk_iff (l : List Int) : chk l = 0 ↔ Vec l.length l := by
  unfold chk Vec
  rw [← all_iff]
  by_cases h : 1 ≤ l.length ∧ l.length ≤ 16
  · rw [if_pos h]
    by_cases h2 : l.all okn = true
    · rw [if_pos h2]; exact ⟨fun _ => ⟨rfl, h.1, h.2, h2⟩, fun _ => rfl⟩
    · rw [if_neg h2]; exact ⟨fun e => absurd e (by decide), fun e => absurd e.2.2.2 h2⟩
  · rw [if_neg h]; exact ⟨fun e => absurd e (by decide), fun e => absurd ⟨e.2.1, e.2.2.1⟩ h⟩
theorem Vec.chk {n : Nat} {l : List Int} (h : Vec n l) : chk l = 0 := (chk_iff l).2 (by have := h.1; rw [this]; exact h)
theorem Vec.fit {n : Nat} {a b : List Int} (h : Vec n a) (k : Vec n b) : fit a b = 0 := by
  unfold Ver.fit; rw [if_pos ⟨h.chk, k.chk⟩, if_pos (h.1.trans k.1.symm)]
theorem Vec.zip {n : Nat} {a b : List Int} (f : Int → Int → Int) (hf : ∀ x y, 0 ≤ x → x ≤ top → 0 ≤ y → y ≤ top → 0 ≤ f x y ∧ f x y ≤ top) (h : Vec n a) (k : Vec n b) : Vec n (List.zipWith f a b) := by
  refine ⟨by simp [h.1, k.1], h.2.1, h.2.2.1, fun j hj => ?_⟩
  rw [at_zip f a b j (by rw [h.1]; exact hj) (by rw [k.1]; exact hj)]
  have h1 := h.2.2.2 j hj
  have h2 := k.2.2.2 j hj
  exact hf _ _ h1.1 h1.2 h2.1 h2.2
theorem Vec.joinE {n : Nat} {a b : List Int} (h : Vec n a) (k : Vec n b) : joinL a b = List.zipWith max a b := by unfold joinL; rw [if_pos (h.fit k)]
theorem Vec.meetE {n : Nat} {a b : List Int} (h : Vec n a) (k : Vec n b) : meetL a b = List.zipWith min a b := by unfold meetL; rw [if_pos (h.fit k)]
theorem Vec.join {n : Nat} {a b : List Int} (h : Vec n a) (k : Vec n b) : Vec n (joinL a b) := by
  rw [h.joinE k]; exact h.zip max (fun x y _ _ _ _ => by omega) k
theorem Vec.meet {n : Nat} {a b : List Int} (h : Vec n a) (k : Vec n b) : Vec n (meetL a b) := by
  rw [h.meetE k]; exact h.zip min (fun x y _ _ _ _ => by omega) k
theorem Vec.join_at {n : Nat} {a b : List Int} (h : Vec n a) (k : Vec n b) (j : Nat) (hj : j < n) : at' (joinL a b) j = max (at' a j) (at' b j) := by
  rw [h.joinE k, at_zip max a b j (by rw [h.1]; exact hj) (by rw [k.1]; exact hj)]
theorem Vec.meet_at {n : Nat} {a b : List Int} (h : Vec n a) (k : Vec n b) (j : Nat) (hj : j < n) : at' (meetL a b) j = min (at' a j) (at' b j) := by
  rw [h.meetE k, at_zip min a b j (by rw [h.1]; exact hj) (by rw [k.1]; exact hj)]
theorem Vec.ext {n : Nat} {a b : List Int} (h : Vec n a) (k : Vec n b) (e : ∀ j, j < n → at' a j = at' b j) : a = b :=
  at_ext (h.1.trans k.1.symm) (fun j hj => e j (by rw [← h.1]; exact hj))
theorem Vec.le {n : Nat} {a : List Int} (h : Vec n a) (b : List Int) : leB a b = true ↔ ∀ j, j < n → at' a j ≤ at' b j := by rw [leB_iff, h.1]

/-! ### the lattice -/
section
variable {n : Nat} {a b c : List Int} (ha : Vec n a) (hb : Vec n b) (hc : Vec n c)
include ha hb
theorem join_comm : joinL a b = joinL b a := (ha.join hb).ext (hb.join ha) (fun j hj => by rw [ha.join_at hb j hj, hb.join_at ha j hj]; omega)
theorem meet_comm : meetL a b = meetL b a := (ha.meet hb).ext (hb.meet ha) (fun j hj => by rw [ha.meet_at hb j hj, hb.meet_at ha j hj]; omega)
theorem join_absorb : joinL a (meetL a b) = a := (ha.join (ha.meet hb)).ext ha (fun j hj => by rw [ha.join_at (ha.meet hb) j hj, ha.meet_at hb j hj]; omega)
theorem meet_absorb : meetL a (joinL a b) = a := (ha.meet (ha.join hb)).ext ha (fun j hj => by rw [ha.meet_at (ha.join hb) j hj, ha.join_at hb j hj]; omega)
include hc
theorem join_assoc : joinL (joinL a b) c = joinL a (joinL b c) := ((ha.join hb).join hc).ext (ha.join (hb.join hc)) (fun j hj => by rw [(ha.join hb).join_at hc j hj, ha.join_at hb j hj, ha.join_at (hb.join hc) j hj, hb.join_at hc j hj]; omega)
theorem meet_assoc : meetL (meetL a b) c = meetL a (meetL b c) := ((ha.meet hb).meet hc).ext (ha.meet (hb.meet hc)) (fun j hj => by rw [(ha.meet hb).meet_at hc j hj, ha.meet_at hb j hj, ha.meet_at (hb.meet hc) j hj, hb.meet_at hc j hj]; omega)
end
theorem join_self {n : Nat} {a : List Int} (ha : Vec n a) : joinL a a = a := (ha.join ha).ext ha (fun j hj => by rw [ha.join_at ha j hj]; omega)
theorem meet_self {n : Nat} {a : List Int} (ha : Vec n a) : meetL a a = a := (ha.meet ha).ext ha (fun j hj => by rw [ha.meet_at ha j hj]; omega)

/-! ### the order -/
section
variable {n : Nat} {a b c : List Int} (ha : Vec n a) (hb : Vec n b) (hc : Vec n c)
include ha hb
theorem le_join_left : leB a (joinL a b) = true := (ha.le _).2 (fun j hj => by rw [ha.join_at hb j hj]; omega)
theorem le_join_right : leB b (joinL a b) = true := (hb.le _).2 (fun j hj => by rw [ha.join_at hb j hj]; omega)
theorem meet_le_left : leB (meetL a b) a = true := ((ha.meet hb).le _).2 (fun j hj => by rw [ha.meet_at hb j hj]; omega)
theorem meet_le_right : leB (meetL a b) b = true := ((ha.meet hb).le _).2 (fun j hj => by rw [ha.meet_at hb j hj]; omega)
theorem le_antisymm : leB a b = true → leB b a = true → a = b := fun h k => ha.ext hb (fun j hj => by have := (ha.le b).1 h j hj; have := (hb.le a).1 k j hj; omega)
theorem le_iff_join : leB a b = decide (joinL a b = b) := by
  rw [Bool.eq_iff_iff, decide_eq_true_iff, ha.le]
  constructor
  · intro h
    exact (ha.join hb).ext hb (fun j hj => by rw [ha.join_at hb j hj]; have := h j hj; omega)
  · intro h j hj
    have := ha.join_at hb j hj
    rw [h] at this
    omega
omit hb in
theorem le_refl : leB a a = true := (ha.le a).2 (fun _ _ => Int.le_refl _)
theorem join_least : (leB a c && leB b c) = leB (joinL a b) c := by
  rw [Bool.eq_iff_iff, Bool.and_eq_true, ha.le, hb.le, (ha.join hb).le]
  constructor
  · rintro ⟨h, k⟩ j hj
    rw [ha.join_at hb j hj]
    have := h j hj; have := k j hj; omega
  · intro h
    exact ⟨fun j hj => by have := h j hj; rw [ha.join_at hb j hj] at this; omega, fun j hj => by have := h j hj; rw [ha.join_at hb j hj] at this; omega⟩
include hc
theorem meet_greatest : (leB c a && leB c b) = leB c (meetL a b) := by
  rw [Bool.eq_iff_iff, Bool.and_eq_true, hc.le, hc.le, hc.le]
  constructor
  · rintro ⟨h, k⟩ j hj
    rw [ha.meet_at hb j hj]
    have := h j hj; have := k j hj; omega
  · intro h
    exact ⟨fun j hj => by have := h j hj; rw [ha.meet_at hb j hj] at this; omega, fun j hj => by have := h j hj; rw [ha.meet_at hb j hj] at this; omega⟩
end
theorem cmp_of {n : Nat} {a b : List Int} (ha : Vec n a) (hb : Vec n b) : cmpV a b = cmpOf (leB a b) (leB b a) := by unfold cmpV; rw [if_pos (ha.fit hb)]

/-! ### ticks -/
theorem at_set (v : List Int) (i j : Nat) (x : Int) (hi : i < v.length) : at' (v.set i x) j = if i = j then x else at' v j := by
  unfold at'
  by_cases e : i = j
  · subst e; rw [if_pos rfl, List.getElem?_set_self hi]; rfl
  · rw [if_neg e, List.getElem?_set_ne e]
theorem tick_ok {n : Nat} {v : List Int} {i : Nat} (hv : Vec n v) (hi : i < n) (ht : at' v i ≠ top) : tickE v i = 0 := by
  unfold tickE
  rw [if_pos hv.chk, if_pos ⟨by omega, by rw [hv.1]; omega⟩, if_neg (by simpa using ht)]
theorem tick_over {n : Nat} {v : List Int} {i : Nat} (hv : Vec n v) (hi : i < n) (ht : at' v i = top) : tickE v i = 5 := by
  unfold tickE
  rw [if_pos hv.chk, if_pos ⟨by omega, by rw [hv.1]; omega⟩, if_pos (by simpa using ht)]
theorem tick_list {n : Nat} {v : List Int} {i : Nat} (hv : Vec n v) (hi : i < n) (ht : at' v i ≠ top) : tickL v i = v.set i (at' v i + 1) := by
  unfold tickL
  rw [if_pos (tick_ok hv hi ht)]; rfl
theorem tick_at {n : Nat} {v : List Int} {i : Nat} (hv : Vec n v) (hi : i < n) (ht : at' v i ≠ top) (j : Nat) : at' (tickL v i) j = if i = j then at' v i + 1 else at' v j := by
  rw [tick_list hv hi ht, at_set _ _ _ _ (by rw [hv.1]; exact hi)]
theorem tick_vec {n : Nat} {v : List Int} {i : Nat} (hv : Vec n v) (hi : i < n) (ht : at' v i ≠ top) : Vec n (tickL v i) := by
  refine ⟨by rw [tick_list hv hi ht, List.length_set]; exact hv.1, hv.2.1, hv.2.2.1, fun j hj => ?_⟩
  rw [tick_at hv hi ht]
  have h1 := hv.2.2.2 j hj
  have h2 := hv.2.2.2 i hi
  have h3 : at' v i < top := by omega
  split <;> omega
theorem cov_vec {n : Nat} {v : List Int} (hv : Vec n v) (i c : Int) : cov v i c = decide (0 ≤ i ∧ i < n ∧ c ≤ at' v i.toNat) := by
  unfold cov
  rw [Bool.eq_iff_iff, decide_eq_true_iff, decide_eq_true_iff, hv.1]
  exact ⟨fun h => h.2, fun h => ⟨hv.chk, h⟩⟩
theorem cov_join {n : Nat} {a b : List Int} (ha : Vec n a) (hb : Vec n b) (i c : Int) : cov (joinL a b) i c = (cov a i c || cov b i c) := by
  rw [cov_vec (ha.join hb), cov_vec ha, cov_vec hb, Bool.eq_iff_iff, Bool.or_eq_true, decide_eq_true_iff, decide_eq_true_iff, decide_eq_true_iff]
  by_cases h : 0 ≤ i ∧ i < n
  · rw [ha.join_at hb i.toNat (by omega)]; omega
  · omega
theorem cov_meet {n : Nat} {a b : List Int} (ha : Vec n a) (hb : Vec n b) (i c : Int) : cov (meetL a b) i c = (cov a i c && cov b i c) := by
  rw [cov_vec (ha.meet hb), cov_vec ha, cov_vec hb, Bool.eq_iff_iff, Bool.and_eq_true, decide_eq_true_iff, decide_eq_true_iff, decide_eq_true_iff]
  by_cases h : 0 ≤ i ∧ i < n
  · rw [ha.meet_at hb i.toNat (by omega)]; omega
  · omega
theorem tick_after {n : Nat} {v : List Int} {i : Nat} (hv : Vec n v) (hi : i < n) (ht : at' v i ≠ top) : cmpV (tickL v i) v = 2 := by
  have h1 : leB (tickL v i) v = false := by
    rw [Bool.eq_false_iff]
    intro h
    have := ((tick_vec hv hi ht).le v).1 h i hi
    rw [tick_at hv hi ht, if_pos rfl] at this
    omega
  have h2 : leB v (tickL v i) = true := (hv.le _).2 (fun j hj => by rw [tick_at hv hi ht]; by_cases e : i = j; (subst e; rw [if_pos rfl]; omega); (rw [if_neg e]; omega))
  rw [cmp_of (tick_vec hv hi ht) hv, h1, h2]; rfl
theorem tick_apart {n : Nat} {v : List Int} {i k : Nat} (hv : Vec n v) (hi : i < n) (hk : k < n) (hne : i ≠ k) (hti : at' v i ≠ top) (htk : at' v k ≠ top) : cmpV (tickL v i) (tickL v k) = 3 := by
  have h1 : leB (tickL v i) (tickL v k) = false := by
    rw [Bool.eq_false_iff]
    intro h
    have := ((tick_vec hv hi hti).le _).1 h i hi
    rw [tick_at hv hi hti, if_pos rfl, tick_at hv hk htk, if_neg (Ne.symm hne)] at this
    omega
  have h2 : leB (tickL v k) (tickL v i) = false := by
    rw [Bool.eq_false_iff]
    intro h
    have := ((tick_vec hv hk htk).le _).1 h k hk
    rw [tick_at hv hk htk, if_pos rfl, tick_at hv hi hti, if_neg hne] at this
    omega
  rw [cmp_of (tick_vec hv hi hti) (tick_vec hv hk htk), h1, h2]; rfl
theorem tick_both {n : Nat} {v : List Int} {i k : Nat} (hv : Vec n v) (hi : i < n) (hk : k < n) (hne : i ≠ k) (hti : at' v i ≠ top) (htk : at' v k ≠ top) :
    joinL (tickL v i) (tickL v k) = tickL (tickL v i) k ∧ at' (tickL v i) k ≠ top := by
  have e : at' (tickL v i) k ≠ top := by rw [tick_at hv hi hti, if_neg hne]; exact htk
  refine ⟨((tick_vec hv hi hti).join (tick_vec hv hk htk)).ext (tick_vec (tick_vec hv hi hti) hk e) (fun j hj => ?_), e⟩
  rw [(tick_vec hv hi hti).join_at (tick_vec hv hk htk) j hj, tick_at (tick_vec hv hi hti) hk e, tick_at hv hi hti, tick_at hv hk htk, tick_at hv hi hti, if_neg hne]
  by_cases e1 : i = j
  · subst e1; rw [if_pos rfl, if_neg (Ne.symm hne), if_neg (Ne.symm hne)]; omega
  · by_cases e2 : k = j
    · subst e2; simp only [if_neg e1, if_pos]; omega
    · simp only [if_neg e1, if_neg e2]; omega
end Go.Proofs.YtolohghpiccbaaaDoor.Ver
