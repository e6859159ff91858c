/- Memory words for the whole-program laws: blocks that are known whole, slices of any element in memory, appending to a slice of the call's own. No condition.
The data of plans, bookings, holds, requests, hops and labels as plain data, how they lie in cells, and what valid ones are. No condition. -/
import Derived.WalkKit
import Derived.ProofKit
import Derived.Handy
import Derived.Lib.Hide
import Derived.WalkSpells
import Derived.WalkLawsBesides
import Derived.Maps.AppendAt
import Derived.RangeFuncBox
import Derived.IntWalk
import Derived.OwnWalk
import Derived.Deep.QuietTactic
import Derived.BigQuiet
import Derived.Deep.RegionHeld3
import Derived.Test.YtebkgbmijocdjaaGreatRows
namespace Go.Proofs.YtebkgbmijocdjaaGreat
open Go Go.RowKit Go.ChangeShapes Go.WideShapes Go.ChangeAt

/-- Block g of the heap is just these cells of type t, none of them frozen. -/
def Bk (w : World) (g : Nat) (t : TypeId) (cs : Array Value) : Prop := w.heap[g]? = some (.cells cs t (0, 0))
theorem Bk.lt {w : World} {g : Nat} {t : TypeId} {cs : Array Value} (h : Bk w g t cs) : g < w.heap.size :=
  (Array.getElem?_eq_some_iff.1 (show w.heap[g]? = some _ from h)).1
theorem Bk.cell {w : World} {g : Nat} {t : TypeId} {cs : Array Value} (h : Bk w g t cs) (i : Nat) : w.cell? ⟨g, i, none⟩ = cs[i]? := by
  unfold Bk at h; simp [World.cell?, h]
theorem Bk.free {w : World} {g : Nat} {t : TypeId} {cs : Array Value} (h : Bk w g t cs) (i : Nat) : w.frozen? ⟨g, i, none⟩ = false := by
  unfold Bk at h; simp [World.frozen?, h]
theorem Bk.new (w : World) (t : TypeId) (cs : Array Value) : Bk (w.alloc (.cells cs t)) w.heap.size t cs := heap_alloc_new w _
theorem Bk.drewN {w : World} {g : Nat} {t : TypeId} {cs : Array Value} (h : Bk w g t cs) (n : Nat) : Bk (w.drewN n) g t cs := h
theorem Bk.alloc {w : World} {g : Nat} {t : TypeId} {cs : Array Value} (h : Bk w g t cs) (o : Obj) : Bk (w.alloc o) g t cs := (Below.heap_alloc w o g h.lt).trans h
theorem Bk.put {w : World} {g : Nat} {t : TypeId} {cs : Array Value} (h : Bk w g t cs) (i : Nat) (u : Value) : Bk (w.setCell ⟨g, i, none⟩ u) g t (cs.setIfInBounds i u) := by
  unfold Bk at h ⊢; simp [World.setCell, Array.getElem?_modify, h]
theorem Bk.other {w : World} {g : Nat} {t : TypeId} {cs : Array Value} (h : Bk w g t cs) {p : Addr} (hp : g ≠ p.block) (u : Value) : Bk (w.setCell p u) g t cs := (Below.heap_setCell w p u g hp).trans h
theorem Bk.below {w w' : World} {g B : Nat} {t : TypeId} {cs : Array Value} (h : Bk w g t cs) (hb : Below B w w') (hg : g < B) : Bk w' g t cs := (hb.block g hg).trans h
theorem Bk.grown {w w' : World} {g : Nat} {t : TypeId} {cs : Array Value} {row : Option Nat} (h : Bk w g t cs) (hb : w.grownBy w' row) (hne : some g ≠ row) : Bk w' g t cs := (hb.block g h.lt hne).trans h
theorem grown_below {a w : World} (h : Below a.heap.size a w) (row : Option Nat) : a.grownBy w row := ⟨h.os, h.tape, h.output, h.size, fun i hi _ => h.block i hi⟩
theorem grown_put (w : World) (g i : Nat) (u : Value) : w.grownBy (w.setCell ⟨g, i, none⟩ u) (some g) :=
  ⟨rfl, rfl, rfl, by simp [World.setCell], fun k _ hne => Below.heap_setCell _ _ _ _ (fun e => hne (by rw [e]))⟩
theorem below_grown {a w w' : World} {B g : Nat} (h : Below B a w) (k : w.grownBy w' (some g)) (hB : B ≤ g) (hs : B ≤ w.heap.size) : Below B a w' :=
  h.grown k hs (fun _ e => by cases e; exact hB)
theorem below_drawN {B : Nat} {a w : World} (h : Below B a w) (n : Nat) : Below B a (w.drewN n) := ⟨h.os, h.tape, h.output, h.size, h.block⟩
/-- The two rules that carry all elder cells and marks behind a call that leaves 'Below'. -/
theorem old_cells {W w1 : World} (hb : Below W.heap.size W w1) : (∀ b o, b < W.heap.size → w1.cell? ⟨b, o, none⟩ = W.cell? ⟨b, o, none⟩) ∧ (∀ b o, b < W.heap.size → w1.frozen? ⟨b, o, none⟩ = W.frozen? ⟨b, o, none⟩) :=
  ⟨fun b o h => hb.cell (p := ⟨b, o, none⟩) h, fun b o h => hb.frozen (p := ⟨b, o, none⟩) h⟩
theorem ret_i {k : IntKind} {a b : Int} (h : a = b) : Ending.returned (.int k a) = .returned (.int k b) := by rw [h]
theorem ret_b {a b : Bool} (h : a = b) : Ending.returned (.bool a) = .returned (.bool b) := by rw [h]
theorem upon_as {P : Program} {o : Oper} {a : Act} {X : Result Next} {K : Act → World → Prop} {Q : Exit → Act → World → Prop} (Y : Result Next) (e : X = Y) (h : Oper.upon P o a K Q Y) : Oper.upon P o a K Q X := by rw [e]; exact h

/-! What a call answers. -/
/-- an error number, 0 just where P holds -/
def RetErr (P : Prop) (w : World) (e : Ending) (w' : World) : Prop := ∃ q : Int, e = .returned (.int .i64 q) ∧ (q = 0 ↔ P) ∧ Below w.heap.size w w'
theorem retErr_yes {P : Prop} {w w' : World} (h : P) (hb : Below w.heap.size w w') : RetErr P w (.returned (.int .i64 0)) w' := ⟨0, rfl, ⟨fun _ => h, fun _ => rfl⟩, hb⟩
theorem retErr_no {P : Prop} {w w' : World} {q : Int} (hq : q ≠ 0) (h : ¬ P) (hb : Below w.heap.size w w') : RetErr P w (.returned (.int .i64 q)) w' := ⟨q, rfl, ⟨fun c => absurd c hq, fun c => absurd c h⟩, hb⟩
/-- a truth value, true just where P holds -/
def RetIff (P : Prop) (w : World) (e : Ending) (w' : World) : Prop := ∃ b : Bool, e = .returned (.bool b) ∧ (b = true ↔ P) ∧ Below w.heap.size w w'
theorem retIff_of {P : Prop} {w w' : World} {b : Bool} (h : b = true ↔ P) (hb : Below w.heap.size w w') : RetIff P w (.returned (.bool b)) w' := ⟨b, rfl, h, hb⟩

/-! Slices of elements of k cells. -/
/-- how an element lies in cells -/
structure Enc (α : Type) where
  k : Nat
  f : α → List Value
  len : ∀ x, (f x).length = k
  one : ∀ x, ∀ v ∈ f x, v.oneCell' = true
/-- The first elements of a slice at A are these. -/
def SlAt {α : Type} (E : Enc α) (w : World) (A : Option Addr) (l : List α) : Prop := ∀ j r, l[j]? = some r → ∃ b off, A = some ⟨b, off, none⟩ ∧ w.rangeAt b (off + j * E.k) (E.f r)
section
variable {α : Type} {E : Enc α}
theorem range_below {w w' : World} {b o : Nat} {cs : List Value} (h : w.rangeAt b o cs) (hb : Below w.heap.size w w') : w'.rangeAt b o cs := fun j v hv =>
  (hb.cell (p := ⟨b, o + j, none⟩) (World.block_lt_of_cell? _ _ (h j v hv))).trans (h j v hv)
theorem cell_heap {w w' : World} {a : Addr} (h : w'.heap = w.heap) : w'.cell? a = w.cell? a := by unfold World.cell?; rw [h]
theorem range_heap {w w' : World} {b o : Nat} {cs : List Value} (h : w'.heap = w.heap) (hr : w.rangeAt b o cs) : w'.rangeAt b o cs := fun j v hv => (cell_heap h).trans (hr j v hv)
theorem bk_heap {w w' : World} {g : Nat} {t : TypeId} {cs : Array Value} (h : w'.heap = w.heap) (hb : Bk w g t cs) : Bk w' g t cs := by unfold Bk at hb ⊢; rw [h]; exact hb
theorem SlAt.below {w w' : World} {A : Option Addr} {l : List α} (h : SlAt E w A l) (hb : Below w.heap.size w w') : SlAt E w' A l := fun k r hk => by
  obtain ⟨b, off, hA, hr⟩ := h k r hk
  exact ⟨b, off, hA, range_below hr hb⟩
theorem SlAt.nil (w : World) (A : Option Addr) : SlAt E w A [] := fun k r h => by simp at h
theorem SlAt.heap {w w' : World} {A : Option Addr} {l : List α} (h : SlAt E w A l) (he : w'.heap = w.heap) : SlAt E w' A l := fun k r hk => by
  obtain ⟨b, off, hA, hr⟩ := h k r hk
  exact ⟨b, off, hA, range_heap he hr⟩
theorem SlAt.take {w : World} {A : Option Addr} {l : List α} (h : SlAt E w A l) (n : Nat) : SlAt E w A (l.take n) := fun k r hk => h k r (by
  rw [List.getElem?_take] at hk
  split at hk
  · exact hk
  · simp at hk)
/-- the address of the elements -/
theorem SlAt.one {w : World} {A : Option Addr} {l : List α} (h : SlAt E w A l) (hl : 0 < l.length) : ∃ b off, A = some ⟨b, off, none⟩ ∧ ∀ k r, l[k]? = some r → w.rangeAt b (off + k * E.k) (E.f r) := by
  obtain ⟨b, off, hA, _⟩ := h 0 l[0] (List.getElem?_eq_getElem hl)
  refine ⟨b, off, hA, fun k r hk => ?_⟩
  obtain ⟨b', off', hA', hr⟩ := h k r hk
  rw [hA] at hA'
  cases hA'
  exact hr
theorem loadCells_range {P : Program} {w : World} {b o n : Nat} {cs : List Value} (h : w.rangeAt b o cs) (hn : cs.length = n) : (loadCellsFrom ⟨b, o, none⟩ 0 n #[]).run P w = .ok cs.toArray w := by
  have := run_loadCells_list (P := P) w ⟨b, o, none⟩ cs (fun j v hv => by rw [Addr.add_mid]; exact h j v hv)
  rw [hn] at this
  simpa [loadCells] using this
theorem flat_get : ∀ (L : List α) (k : Nat) (r : α), L[k]? = some r → ∀ j v, (E.f r)[j]? = some v → (L.flatMap E.f)[k * E.k + j]? = some v
  | [], k, r, h, _, _, _ => by simp at h
  | x :: L, 0, r, h, j, v, hv => by
    simp only [List.getElem?_cons_zero, Option.some.injEq] at h
    subst h
    have hj : j < (E.f x).length := (List.getElem?_eq_some_iff.1 hv).1
    rw [List.flatMap_cons, Nat.zero_mul, Nat.zero_add, List.getElem?_append_left hj]
    exact hv
  | x :: L, k + 1, r, h, j, v, hv => by
    have hl := E.len x
    have e : (k + 1) * E.k + j = E.k + (k * E.k + j) := by rw [Nat.succ_mul]; omega
    rw [List.flatMap_cons, e, List.getElem?_append_right (by omega), hl, Nat.add_sub_cancel_left]
    exact flat_get L k r (by simpa using h) j v hv
theorem flat_len : ∀ L : List α, (L.flatMap E.f).length = L.length * E.k
  | [] => by simp
  | x :: L => by
    rw [List.flatMap_cons, List.length_append, flat_len L, List.length_cons, E.len, Nat.succ_mul]; omega
/-- a row of the call's own reads as a slice -/
theorem sl_of_row {w : World} {base : Nat} {t : TypeId} {v : Value} {L : List α} (h : w.ownsRow base t E.k v L.length (L.flatMap E.f)) : ∃ A c, v = .slice A L.length c ∧ SlAt E w A L ∧ L.length ≤ c := by
  have hc := fun g hg => h.cells (g := g) hg
  rcases h.2 with ⟨rfl, h0⟩ | ⟨g, cap, cur, rfl, _, _, hcap, _⟩
  · have : L = [] := List.eq_nil_of_length_eq_zero h0
    subst this
    exact ⟨none, 0, rfl, SlAt.nil _ _, Nat.le_refl _⟩
  · refine ⟨_, cap, rfl, fun k r hk => ⟨g, 0, rfl, fun j u hu => ?_⟩, hcap⟩
    have := hc g rfl _ u (flat_get L k r hk j u hu)
    rw [Addr.add_mid] at this
    rw [Nat.add_assoc]
    exact this
theorem row_next {w W : World} {base : Nat} {t : TypeId} {k n : Nat} {v : Value} {xs : List Value} (h : w.ownsRow base t k v n xs) (hb : Below w.heap.size w W) : W.ownsRow base t k v n xs :=
  h.kept (grown_below hb none) (by
    cases hv : v.ownBlock with
    | none => exact Or.inl rfl
    | some g => exact Or.inr (by simp))
theorem SlAt.tail {w : World} {b off : Nat} {l : List α} (h : SlAt E w (some ⟨b, off, none⟩) l) (k : Nat) : SlAt E w (some ⟨b, off + k * E.k, none⟩) (l.drop k) := fun j r hj => by
  rw [List.getElem?_drop] at hj
  obtain ⟨b', off', hA, hr⟩ := h (k + j) r hj
  cases hA
  refine ⟨b, off + k * E.k, rfl, ?_⟩
  rw [show off + k * E.k + j * E.k = off + (k + j) * E.k by rw [Nat.add_mul]; omega]
  exact hr
end
theorem take_snoc {α : Type} {l : List α} {k : Nat} {r : α} (h : l[k]? = some r) : l.take (k + 1) = l.take k ++ [r] := by
  obtain ⟨hk, he⟩ := List.getElem?_eq_some_iff.1 h
  rw [List.take_succ_eq_append_getElem hk, he]
/-! What a drawn region with calls that make memory carries along. -/
theorem held_start {S : World → Prop} {W w' : World} (HD : Hid (∀ w', Below W.heap.size W w' → S w')) (h : Below W.heap.size W w') : S w' ∧ Hid (Below W.heap.size W w') := ⟨HD.out _ h, h⟩
theorem held_step {S : World → Prop} {W w' w4 : World} (HD : Hid (∀ w', Below W.heap.size W w' → S w')) (h : Hid (Below W.heap.size W w')) (hb : Below w'.heap.size w' w4) : S w4 ∧ Hid (Below W.heap.size W w4) :=
  held_start HD (h.out.trans (hb.mono h.out.size))
theorem below_one {w w4 : World} {o : Obj} (h : w4 = w.alloc o) : Below w.heap.size w w4 := by rw [h]; exact (Below.refl _ _).alloc (Nat.le_refl _) _
theorem below_next {w w1 w2 : World} (h : Below w.heap.size w w1) (hb : Below w1.heap.size w1 w2) : Below w.heap.size w w2 := h.trans (hb.mono h.size)
end Go.Proofs.YtebkgbmijocdjaaGreat
namespace Go.Proofs.YtebkgbmijocdjaaGreat.Tp
open Go Go.RowKit

abbrev iv (n : Int) : Value := .int .i64 n
structure Ct where
  src : Int
  dst : Int
  beg : Int
  fin : Int
  rate : Int
  rng : Int
  loss : Int
  deriving DecidableEq
structure Bkg where
  ct : Int
  beg : Int
  fin : Int
  tick : Int
  deriving DecidableEq
structure Hld where
  node : Int
  frm : Int
  til : Int
  size : Int
  tick : Int
  deriving DecidableEq
structure Hop where
  ct : Int
  beg : Int
  fin : Int
  arr : Int
  deriving DecidableEq
structure Lab where
  node : Int
  frm : Int
  til : Int
  time : Int
  deriving DecidableEq
structure Spn where
  frm : Int
  til : Int
  deriving DecidableEq
structure Lvl where
  at_ : Int
  val : Int
  deriving DecidableEq
structure Pln where
  q : List Int
  c : List Ct
structure Rq where
  src : Int
  dst : Int
  size : Int
  ready : Int
  dead : Int
  prio : Int
  cust : Bool
  deriving DecidableEq
structure Tbl where
  p : Pln
  b : List Bkg
  h : List Hld

abbrev ctL (c : Ct) : List Value := [iv c.src, iv c.dst, iv c.beg, iv c.fin, iv c.rate, iv c.rng, iv c.loss]
abbrev bkL (b : Bkg) : List Value := [iv b.ct, iv b.beg, iv b.fin, iv b.tick]
abbrev hdL (h : Hld) : List Value := [iv h.node, iv h.frm, iv h.til, iv h.size, iv h.tick]
abbrev hpL (h : Hop) : List Value := [iv h.ct, iv h.beg, iv h.fin, iv h.arr]
abbrev lbL (x : Lab) : List Value := [iv x.node, iv x.frm, iv x.til, iv x.time]
abbrev spL (x : Spn) : List Value := [iv x.frm, iv x.til]
abbrev lvL (x : Lvl) : List Value := [iv x.at_, iv x.val]
abbrev rqL (q : Rq) : List Value := [iv q.src, iv q.dst, iv q.size, iv q.ready, iv q.dead, iv q.prio, .bool q.cust]
theorem one_iv {l : List Int} : ∀ v ∈ l.map iv, v.oneCell' = true := fun v hv => by
  obtain ⟨n, _, rfl⟩ := List.mem_map.1 hv
  rfl
def intE : Enc Int := ⟨1, fun n => [iv n], fun _ => rfl, fun n => one_iv (l := [n])⟩
def ctE : Enc Ct := ⟨7, ctL, fun _ => rfl, fun c => one_iv (l := [c.src, c.dst, c.beg, c.fin, c.rate, c.rng, c.loss])⟩
def bkE : Enc Bkg := ⟨4, bkL, fun _ => rfl, fun b => one_iv (l := [b.ct, b.beg, b.fin, b.tick])⟩
def hdE : Enc Hld := ⟨5, hdL, fun _ => rfl, fun h => one_iv (l := [h.node, h.frm, h.til, h.size, h.tick])⟩
def hpE : Enc Hop := ⟨4, hpL, fun _ => rfl, fun h => one_iv (l := [h.ct, h.beg, h.fin, h.arr])⟩
def lbE : Enc Lab := ⟨4, lbL, fun _ => rfl, fun x => one_iv (l := [x.node, x.frm, x.til, x.time])⟩
def spE : Enc Spn := ⟨2, spL, fun _ => rfl, fun x => one_iv (l := [x.frm, x.til])⟩
def lvE : Enc Lvl := ⟨2, lvL, fun _ => rfl, fun x => one_iv (l := [x.at_, x.val])⟩

/-! Sizes of transmissions. -/
def ticks (c : Ct) (n : Int) : Int := (n + 8 + c.rate - 1) / c.rate
def passN (c : Ct) : Nat → Int → Int
  | 0, _ => 0
  | f + 1, n => if 0 < n then ticks c (min n 16) + passN c f (n - 16) else 0
def pass (c : Ct) (n : Int) : Int := passN c 4096 n
def dur (c : Ct) (n : Int) : Int := pass c n + c.loss * (2 * c.rng + 1 + ticks c 16)
/-! Valid contacts, plans, bookings, holds, requests. -/
def CtOK (c : Ct) : Prop := (0 ≤ c.src ∧ c.src ≤ 15) ∧ (0 ≤ c.dst ∧ c.dst ≤ 15) ∧ (1 ≤ c.rate ∧ c.rate ≤ 1000) ∧ (1 ≤ c.rng ∧ c.rng ≤ 1048576) ∧ (0 ≤ c.loss ∧ c.loss ≤ 16) ∧ c.src ≠ c.dst ∧ 0 ≤ c.beg ∧ c.beg < c.fin ∧ c.fin ≤ 1099511627776 - 2 * c.rng
def Ovl (a b : Ct) : Prop := a.src = b.src ∧ a.dst = b.dst ∧ max a.beg b.beg < min a.fin b.fin
def PlnOK (p : Pln) : Prop := (1 ≤ p.q.length ∧ p.q.length ≤ 16 ∧ p.c.length ≤ 64) ∧ (∀ x ∈ p.q, 0 ≤ x ∧ x ≤ 1073741824) ∧ (∀ c ∈ p.c, CtOK c ∧ c.src < p.q.length ∧ c.dst < p.q.length) ∧ p.c.Pairwise fun a b => ¬ Ovl b a
def BkgOK (p : Pln) (b : Bkg) : Prop := (0 ≤ b.tick ∧ b.tick ≤ 1152921504606846976) ∧ 0 ≤ b.ct ∧ ∃ c, p.c[b.ct.toNat]? = some c ∧ c.beg ≤ b.beg ∧ b.beg < b.fin ∧ b.fin ≤ c.fin
def bkLt (a b : Bkg) : Prop := a.ct < b.ct ∨ a.ct = b.ct ∧ a.beg < b.beg ∧ a.fin ≤ b.beg
def BksOK (p : Pln) (l : List Bkg) : Prop := l.length ≤ 512 ∧ (∀ b ∈ l, BkgOK p b) ∧ l.Pairwise bkLt
def HldOK (p : Pln) (h : Hld) : Prop := 0 ≤ h.node ∧ h.node < p.q.length ∧ 0 ≤ h.frm ∧ h.frm < h.til ∧ h.til ≤ 1099511627776 ∧ 1 ≤ h.size ∧ h.size ≤ 65536 ∧ 0 ≤ h.tick ∧ h.tick ≤ 1152921504606846976
def hdKey (h : Hld) : List Int := [h.node, h.frm, h.til, h.tick, h.size]
def cmpL : List Int → List Int → Int
  | [], _ => 0
  | _, [] => 0
  | a :: l, b :: m => if a < b then -1 else if b < a then 1 else cmpL l m
def hdLe (a b : Hld) : Prop := cmpL (hdKey a) (hdKey b) ≤ 0
/-- what the holds take at a node at a time -/
def used (l : List Hld) (n t : Int) : Int := ((l.filter fun h => decide (h.node = n ∧ h.frm ≤ t ∧ t < h.til)).map (·.size)).sum
def HdsOK (p : Pln) (l : List Hld) : Prop := l.length ≤ 512 ∧ (∀ h ∈ l, HldOK p h) ∧ l.Pairwise hdLe ∧ ∀ (n : Nat) (q : Int), p.q[n]? = some q → ∀ t, used l n t ≤ q
def TblOK (t : Tbl) : Prop := PlnOK t.p ∧ BksOK t.p t.b ∧ HdsOK t.p t.h
def RqOK (p : Pln) (q : Rq) : Prop := PlnOK p ∧ (0 ≤ q.src ∧ q.src < p.q.length) ∧ (0 ≤ q.dst ∧ q.dst < p.q.length) ∧ q.src ≠ q.dst ∧ (1 ≤ q.size ∧ q.size ≤ 65536) ∧ 0 ≤ q.ready ∧ q.ready ≤ q.dead ∧ q.dead ≤ 1099511627776 ∧ 0 ≤ q.prio ∧ q.prio ≤ 2

/-! What is known of a duration. -/
theorem ticks_bd {c : Ct} (h1 : 1 ≤ c.rate) (h2 : c.rate ≤ 1000) {n : Int} (h3 : 1 ≤ n) (h4 : n ≤ 16) : 1 ≤ ticks c n ∧ ticks c n ≤ 1023 := by
  unfold ticks
  constructor
  · rw [Int.le_ediv_iff_mul_le (by omega)]; omega
  · have h : (n + 8 + c.rate - 1) / c.rate < 1024 := by rw [Int.ediv_lt_iff_lt_mul (by omega)]; omega
    omega
theorem passN_bd {c : Ct} (h1 : 1 ≤ c.rate) (h2 : c.rate ≤ 1000) : ∀ (f : Nat) (n : Int), 0 ≤ passN c f n ∧ passN c f n ≤ 1023 * f
  | 0, _ => by simp [passN]
  | f + 1, n => by
    have ih := passN_bd h1 h2 f (n - 16)
    unfold passN
    split
    · have := ticks_bd h1 h2 (n := min n 16) (by omega) (by omega)
      omega
    · omega
theorem pass_bd {c : Ct} (h : CtOK c) {n : Int} (h1 : 1 ≤ n) : 1 ≤ pass c n ∧ pass c n ≤ 4190208 := by
  obtain ⟨_, _, ⟨r1, r2⟩, _⟩ := h
  have h := passN_bd r1 r2 4096 n
  have h2 := ticks_bd r1 r2 (n := min n 16) (by omega) (by omega)
  have h3 := (passN_bd r1 r2 4095 (n - 16)).1
  refine ⟨?_, by unfold pass; omega⟩
  unfold pass
  rw [passN, if_pos (by omega)]
  omega
theorem lossy {c : Ct} (h : CtOK c) : 0 ≤ c.loss * (2 * c.rng + 1 + ticks c 16) ∧ c.loss * (2 * c.rng + 1 + ticks c 16) ≤ 33570816 := by
  obtain ⟨_, _, ⟨r1, r2⟩, ⟨g1, g2⟩, ⟨l1, l2⟩, _⟩ := h
  have ht := ticks_bd r1 r2 (n := 16) (by omega) (by omega)
  refine ⟨Int.mul_nonneg l1 (by omega), ?_⟩
  have : c.loss * (2 * c.rng + 1 + ticks c 16) ≤ 16 * (2 * c.rng + 1 + ticks c 16) := Int.mul_le_mul_of_nonneg_right l2 (by omega)
  omega
theorem dur_bd {c : Ct} (h : CtOK c) {n : Int} (h1 : 1 ≤ n) : 1 ≤ dur c n ∧ dur c n ≤ 37761024 := by
  have h2 := pass_bd h h1
  have h3 := lossy h
  unfold dur
  omega
end Go.Proofs.YtebkgbmijocdjaaGreat.Tp
