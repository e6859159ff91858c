/- The journal's reader: reading a record, walked. Conditions: the reader lies in one block; the length below the model's greatest. -/
import Derived.Test.YtlknjdfiedkhbaaJoRecP
namespace Go.Proofs.Ytlknjdfiedkhbaa
open Go Go.RowKit
open Jo (RId Itm Rec wi zId zIt rcA rcL)
attribute [-simp] Try.isAgg34 Try.sizeOf34 Try.typeInfo34

/-- what reading a record leaves -/
def RecPost (w : World) (g : Nat) (l : List UInt8) (e : Ending) (w' : World) : Prop :=
  ∃ (x : Rec) (r : List UInt8) (b : Bool), e = .returned (.agg (rcA x)) ∧ w.grownBy w' (some g) ∧ Jrd w' g r b ∧ x.item.data.size ≤ maxLen ∧ parse0 l = (if b = false ∧ r = [] then some x else none)
def F0 (ns : List Int) : Rec := ⟨at_ ns 0, zIt, zId, 0, at_ ns 1⟩
def F1 (k t : Int) (ns : List Int) : Rec := ⟨k, { zIt with tick := at_ ns 0 }, zId, 0, t⟩
def F2 (k t tk : Int) (ns : List Int) : Rec := ⟨k, { zIt with tick := tk, id := idOf ns 0 }, zId, 0, t⟩
def F3 (k t tk : Int) (id : RId) (ns : List Int) : Rec := ⟨k, { zIt with tick := tk, id := id, dest := at_ ns 0, exp := at_ ns 1, prio := at_ ns 2 }, zId, 0, t⟩
def G2 (k t : Int) (ns : List Int) : Rec := ⟨k, zIt, idOf ns 0, 0, t⟩
def G3 (k t : Int) (id : RId) (ns : List Int) : Rec := ⟨k, zIt, id, at_ ns 0, t⟩
theorem hF0 (ns : List Int) (n : Int) (o : Nat) (h : [0, 18][ns.length]? = some o) : o < 19 ∧ (rcA (F0 ns)).setIfInBounds o (.int .i64 n) = rcA (F0 (ns ++ [n])) := by
  match ns, h with
  | [], h => cases h; exact ⟨by decide, rfl⟩
  | [_], h => cases h; exact ⟨by decide, rfl⟩
theorem hF1 (k t : Int) (ns : List Int) (n : Int) (o : Nat) (h : [1][ns.length]? = some o) : o < 19 ∧ (rcA (F1 k t ns)).setIfInBounds o (.int .i64 n) = rcA (F1 k t (ns ++ [n])) := by
  match ns, h with
  | [], h => cases h; exact ⟨by decide, rfl⟩
theorem hF2 (k t tk : Int) (ns : List Int) (n : Int) (o : Nat) (h : [2, 3, 4, 5, 6][ns.length]? = some o) : o < 19 ∧ (rcA (F2 k t tk ns)).setIfInBounds o (.int .i64 n) = rcA (F2 k t tk (ns ++ [n])) := by
  match ns, h with
  | [], h => cases h; exact ⟨by decide, rfl⟩
  | [_], h => cases h; exact ⟨by decide, rfl⟩
  | [_, _], h => cases h; exact ⟨by decide, rfl⟩
  | [_, _, _], h => cases h; exact ⟨by decide, rfl⟩
  | [_, _, _, _], h => cases h; exact ⟨by decide, rfl⟩
theorem hF3 (k t tk : Int) (id : RId) (ns : List Int) (n : Int) (o : Nat) (h : [7, 8, 9][ns.length]? = some o) : o < 19 ∧ (rcA (F3 k t tk id ns)).setIfInBounds o (.int .i64 n) = rcA (F3 k t tk id (ns ++ [n])) := by
  match ns, h with
  | [], h => cases h; exact ⟨by decide, rfl⟩
  | [_], h => cases h; exact ⟨by decide, rfl⟩
  | [_, _], h => cases h; exact ⟨by decide, rfl⟩
theorem hF3' (k t tk : Int) (id : RId) (ns : List Int) (n : Int) (h : ns.length = 3) : F3 k t tk id (ns ++ [n]) = F3 k t tk id ns := by
  match ns, h with
  | [_, _, _], _ => rfl
theorem hG2 (k t : Int) (ns : List Int) (n : Int) (o : Nat) (h : [12, 13, 14, 15, 16][ns.length]? = some o) : o < 19 ∧ (rcA (G2 k t ns)).setIfInBounds o (.int .i64 n) = rcA (G2 k t (ns ++ [n])) := by
  match ns, h with
  | [], h => cases h; exact ⟨by decide, rfl⟩
  | [_], h => cases h; exact ⟨by decide, rfl⟩
  | [_, _], h => cases h; exact ⟨by decide, rfl⟩
  | [_, _, _], h => cases h; exact ⟨by decide, rfl⟩
  | [_, _, _, _], h => cases h; exact ⟨by decide, rfl⟩
theorem hG3 (k t : Int) (id : RId) (ns : List Int) (n : Int) (o : Nat) (h : [17][ns.length]? = some o) : o < 19 ∧ (rcA (G3 k t id ns)).setIfInBounds o (.int .i64 n) = rcA (G3 k t id (ns ++ [n])) := by
  match ns, h with
  | [], h => cases h; exact ⟨by decide, rfl⟩
/-- a record in memory, and a row of pointers beside it -/
theorem ptrs_lit (w : World) (ps : List Addr) (t : TypeId) : PtrsAt (w.alloc (.cells (ps.map fun p => Value.pointer (some p)).toArray t)) w.heap.size ps := fun k p hk => by
  have h := (Bk.new w t (ps.map fun p => Value.pointer (some p)).toArray).cell k
  rw [h, List.getElem?_toArray, List.getElem?_map, hk]; rfl
theorem RecM.more {w : World} {g b2 bx : Nat} {F : List Int → Rec} {ns : List Int} {wr : World} {F' : List Int → Rec} (h : RecM w g b2 bx F ns wr) (he : F' [] = F ns) (o : Obj) : RecM w g b2 bx F' [] (wr.alloc o) :=
  ⟨h.1.trans (World.grownBy_alloc _ _ _), h.2.1.alloc o, by rw [he]; exact h.2.2.alloc o⟩
/-- a record in block bx -/
def Rx (w : World) (g b2 bx : Nat) (x : Rec) (wr : World) : Prop := RecM w g b2 bx (fun _ => x) [] wr
theorem Rx.more {w : World} {g b2 bx : Nat} {x : Rec} {wr : World} (h : Rx w g b2 bx x wr) (F : List Int → Rec) (he : F [] = x) (o : Obj) : RecM w g b2 bx F [] (wr.alloc o) := RecM.more h he o
theorem Rx.cell {w : World} {g b2 bx : Nat} {x : Rec} {wr : World} (h : Rx w g b2 bx x wr) (j : Nat) : wr.cell? ⟨bx, j, none⟩ = (rcA x)[j]? := h.2.2.cell j
theorem Rx.drew {w : World} {g b2 bx : Nat} {x : Rec} {wr : World} (h : Rx w g b2 bx x wr) : Rx w g b2 bx x wr.drew := ⟨⟨h.1.os, h.1.tape, h.1.output, h.1.size, h.1.block⟩, h.2.1, h.2.2⟩
theorem Jrd.drew {w : World} {g : Nat} {l : List UInt8} {b : Bool} (h : Jrd w g l b) : Jrd w.drew g l b := h
theorem Jrd.alloc {w : World} {g : Nat} {l : List UInt8} {b : Bool} (h : Jrd w g l b) (o : Obj) : Jrd (w.alloc o) g l b := Bk.alloc h o
theorem RecM.size {w : World} {g b2 bx : Nat} {F : List Int → Rec} {ns : List Int} {wr : World} (h : RecM w g b2 bx F ns wr) : b2 < wr.heap.size ∧ bx < wr.heap.size ∧ w.heap.size ≤ wr.heap.size := ⟨h.2.1.lt, h.2.2.lt, h.1.size⟩
theorem mem_offs {bx ba : Nat} {offs : List Nat} (h : bx ≠ ba) : ∀ p ∈ offs.map fun o => (⟨bx, o, none⟩ : Addr), p.block ≠ ba := fun p hp => by
  obtain ⟨o, _, rfl⟩ := List.mem_map.1 hp
  exact h
/-- what a call leaves -/
def RecGo (w : World) (g b2 bx : Nat) (F : List Int → Rec) (n : Nat) (l : List UInt8) (b : Bool) (e : Ending) (w' : World) : Prop :=
  ∃ ns r c, e = .returned (.tuple #[]) ∧ rdS n (l, b) = (ns, r, c) ∧ Rx w g b2 bx (F ns) w' ∧ Jrd w' g r c ∧ r.length ≤ l.length
theorem rec_call (w : World) (g b2 bx : Nat) (offs : List Nat) (F : List Int → Rec) (x : Rec) (l : List UInt8) (b : Bool) (W : World) (cap : Nat) (hl : l.length ≤ maxLen) (h : Rx w g b2 bx x W) (hJ : Jrd W g l b) (he : F [] = x)
    (hF : ∀ ns n o, offs[ns.length]? = some o → o < 19 ∧ (rcA (F ns)).setIfInBounds o (.int .i64 n) = rcA (F (ns ++ [n]))) (hg : g < w.heap.size) (hb : w.heap.size ≤ b2 ∧ w.heap.size ≤ bx ∧ b2 ≠ bx) (h0 : 0 < offs.length) (h100 : offs.length ≤ 100) :
    Calls Try.prog 72 #[.pointer (some ⟨g, 0, none⟩), .slice (some ⟨W.heap.size, 0, none⟩) offs.length cap] (W.alloc (.cells (((offs.map fun o => (⟨bx, o, none⟩ : Addr)).map fun p => Value.pointer (some p)).toArray) 111)) (RecGo w g b2 bx F offs.length l b) := by
  have hs := h.size
  have c := jread_any g W.heap.size cap (offs.map fun o => (⟨bx, o, none⟩ : Addr)) l b (RecM w g b2 bx F) _ hl (hJ.alloc _) (ptrs_lit W (offs.map fun o => (⟨bx, o, none⟩ : Addr)) 111)
    (sink_rec offs F hg hb.1 hb.2.1 hb.2.2 hF) (h.more F he _) (by simpa using h0) (by simpa using h100) (by omega) (mem_offs (by omega))
  rw [List.length_map] at c
  refine Calls.mono c (fun e w' hh => ?_)
  obtain ⟨h1, h2, h3⟩ := hh
  generalize hq : rdS offs.length (l, b) = q at h2 h3
  obtain ⟨ns, r, c⟩ := q
  exact ⟨ns, r, c, h1, hq, h2, h3, rdS_size hq⟩
theorem cus_call (w : World) (g b2 bx : Nat) (offs : List Nat) (F : List Int → Rec) (x : Rec) (l : List UInt8) (b : Bool) (W : World) (cap : Nat) (hl : l.length ≤ maxLen) (h : Rx w g b2 bx x W) (hJ : Jrd W g l b) (he : F [] = x)
    (hF : ∀ ns n o, offs[ns.length]? = some o → o < 19 ∧ (rcA (F ns)).setIfInBounds o (.int .i64 n) = rcA (F (ns ++ [n]))) (hL : ∀ ns n, ns.length = offs.length → F (ns ++ [n]) = F ns) (hg : g < w.heap.size) (hb : w.heap.size ≤ b2 ∧ w.heap.size ≤ bx ∧ b2 ≠ bx) (h100 : offs.length ≤ 90) :
    Calls Try.prog 72 #[.pointer (some ⟨g, 0, none⟩), .slice (some ⟨W.heap.size + 1, 0, none⟩) (offs.length + 1) cap] ((W.alloc (.cells #[.int .i64 0] 3)).alloc (.cells (((offs.map (fun o => (⟨bx, o, none⟩ : Addr)) ++ ([⟨W.heap.size, 0, none⟩] : List Addr)).map fun p => Value.pointer (some p)).toArray) 111)) fun e w' =>
      ∃ ns r c, e = .returned (.tuple #[]) ∧ rdS (offs.length + 1) (l, b) = (ns, r, c) ∧ Rx w g b2 bx (F ns) w' ∧ Bk w' W.heap.size 3 #[.int .i64 (at_ ns offs.length)] ∧ Jrd w' g r c ∧ r.length ≤ l.length := by
  have hs := h.size
  have hp := ptrs_lit (W.alloc (.cells #[.int .i64 0] 3)) (offs.map (fun o => (⟨bx, o, none⟩ : Addr)) ++ ([⟨W.heap.size, 0, none⟩] : List Addr)) 111
  rw [World.size_alloc] at hp
  have hM : CusM w g b2 bx W.heap.size F offs.length [] ((W.alloc (.cells #[.int .i64 0] 3)).alloc (.cells (((offs.map (fun o => (⟨bx, o, none⟩ : Addr)) ++ ([⟨W.heap.size, 0, none⟩] : List Addr)).map fun p => Value.pointer (some p)).toArray) 111)) :=
    ⟨RecM.more (F' := F) (h.more F he _) rfl _, (Bk.new W 3 #[.int .i64 0]).alloc _⟩
  have c := jread_any g (W.heap.size + 1) cap (offs.map (fun o => (⟨bx, o, none⟩ : Addr)) ++ ([⟨W.heap.size, 0, none⟩] : List Addr)) l b (CusM w g b2 bx W.heap.size F offs.length) _ hl ((hJ.alloc _).alloc _) hp
    (sink_cus offs F hg hb.1 hb.2.1 (by omega) hb.2.2 (by omega) (by omega) hF hL) hM (by simp) (by simp; omega) (by omega) (fun p hp => by
      rcases List.mem_append.1 hp with hp | hp
      · exact mem_offs (by omega) p hp
      · simp only [List.mem_singleton] at hp; subst hp; simp only; omega)
  rw [List.length_append, List.length_map, List.length_singleton] at c
  refine Calls.mono c (fun e w' hh => ?_)
  obtain ⟨h1, h2, h3⟩ := hh
  generalize hq : rdS (offs.length + 1) (l, b) = q at h2 h3
  obtain ⟨ns, r, c⟩ := q
  exact ⟨ns, r, c, h1, rfl, h2.1, h2.2, h3, rdS_size hq⟩

theorem Rx.below {w : World} {g b2 bx : Nat} {x : Rec} {W W' : World} (h : Rx w g b2 bx x W) (hb : Below W.heap.size W W') : Rx w g b2 bx x W' :=
  ⟨h.1.trans (grown_below hb _), h.2.1.below hb h.2.1.lt, h.2.2.below hb h.2.2.lt⟩
theorem Rx.other {w : World} {g b2 bx : Nat} {x : Rec} {W : World} (h : Rx w g b2 bx x W) (hg : g < w.heap.size) (hb : w.heap.size ≤ b2 ∧ w.heap.size ≤ bx ∧ b2 ≠ bx) (o : Nat) (u : Value) : Rx w g b2 bx x (W.setCell ⟨g, o, none⟩ u) :=
  ⟨h.1.trans (grown_put _ g o u), h.2.1.other (by simp only; omega) _, h.2.2.other (by simp only; omega) _⟩
theorem Rx.put {w : World} {g b2 bx : Nat} {x y : Rec} {W : World} (h : Rx w g b2 bx x W) (hb : w.heap.size ≤ b2 ∧ w.heap.size ≤ bx ∧ b2 ≠ bx) (o : Nat) (u : Value) (he : (rcA x).setIfInBounds o u = rcA y) : Rx w g b2 bx y (W.setCell ⟨bx, o, none⟩ u) :=
  ⟨grown_above h.1 hb.2.1 o u, h.2.1.other hb.2.2 _, by rw [← he]; exact h.2.2.put o u⟩
theorem Jrd.other {w : World} {g b : Nat} {l : List UInt8} {q : Bool} (h : Jrd w g l q) (hne : g ≠ b) (o : Nat) (u : Value) : Jrd (w.setCell ⟨b, o, none⟩ u) g l q := Bk.other h hne u
theorem grown_row {w W : World} {g b : Nat} (h : w.grownBy W (some g)) (hb : w.heap.size ≤ b) (cs : Array Value) : w.grownBy (W.setRow b cs) (some g) :=
  ⟨h.os, h.tape, h.output, by have := h.size; simp [World.setRow]; exact this, fun i hi hne => (setRow_other W b i cs (by omega)).trans (h.block i hi hne)⟩
theorem recPost_of {w : World} {g b2 bx : Nat} {l r : List UInt8} {x : Rec} {b : Bool} {W : World} (hX : Rx w g b2 bx x W) (hJ : Jrd W g r b) (hg : g < w.heap.size) (hb : w.heap.size ≤ b2 ∧ w.heap.size ≤ bx ∧ b2 ≠ bx) (hd : x.item.data.size ≤ maxLen) (hp : parse0 l = (if b = false ∧ r = [] then some x else none)) :
    RecPost w g l (.returned (.agg (rcA x))) (W.setRow b2 (rcA x)) :=
  ⟨x, r, b, rfl, grown_row hX.1 hb.1 _, (setRow_other W b2 g _ (by omega)).trans hJ, hd, hp⟩
theorem rtext_small {l x : List UInt8} {z : Nat} {e : Int} (h : Vi.rtext l = (x, z, e)) : x.length ≤ 65536 := by
  by_cases he : e = 0
  · subst he
    have := (Vi.rtext_canon h).1
    unfold Vi.textE at this
    split at this
    · assumption
    · exact absurd this (by decide)
  · have h2 : (Vi.rtext l).2.2 ≠ 0 := by rw [h]; exact he
    have := (Vi.rtext_err h2).1
    rw [h] at this
    simp only at this
    subst this
    simp
end Go.Proofs.Ytlknjdfiedkhbaa
