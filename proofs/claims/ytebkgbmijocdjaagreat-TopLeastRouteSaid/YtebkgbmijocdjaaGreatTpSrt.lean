/- slices.Sort at []int, in the words of rows of the call's own. Condition: the row is the call's own. -/
import Derived.Test.YtebkgbmijocdjaaGreatTpLev
import Derived.Test.YtebkgbmijocdjaaGreatTpFree2
import Derived.Test.YtebkgbmijocdjaaGreatShelf
namespace Go.Proofs.YtebkgbmijocdjaaGreat.Tp
open Go Go.RowKit

/-- what sorting leaves -/
def SortPost (base : Nat) (v : Value) (ts : List Int) (w : World) (e : Ending) (w' : World) : Prop := e = .returned (.tuple #[]) ∧ w'.ownsRow base 3 1 v ts.length (ts.mergeSort.flatMap intE.f) ∧ w.grownBy w' v.ownBlock
theorem int_flat (l : List Int) : l.flatMap intE.f = l.map iv := by
  induction l with
  | nil => rfl
  | cons a l ih => rw [List.flatMap_cons, List.map_cons, ih]; rfl
theorem putRow_block (w : World) (g off n : Nat) (d : Array Int) (os : Array Obj) {t : TypeId} {cur : Array Value} (h : w.heap[g]? = some (.cells cur t (0, 0))) :
    (Sort.grow (Sort.putRow (Value.int .i64) (Sort.ahead w n) g off d) os).heap[g]? = some (.cells (Sort.putCells (Value.int .i64) off d cur) t (0, 0)) ∧ ∀ k, k < w.heap.size → k ≠ g → (Sort.grow (Sort.putRow (Value.int .i64) (Sort.ahead w n) g off d) os).heap[k]? = w.heap[k]? := by
  have hg : g < w.heap.size := (Array.getElem?_eq_some_iff.1 h).1
  have hs : (Sort.putRow (Value.int .i64) (Sort.ahead w n) g off d).heap.size = w.heap.size := by simp [Sort.putRow, Sort.mapBlock, Sort.ahead]
  refine ⟨?_, fun k hk hne => ?_⟩
  · show ((Sort.putRow (Value.int .i64) (Sort.ahead w n) g off d).heap ++ os)[g]? = _
    rw [Array.getElem?_append_left (by omega)]
    simp [Sort.putRow, Sort.mapBlock, Sort.ahead, Array.getElem?_modify, h, Sort.onCells]
  · show ((Sort.putRow (Value.int .i64) (Sort.ahead w n) g off d).heap ++ os)[k]? = _
    rw [Array.getElem?_append_left (by omega)]
    simp [Sort.putRow, Sort.mapBlock, Sort.ahead, Array.getElem?_modify]
    exact fun e => absurd e.symm hne
theorem sortInts_any (base : Nat) (v : Value) (ts : List Int) (w : World) (hR : w.ownsRow base 3 1 v ts.length (ts.flatMap intE.f)) (hn : ts.length ≤ 1000000) :
    Calls Tryz.prog 99 #[v] w (SortPost base v ts w) := by
  have hR0 := hR
  obtain ⟨hxl, h⟩ := hR
  rcases h with ⟨rfl, h0⟩ | ⟨g, cap, cur, rfl, hbg, hg, hnc, hcm, hcs, htk⟩
  · have : ts = [] := List.eq_nil_of_length_eq_zero h0
    subst this
    refine (Tryz.slices_Sort_int_none none 0 w).mono ?_
    rintro e w' ⟨rfl, rfl⟩
    refine ⟨rfl, ?_, ⟨rfl, rfl, rfl, Nat.le_refl _, fun _ _ _ => rfl⟩⟩
    simp only [List.mergeSort_nil, List.length_nil, List.flatMap_nil]
    exact World.ownsRow_nil _ _ _ _
  · have hcell : ∀ j (hj : j < ts.length), cur[j]? = some (.int .i64 ts[j]) := fun j hj => by
      have h1 : (cur.toList.take (ts.length * 1))[j]? = (ts.flatMap intE.f)[j]? := by rw [htk]
      rw [int_flat, List.getElem?_map, List.getElem?_eq_getElem hj, List.getElem?_take, if_pos (by omega)] at h1
      simpa using h1
    have hH : Sort.Holds (Value.int .i64) w g 0 ts.toArray := fun j hj => by
      have hj' : j < ts.length := by simpa using hj
      have hb : Bk w g 3 cur := hg
      rw [Nat.zero_add]
      refine ⟨?_, hb.free _⟩
      rw [hb.cell, hcell j hj']
      simp [hj']
    refine (Tryz.slices_Sort_int g 0 cap ts w hH (Array.getElem?_eq_some_iff.1 hg).1 (by omega)).mono ?_
    rintro e w' ⟨rfl, n, os, rfl⟩
    have hS : (ts.mergeSort fun x y => decide (x ≤ y)).length = ts.length := List.length_mergeSort _
    obtain ⟨h1, h2⟩ := putRow_block w g 0 n (ts.mergeSort fun x y => decide (x ≤ y)).toArray os hg
    refine ⟨rfl, ⟨by rw [flat_len, hS]; rfl, .inr ⟨g, cap, _, rfl, hbg, h1, hnc, hcm, by simp [Sort.putCells, hcs], ?_⟩⟩, ⟨rfl, rfl, rfl, ?_, fun k hk hne => h2 k hk (fun e => hne (by rw [e]; rfl))⟩⟩
    · rw [int_flat]
      apply List.ext_getElem?
      intro j
      rw [List.getElem?_take, List.getElem?_map]
      by_cases hj : j < ts.length
      · have hjc : j < cur.size := (Array.getElem?_eq_some_iff.1 (hcell j hj)).1
        rw [if_pos (by omega), Array.getElem?_toList]
        simp [Sort.putCells, hjc, hS, hj]
      · rw [if_neg (by omega), List.getElem?_eq_none (by rw [hS]; omega)]
        rfl
    · show _ ≤ ((Sort.putRow (Value.int .i64) (Sort.ahead w n) g 0 _).heap ++ os).size
      simp [Sort.putRow, Sort.mapBlock, Sort.ahead]
end Go.Proofs.YtebkgbmijocdjaaGreat.Tp
