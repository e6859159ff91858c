/- Slices of records in memory: what is known of their cells, and of the loads and stores of whole records. No condition. -/
import Derived.Test.YtlknjdfiedkhbaaJoItem
import Derived.Test.YtlknjdfiedkhbaaIntsAt
namespace Go.Proofs.Ytlknjdfiedkhbaa
open Go Go.RowKit
open Jo (RId Itm Rec rcA rcL itA idA)

/-- The first elements of a slice at A are these records. -/
def RecsAt (w : World) (A : Option Addr) (l : List Rec) : Prop := ∀ k r, l[k]? = some r → ∃ b off, A = some ⟨b, off, none⟩ ∧ w.rangeAt b (off + k * 19) (rcL r)
theorem range_below {w w' : World} {b o : Nat} {cs : List Value} (h : w.rangeAt b o cs) (hb : Below w.heap.size w w') : w'.rangeAt b o cs := fun j v hv =>
  (hb.cell (p := ⟨b, o + j, none⟩) (World.block_lt_of_cell? _ _ (h j v hv))).trans (h j v hv)
theorem RecsAt.below {w w' : World} {A : Option Addr} {l : List Rec} (h : RecsAt w A l) (hb : Below w.heap.size w w') : RecsAt w' A l := fun k r hk => by
  obtain ⟨b, off, hA, hr⟩ := h k r hk
  exact ⟨b, off, hA, range_below hr hb⟩
theorem RecsAt.nil (w : World) (A : Option Addr) : RecsAt w A [] := fun k r h => by simp at h
theorem RecsAt.drew {w : World} {A : Option Addr} {l : List Rec} (h : RecsAt w A l) : RecsAt w.drew A l := h
theorem RecsAt.take {w : World} {A : Option Addr} {l : List Rec} (h : RecsAt w A l) (n : Nat) : RecsAt w A (l.take n) := fun k r hk => h k r (by
  rw [List.getElem?_take] at hk
  split at hk
  · exact hk
  · simp at hk)
/-- the address of an element -/
theorem RecsAt.one {w : World} {A : Option Addr} {l : List Rec} (h : RecsAt w A l) (hl : 0 < l.length) : ∃ b off, A = some ⟨b, off, none⟩ ∧ ∀ k r, l[k]? = some r → w.rangeAt b (off + k * 19) (rcL r) := by
  obtain ⟨b, off, hA, _⟩ := h 0 l[0] (List.getElem?_eq_getElem hl)
  refine ⟨b, off, hA, fun k r hk => ?_⟩
  obtain ⟨b', off', hA', hr⟩ := h k r hk
  rw [hA] at hA'
  cases hA'
  exact hr
theorem loadCells_range {P : Program} {w : World} {b o n : Nat} {cs : List Value} (h : w.rangeAt b o cs) (hn : cs.length = n) : (loadCellsFrom ⟨b, o, none⟩ 0 n #[]).run P w = .ok cs.toArray w := by
  have := run_loadCells_list (P := P) w ⟨b, o, none⟩ cs (fun j v hv => by rw [Addr.add_mid]; exact h j v hv)
  rw [hn] at this
  simpa [loadCells] using this
def zRec : Rec := ⟨0, Jo.zIt, Jo.zId, 0, 0⟩
theorem infoRec : (Try.prog.info? 34).map (fun i => (i.zero, i.size)) = some (some (.agg (rcA zRec)), 19) := by kernel_rfl
theorem sizeRec : (Try.prog.info? 34).map (·.size) = some 19 := by kernel_rfl
end Go.Proofs.Ytlknjdfiedkhbaa
