/- Slices of integers that came in or that a call made: what they hold, read as a list. No condition. -/
import Derived.Test.YtlknjdfiedkhbaaBase
namespace Go.Proofs.Ytlknjdfiedkhbaa
open Go Go.RowKit

/-- the j-th element -/
def elt (l : List Int) (j : Nat) : Int := l[j]?.getD 0
/-- the slice's cells are these integers -/
def IntsAt (w : World) (A : Option Addr) (l : List Int) : Prop := ∀ k x, l[k]? = some x → ∃ b off, A = some ⟨b, off, none⟩ ∧ w.cell? ⟨b, off + k, none⟩ = some (.int .i64 x)
theorem IntsAt.below {w w' : World} {A : Option Addr} {l : List Int} (h : IntsAt w A l) (hb : Below w.heap.size w w') : IntsAt w' A l := by
  intro k x hk
  obtain ⟨b, off, hA, hc⟩ := h k x hk
  exact ⟨b, off, hA, (hb.cell (p := ⟨b, off + k, none⟩) (World.block_lt_of_cell? w _ hc)).trans hc⟩
theorem IntsAt.drewN {w : World} {A : Option Addr} {l : List Int} (h : IntsAt w A l) (n : Nat) : IntsAt (w.drewN n) A l := h
theorem IntsAt.nil (w : World) (A : Option Addr) : IntsAt w A [] := fun k x h => by simp at h
theorem IntsAt.opened {w : World} {A : Option Addr} {l : List Int} (h : IntsAt w A l) (hl : 0 < l.length) : ∃ b off, A = some ⟨b, off, none⟩ ∧ b < w.heap.size ∧ ∀ k, k < l.length → w.cell? ⟨b, off + k, none⟩ = some (.int .i64 (elt l k)) := by
  obtain ⟨b, off, hA, hc⟩ := h 0 _ (List.getElem?_eq_getElem hl)
  refine ⟨b, off, hA, World.block_lt_of_cell? w _ hc, fun k hk => ?_⟩
  obtain ⟨b', off', hA', hc'⟩ := h k _ (List.getElem?_eq_getElem hk)
  rw [hA] at hA'
  cases hA'
  rw [hc', elt, List.getElem?_eq_getElem hk]; rfl
theorem IntsAt.mk {w : World} {b off : Nat} {l : List Int} (h : ∀ k, k < l.length → w.cell? ⟨b, off + k, none⟩ = some (.int .i64 (elt l k))) : IntsAt w (some ⟨b, off, none⟩) l := by
  intro k x hk
  obtain ⟨hl, hx⟩ := List.getElem?_eq_some_iff.1 hk
  refine ⟨b, off, rfl, ?_⟩
  rw [h k hl, elt, hk]; rfl
end Go.Proofs.Ytlknjdfiedkhbaa
