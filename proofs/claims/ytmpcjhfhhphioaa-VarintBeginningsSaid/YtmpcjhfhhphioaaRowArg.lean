/- A slice of integers that came in, as a list. No condition. -/
import Derived.Test.YtmpcjhfhhphioaaIntsAt
import Derived.OpenShut
namespace Go.Proofs.Ytmpcjhfhhphioaa
open Go Go.RowKit

/-- a slice of integers that came in, nil or not: its elements -/
theorem ints_of_row {w : World} {a : Option Addr} {len cap : Nat} {zs : List Int}
    (h : (a = none ∧ len = 0 ∧ cap = 0 ∧ zs = []) ∨ ∃ x, a = some x ∧ len ≤ cap ∧ cap ≤ maxLen ∧ zs.length = cap ∧ (∀ i, i < zs.length → w.cell? (x.add i) = some (.int .i64 (zs.getD i 0))) ∧ ∀ n ∈ zs, (Lit.int .i64 n).wf = true) :
    ∃ l : List Int, l.length = len ∧ len ≤ maxLen ∧ IntsAt w a l ∧ ∀ n ∈ l, (Lit.int .i64 n).wf = true := by
  rcases h with ⟨rfl, rfl, _, _⟩ | ⟨x, rfl, hl, hm, hz, hc, hw⟩
  · exact ⟨[], rfl, by decide, IntsAt.nil _ _, fun n hn => by simp at hn⟩
  · refine ⟨zs.take len, by simp; omega, by omega, fun k v hk => ?_, fun n hn => hw n (List.mem_of_mem_take hn)⟩
    have hkl : k < len := by
      have := (List.getElem?_eq_some_iff.1 hk).1
      simp at this
      omega
    obtain ⟨b, off, spot⟩ := x
    have hspot : spot = none := by simpa [Addr.add] using World.cell?_spot (hc 0 (by omega))
    subst hspot
    have h1 := hc k (by omega)
    have hs : zs.getD k 0 = v := by
      rw [List.getElem?_take_of_lt hkl] at hk
      simp [List.getD, hk]
    rw [hs] at h1
    refine ⟨b, off, rfl, ?_⟩
    unfold Addr.add at h1
    split at h1
    · rename_i h0; subst h0; exact h1
    · exact h1
end Go.Proofs.Ytmpcjhfhhphioaa
