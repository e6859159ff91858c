/- What the row's list says of the program's table; a slice of integers that came in, as a list. No condition. -/
import Derived.Test.YtolohghpiccbaaaDoorVerCmp
import Derived.LaidLaws
import Derived.OpenShut
import Derived.Lib.LaidTab
namespace Go.Proofs.YtolohghpiccbaaaDoor
open Go Go.RowKit

theorem gTab : Tryd.prog.globalNamed "mailboat/version.results" = some 0 := by kernel_rfl
theorem gTabType : (Tryd.prog.globals[0]?).map (·.type) = some 51 := by kernel_rfl
theorem cellsInt : Tryd.prog.cellsOf 3 = 1 := by kernel_rfl
theorem cellsTwo : Tryd.prog.cellsOf 50 = 2 := by kernel_rfl
theorem cellsFour : Tryd.prog.cellsOf 51 = 4 := by kernel_rfl

theorem tab_of {W : World} (h : laidMetH Tryd.prog [("mailboat/version.results", Rows.laid_mailboat_version_results)] W) : Tab W := by
  rw [show laidMetH Tryd.prog [("mailboat/version.results", Rows.laid_mailboat_version_results)] W = laidMet Tryd.prog [("mailboat/version.results", Rows.laid_mailboat_version_results)] W by
    unfold laidMetH; simp [Rows.laid_mailboat_version_results, DataW.handleName?]] at h
  obtain ⟨ps, ⟨g', t', cs, fuel, p, q, hg', ht', hvar, hd, _, _⟩, _⟩ := h
  obtain rfl := Option.some.inj (gTab.symm.trans hg')
  obtain rfl := Option.some.inj (gTabType.symm.trans ht')
  obtain ⟨xs, m, _, hx, hcl, hn, hel⟩ := DataW.trod_array Tryd.underlying51 hd
  rw [cellsFour] at hcl
  match xs, hn, hx, hel with
  | [x0, x1], _, hx, hel =>
    unfold Rows.laid_mailboat_version_results at hx
    simp only [Prod.mk.injEq, DataW.agg.injEq, List.map_cons, List.map_nil, List.cons.injEq, and_true] at hx
    obtain ⟨⟨h0, h1⟩, _⟩ := hx
    have e0 := hel 0 (by decide)
    have e1 := hel 1 (by decide)
    rw [cellsTwo] at e0 e1
    obtain ⟨y0, q0⟩ := x0
    obtain ⟨y1, q1⟩ := x1
    subst h0 h1
    have r0 := Lib.cells_of_tab (k := .i64) (zs := [3, 2]) Tryd.underlying50 Tryd.underlying3 cellsInt cellsTwo e0
    have r1 := Lib.cells_of_tab (k := .i64) (zs := [1, 0]) Tryd.underlying50 Tryd.underlying3 cellsInt cellsTwo e1
    obtain ⟨l⟩ := cs
    match l, hcl, r0, r1 with
    | [a, b, c, d], _, r0, r1 =>
      simp at r0 r1
      obtain ⟨rfl, rfl⟩ := r0
      obtain ⟨rfl, rfl⟩ := r1
      have hv := World.var?_cell gTab hvar
      exact ⟨by simpa using hv 0, by simpa using hv 1, by simpa using hv 2, by simpa using hv 3⟩

/-- a slice of integers that came in, nil or not: its elements -/
theorem ints_of_row {w : World} {a : Option Addr} {len cap : Nat} {zs : List Int}
    (h : (a = none ∧ len = 0 ∧ cap = 0 ∧ zs = []) ∨ ∃ x, a = some x ∧ len ≤ cap ∧ cap ≤ maxLen ∧ zs.length = cap ∧ (∀ i, i < zs.length → w.cell? (x.add i) = some (.int .i64 (zs.getD i 0))) ∧ ∀ n ∈ zs, (Lit.int .i64 n).wf = true) :
    ∃ l : List Int, l.length = len ∧ len ≤ maxLen ∧ IntsAt w a l ∧ ∀ n ∈ l, (Lit.int .i64 n).wf = true := by
  rcases h with ⟨rfl, rfl, _, _⟩ | ⟨x, rfl, hl, hm, hz, hc, hw⟩
  · exact ⟨[], rfl, by decide, IntsAt.nil _ _, fun n hn => by simp at hn⟩
  · refine ⟨zs.take len, by simp; omega, by omega, fun k v hk => ?_, fun n hn => hw n (List.mem_of_mem_take hn)⟩
    have hkl : k < len := by
      have := (List.getElem?_eq_some_iff.1 hk).1
      simp at this
      omega
    obtain ⟨b, off, spot⟩ := x
    have hspot : spot = none := by simpa [Addr.add] using World.cell?_spot (hc 0 (by omega))
    subst hspot
    have h1 := hc k (by omega)
    have hs : zs.getD k 0 = v := by
      rw [List.getElem?_take_of_lt hkl] at hk
      simp [List.getD, hk]
    rw [hs] at h1
    refine ⟨b, off, rfl, ?_⟩
    unfold Addr.add at h1
    split at h1
    · rename_i h0; subst h0; exact h1
    · exact h1
end Go.Proofs.YtolohghpiccbaaaDoor
