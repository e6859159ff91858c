/- A slice of records that came in, as a list of records. No condition. -/
import Derived.Test.YtlknjdfiedkhbaaJoRecs
import Derived.OpenShut
import Derived.Deep.Slices
namespace Go.Proofs.Ytlknjdfiedkhbaa
open Go Go.RowKit Go.ChangeShapes Go.WideShapes Go.Deep
open Jo (RId Itm Rec rcA rcL itA idA)

section
variable {H : Type} {enc : TypeId × Value → H} {w : World} {base : Nat} {spare : Nat → Bool} {held : Bool}

set_option maxRecDepth 100000 in
theorem open_idc {fuel : Nat} {cs : List Value} {x : DataW H × List MemPlace} (h : DataW.trod enc Try.prog w base spare held fuel 30 cs = some x) : ∃ a : RId, cs = Jo.idL a := by
  obtain ⟨xs, n, _, _, hl, hxs, hf⟩ := DataW.trod_struct Try.underlying30 h
  have hl5 : cs.length = 5 := hl.trans (by kernel_rfl)
  have hc1 : Try.prog.cellsOf 3 = 1 := by kernel_rfl
  match cs, hl5 with
  | [c0, c1, c2, c3, c4], _ =>
    have f0 := hf 0 _ rfl
    have f1 := hf 1 _ rfl
    have f2 := hf 2 _ rfl
    have f3 := hf 3 _ rfl
    have f4 := hf 4 _ rfl
    have hx : xs.length = 5 := hxs
    match xs, hx with
    | [y0, y1, y2, y3, y4], _ =>
      simp [hc1] at f0 f1 f2 f3 f4
      obtain ⟨a0, e0, _, _⟩ := DataW.trod_int Try.underlying3 f0
      obtain ⟨a1, e1, _, _⟩ := DataW.trod_int Try.underlying3 f1
      obtain ⟨a2, e2, _, _⟩ := DataW.trod_int Try.underlying3 f2
      obtain ⟨a3, e3, _, _⟩ := DataW.trod_int Try.underlying3 f3
      obtain ⟨a4, e4, _, _⟩ := DataW.trod_int Try.underlying3 f4
      simp only [List.cons.injEq, and_true] at e0 e1 e2 e3 e4
      exact ⟨⟨a0, a1, a2, a3, a4⟩, by rw [e0, e1, e2, e3, e4]; rfl⟩

set_option maxRecDepth 100000 in
theorem open_itc {fuel : Nat} {cs : List Value} {x : DataW H × List MemPlace} (h : DataW.trod enc Try.prog w base spare held fuel 32 cs = some x) : ∃ a : Itm, cs = Jo.itL a ∧ a.data.size ≤ maxLen := by
  obtain ⟨xs, n, _, _, hl, hxs, hf⟩ := DataW.trod_struct Try.underlying32 h
  have hl5 : cs.length = 11 := hl.trans (by kernel_rfl)
  have hc1 : Try.prog.cellsOf 3 = 1 := by kernel_rfl
  have hc2 : Try.prog.cellsOf 4 = 1 := by kernel_rfl
  have hc3 : Try.prog.cellsOf 9 = 1 := by kernel_rfl
  have hc4 : Try.prog.cellsOf 30 = 5 := by kernel_rfl
  match cs, hl5 with
  | [c0, c1, c2, c3, c4, c5, c6, c7, c8, c9, c10], _ =>
    have f0 := hf 0 _ rfl
    have f1 := hf 1 _ rfl
    have f2 := hf 2 _ rfl
    have f3 := hf 3 _ rfl
    have f4 := hf 4 _ rfl
    have f5 := hf 5 _ rfl
    have f6 := hf 6 _ rfl
    have hx : xs.length = 7 := hxs
    match xs, hx with
    | [y0, y1, y2, y3, y4, y5, y6], _ =>
      simp [hc1, hc2, hc3, hc4] at f0 f1 f2 f3 f4 f5 f6
      obtain ⟨a0, e0, _, _⟩ := DataW.trod_int Try.underlying3 f0
      obtain ⟨a1, e1⟩ := open_idc f1
      obtain ⟨a2, e2, _, _⟩ := DataW.trod_int Try.underlying3 f2
      obtain ⟨a3, e3, _, _⟩ := DataW.trod_int Try.underlying3 f3
      obtain ⟨a4, e4, _, _⟩ := DataW.trod_int Try.underlying3 f4
      obtain ⟨a5, e5, _⟩ := DataW.trod_bool Try.underlying4 f5
      obtain ⟨a6, e6, _, hm⟩ := DataW.trod_string Try.underlying9 f6
      simp only [List.cons.injEq, and_true, Jo.idL] at e0 e1 e2 e3 e4 e5 e6
      obtain ⟨u1, u2, u3, u4, u5⟩ := e1
      exact ⟨⟨a0, a1, a2, a3, a4, a5, a6⟩, by rw [e0, u1, u2, u3, u4, u5, e2, e3, e4, e5, e6]; rfl, hm⟩

set_option maxRecDepth 100000 in
theorem open_rcc {fuel : Nat} {cs : List Value} {x : DataW H × List MemPlace} (h : DataW.trod enc Try.prog w base spare held fuel 34 cs = some x) : ∃ a : Rec, cs = rcL a ∧ a.item.data.size ≤ maxLen := by
  obtain ⟨xs, n, _, _, hl, hxs, hf⟩ := DataW.trod_struct Try.underlying34 h
  have hl5 : cs.length = 19 := hl.trans (by kernel_rfl)
  have hc1 : Try.prog.cellsOf 3 = 1 := by kernel_rfl
  have hc4 : Try.prog.cellsOf 30 = 5 := by kernel_rfl
  have hc5 : Try.prog.cellsOf 32 = 11 := by kernel_rfl
  match cs, hl5 with
  | [c0, c1, c2, c3, c4, c5, c6, c7, c8, c9, c10, c11, c12, c13, c14, c15, c16, c17, c18], _ =>
    have f0 := hf 0 _ rfl
    have f1 := hf 1 _ rfl
    have f2 := hf 2 _ rfl
    have f3 := hf 3 _ rfl
    have f4 := hf 4 _ rfl
    have hx : xs.length = 5 := hxs
    match xs, hx with
    | [y0, y1, y2, y3, y4], _ =>
      simp [hc1, hc4, hc5] at f0 f1 f2 f3 f4
      obtain ⟨a0, e0, _, _⟩ := DataW.trod_int Try.underlying3 f0
      obtain ⟨a1, e1, hm⟩ := open_itc f1
      obtain ⟨a2, e2⟩ := open_idc f2
      obtain ⟨a3, e3, _, _⟩ := DataW.trod_int Try.underlying3 f3
      obtain ⟨a4, e4, _, _⟩ := DataW.trod_int Try.underlying3 f4
      simp only [List.cons.injEq, and_true, Jo.idL, Jo.itL] at e0 e1 e2 e3 e4
      obtain ⟨u1, u2, u3, u4, u5, u6, u7, u8, u9, u10, u11⟩ := e1
      obtain ⟨v1, v2, v3, v4, v5⟩ := e2
      exact ⟨⟨a0, a1, a2, a3, a4⟩, by rw [e0, u1, u2, u3, u4, u5, u6, u7, u8, u9, u10, u11, v1, v2, v3, v4, v5, e3, e4]; rfl, hm⟩

theorem add_plain {a : Addr} {i : Nat} {v : Value} (h0 : a.spot = none) (h : w.cell? (a.add i) = some v) : w.cell? ⟨a.block, a.off + i, none⟩ = some v := by
  obtain ⟨b, off, spot⟩ := a
  have hspot : spot = none := h0
  subst hspot
  unfold Addr.add at h
  split at h
  · rename_i hz; subst hz; exact h
  · exact h

theorem recs_of_arg {fuel : Nat} {cs : List Value} {x : DataW H × List MemPlace} (h : DataW.trod enc Try.prog w base spare held fuel 22 cs = some x) :
    ∃ (A : Option Addr) (l : List Rec) (c : Nat), cs = [.slice A l.length c] ∧ l.length ≤ maxLen ∧ RecsAt w A l ∧ ∀ r ∈ l, r.item.data.size ≤ maxLen := by
  rcases open_slice Try.underlying22 h with ⟨rfl, _⟩ | ⟨a, len, cap, m, n, D, Pl, rfl, _, hl, hm, hmm, _, hi⟩
  · exact ⟨none, [], 0, rfl, by decide, RecsAt.nil _ _, by simp⟩
  · have hC : Try.prog.cellsOf 34 = 19 := by kernel_rfl
    have hlm : len ≤ m := by rw [hmm]; split <;> omega
    have one : ∀ i, i < m → ∃ r : Rec, r.item.data.size ≤ maxLen ∧ ∀ j v, (rcL r)[j]? = some v → w.cell? (a.add (i * 19 + j)) = some v := fun i him => by
      obtain ⟨cs', hc, ht⟩ := hi i him
      rw [hC] at hc
      obtain ⟨_, hcl, hat⟩ := World.cells?_some hc
      obtain ⟨r, rfl, hd⟩ := open_rcc ht
      refine ⟨r, hd, fun j v hv => ?_⟩
      have hj : j < 19 := (List.getElem?_eq_some_iff.1 hv).1
      have h1 := hat j hj
      rw [Go.Deep.add_add, hv] at h1
      exact h1
    let F : Nat → Rec := fun i => if h : i < m then Classical.choose (one i h) else zRec
    have hF : ∀ i, i < m → (F i).item.data.size ≤ maxLen ∧ ∀ j v, (rcL (F i))[j]? = some v → w.cell? (a.add (i * 19 + j)) = some v := fun i him => by
      show (if h : i < m then Classical.choose (one i h) else zRec).item.data.size ≤ maxLen ∧ _
      simp only [F, dif_pos him]
      exact Classical.choose_spec (one i him)
    refine ⟨some a, (List.range len).map F, cap, by simp, by simp; omega, fun k r hk => ?_, fun r hr => ?_⟩
    · have hkl : k < len := by
        have := (List.getElem?_eq_some_iff.1 hk).1
        simpa using this
      rw [List.getElem?_map, List.getElem?_range hkl] at hk
      simp only [Option.map_some, Option.some.injEq] at hk
      subst hk
      have g := (hF k (by omega)).2
      have hs : a.spot = none := by
        have g0 := World.cell?_spot ((hF 0 (by omega)).2 0 _ rfl)
        simpa [Addr.add] using g0
      obtain ⟨b, off, sp⟩ := a
      simp only at hs
      subst hs
      refine ⟨b, off, rfl, fun j v hv => ?_⟩
      have := add_plain rfl (g j v hv)
      rw [Nat.add_assoc]
      exact this
    · obtain ⟨i, hi', rfl⟩ := List.mem_map.1 hr
      exact (hF i (by have := List.mem_range.1 hi'; omega)).1
end
end Go.Proofs.Ytlknjdfiedkhbaa
