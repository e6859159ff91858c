/- strings.Builder's WriteString, walked over this program's text (the shelf's own laying asks for the text of a panic that the loader leaves out here). Condition: the new length takes at most 2^47 bytes. -/
import Derived.Test.YtlknjdfiedkhbaaMem
import Derived.Test.YtlknjdfiedkhbaaShelf
import Derived.Lib.AppendStr
import Derived.Laws.Externs
namespace Go.Proofs.Ytlknjdfiedkhbaa
open Go Go.RowKit

/-- a builder in a block of the call's own that holds the bytes l -/
def Bld (B b : Nat) (l : List UInt8) (w : World) : Prop := Lib.IsBuilder 72 5 B b (Lib.byteCells l) w
theorem bldInfo : (Try.prog.info? 72).map (·.size) = some 2 := by kernel_rfl
theorem bldLies : liesAt Try.prog Try.prog.depth 72 (2 / Try.prog.cellsOf 72) 0 72 1 = true := by kernel_rfl

set_option maxHeartbeats 1000000 in
set_option maxRecDepth 100000 in
theorem bld_used (b : Nat) (w : World) (h0 : w.cell? ⟨b, 0, none⟩ = some (.pointer (some ⟨b, 0, none⟩))) :
    Calls Try.prog 58 #[.pointer (some ⟨b, 0, none⟩)] w fun e w' => (∃ v, e = .returned v) ∧ w' = w := by
  obtain ⟨j, hj, _⟩ := Option.map_eq_some_iff.1 bldInfo
  go_enter Try.func58, Try.ntmps58
  go_wp2
  rw [Lib.run_neq_ptr_same w _ Try.underlying70 hj]
  go_wp2
  go_end0
  exact ⟨⟨_, rfl⟩, rfl⟩

set_option maxHeartbeats 1000000 in
set_option maxRecDepth 100000 in
theorem bld_fresh (b : Nat) (w : World) (h0 : w.cell? ⟨b, 0, none⟩ = some (.pointer none)) (hsh : w.shape? b = some (72, 2)) (hfz : w.frozen? ⟨b, 0, none⟩ = false) :
    Calls Try.prog 58 #[.pointer (some ⟨b, 0, none⟩)] w fun e w' => (∃ v, e = .returned v) ∧ w' = w.setCell ⟨b, 0, none⟩ (.pointer (some ⟨b, 0, none⟩)) := by
  obtain ⟨j, hj, hjs⟩ := Option.map_eq_some_iff.1 bldInfo
  go_enter Try.func58, Try.ntmps58
  go_wp2
  rw [Lib.run_to_unsafe w ⟨b, 0, none⟩ Try.underlying70 Try.underlying108 hj (by rw [hjs]; decide) hsh (Nat.zero_lt_succ 1)]
  simp only [Result.andThen]
  rw [Oper.upon_value]
  go_wp2
  rw [run_callFunc_extern Try.func70 (by kernel_rfl) (by kernel_rfl) (by kernel_rfl) (e := Extern.AbiNoEscape.same) (by kernel_rfl)]
  rw [Lib.run_noEscape]
  simp only [Result.andThen]
  rw [Oper.upon_value]
  go_wp2
  rw [Lib.run_from_unsafe w ⟨b, 0, none⟩ Try.underlying108 Try.underlying70 hj hsh bldLies]
  simp only [Result.andThen]
  rw [Oper.upon_value]
  go_wp2
  go_end0
  exact ⟨⟨_, rfl⟩, rfl⟩

theorem bld_check (B b : Nat) (l : List UInt8) (w : World) (h : Bld B b l w) :
    Calls Try.prog 58 #[.pointer (some ⟨b, 0, none⟩)] w fun e w' => (∃ v, e = .returned v) ∧ Lib.BuilderAt 72 5 B b (.pointer (some ⟨b, 0, none⟩)) (Lib.byteCells l) w' ∧ Below B w w' := by
  rcases h with h | h
  · refine (bld_fresh b w h.cell0 h.shape h.frozen0).mono ?_
    rintro e w' ⟨he, rfl⟩
    exact ⟨he, h.used _, (Below.refl B w).setCell (p := ⟨b, 0, none⟩) h.1 _⟩
  · refine (bld_used b w h.cell0).mono ?_
    rintro e w' ⟨he, rfl⟩
    exact ⟨he, h, Below.refl B _⟩

theorem bld_info : (Try.prog.info? 5).map (fun i => (i.zero, i.size, i.bytes)) = some (some (.int .u8 0), 1, 1) := by kernel_rfl
set_option maxHeartbeats 2000000 in
set_option maxRecDepth 100000 in
theorem bld_write (B b : Nat) (l : List UInt8) (s : ByteArray) (w : World) (h : Bld B b l w) (hlen : l.length + s.size ≤ 140737488355328) (hBw : B ≤ w.heap.size) :
    Calls Try.prog 45 #[.pointer (some ⟨b, 0, none⟩), .string s] w fun e w' => (∃ v, e = .returned v) ∧ Bld B b (l ++ s.data.toList) w' ∧ Below B w w' := by
  obtain ⟨i0, hi, hz0, hz1, hz2⟩ := info_parts bld_info
  have HC := Lib.hid (bld_check B b l _ h)
  have hll : (Lib.byteCells l).length = l.length := by simp [Lib.byteCells]
  clear h
  go_enter Try.func45, Try.ntmps45
  go_wp2_with fail
  refine (HC.out).mono ?_
  rintro e w1 ⟨⟨v0, rfl⟩, h1, hb1⟩
  obtain ⟨hB, v, hbk, hown, hne⟩ := h1
  have hlt : b < w1.heap.size := (Array.getElem?_eq_some_iff.1 hbk).1
  have HBK := Lib.hid hbk
  have HNE := Lib.hid hne
  have HO := Lib.hid hown
  have HB1 := Lib.hid hb1
  have c1 : w1.cell? ⟨b, 1, none⟩ = some v := by rw [Lib.cell_of_heap hbk]; rfl
  clear hbk hne hown hb1 hll
  go_wp2_with (at_builtin; refine Lib.wpList_append_own_string _ rfl _ _ 54 9 rfl B 5 i0 Try.underlying54 Try.underlying9 hi hz0 hz1 hz2 _ _ _ rfl HO.out s rfl ?c3 ?c4 ?c5 ?_)
  case c3 => rw [show (Lib.byteCells l).length = l.length by simp [Lib.byteCells]]; unfold maxLen; omega
  case c4 => rw [show (Lib.byteCells l).length = l.length by simp [Lib.byteCells]]; omega
  case c5 => have := HB1.out.size; omega
  intro v' w2 hown' hgrow _
  obtain ⟨ao, n', cap, rfl⟩ : ∃ ao n' cap, v' = .slice ao n' cap := by
    rcases hown'.2 with ⟨hv, _⟩ | ⟨g, cap, cur, hv, _⟩
    · exact ⟨_, _, _, hv⟩
    · exact ⟨_, _, _, hv⟩
  have hb2 : w2.heap[b]? = some (.cells #[.pointer (some ⟨b, 0, none⟩), v] 72 (0, 0)) := (hgrow.block b hlt (fun e => HNE.out e.symm)).trans HBK.out
  have d1 : w2.cell? ⟨b, 1, none⟩ = some v := by rw [Lib.cell_of_heap hb2]; rfl
  have f1 : w2.frozen? ⟨b, 1, none⟩ = false := Lib.frozen_of_heap hb2 1
  have HN : Hid (Bld B b (l ++ s.data.toList) (w2.setCell ⟨b, 1, none⟩ (.slice ao n' cap)) ∧ Below B w (w2.setCell ⟨b, 1, none⟩ (.slice ao n' cap))) := by
    refine ⟨.inr ?_, (HB1.out.grown hgrow (by have := HB1.out.size; omega) (fun k hk => (HO.out.lt k hk).1)).setCell (p := ⟨b, 1, none⟩) hB _⟩
    have e : Lib.byteCells (l ++ s.data.toList) = Lib.byteCells l ++ Lib.strCells s := by simp [Lib.byteCells, Lib.strCells]
    refine Lib.BuilderAt.put (T := 72) (e := 5) hB hb2 (bs' := Lib.byteCells (l ++ s.data.toList)) ?_ (by decide)
    rw [e]
    simpa [Lib.strCells_length] using hown'
  clear hown' hgrow hb2
  go_wp2
  go_ret2
  exact ⟨⟨_, rfl⟩, HN.out.1, HN.out.2⟩

theorem bld_string (B b : Nat) (l : List UInt8) (w : World) (h : Bld B b l w) (hBw : B ≤ w.heap.size) :
    Calls Try.prog 47 #[.pointer (some ⟨b, 0, none⟩)] w fun e w' => e = .returned (.string (str l)) ∧ Below B w w' :=
  Try.Builder_String_any B b l w h hBw
theorem bld_len (B b : Nat) (l : List UInt8) (w : World) (h : Bld B b l w) :
    Calls Try.prog 46 #[.pointer (some ⟨b, 0, none⟩)] w fun e w' => e = .returned (.int .i64 (l.length : Int)) ∧ w = w' := by
  refine (Try.Builder_Len B b _ w h).mono ?_
  rintro e w' ⟨rfl, rfl⟩
  exact ⟨ret_i (by simp [Lib.byteCells]), rfl⟩
theorem bld_new (w : World) : Bld w.heap.size w.heap.size [] (w.alloc (.cells #[.pointer none, .slice none 0 0] 72)) := Lib.fresh_isBuilder 72 5 w
/-- a call that leaves 'Below' leaves the builder as it was -/
theorem Bld.below {B b : Nat} {l : List UInt8} {w w' : World} (h : Bld B b l w) (hb : Below w.heap.size w w') : Bld B b l w' := by
  have key : ∀ p, Lib.BuilderAt 72 5 B b p (Lib.byteCells l) w → Lib.BuilderAt 72 5 B b p (Lib.byteCells l) w' := by
    rintro p ⟨hB, v, hbk, hown, hne⟩
    refine ⟨hB, v, (hb.block b (Array.getElem?_eq_some_iff.1 hbk).1).trans hbk, ?_, hne⟩
    exact hown.kept (grown_below hb none) (by by_cases e : v.ownBlock = none; exact .inl e; exact .inr e)
  exact h.imp (key _) (key _)
end Go.Proofs.Ytlknjdfiedkhbaa
