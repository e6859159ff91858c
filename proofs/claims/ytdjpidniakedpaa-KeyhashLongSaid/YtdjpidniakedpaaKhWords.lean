/- The iterator over the words of a string: its contract for every loop body that keeps the cells laid since. Condition: a string of at most 200000 bytes. -/
import Derived.RangeFuncNested
import Derived.RangeFuncBound
import Derived.RangeFuncCalls
import Derived.RangeFuncLeaves
import Derived.Shelf.Abstract
import Derived.Shelf.RegionOpen
import Derived.OwnWalkIn
import Derived.TacticsInMore
import Derived.LoopNIn
import Derived.LoopIn
import Derived.Laws.IdiomStrings
import Derived.Test.YtdjpidniakedpaaKhWord
import Derived.Test.YtdjpidniakedpaaKhBytesR
namespace Go.Proofs.Ytdjpidniakedpaa
open Go Go.RowKit Go.Shelf
attribute [local go_sem] Oper.semAt_some

/-- What a round of the loop keeps: whatever cells lie at or beyond block B. -/
def CellsKept (B : Nat) (W W' : World) : Prop := ∀ k o, B ≤ k → W.heap[k]? = some o → o.isCells = true → W'.heap[k]? = some o
theorem CellsKept.trans {B : Nat} {X Y Z : World} (h : CellsKept B X Y) (h' : CellsKept B Y Z) : CellsKept B X Z := fun k o hk ho hc => h' k o hk (h k o hk ho hc) hc
theorem cellsKept_turn {B : Nat} {w : World} (W : World) (l : Nat) (o o' : Obj) (_ : w.heap.size ≤ l) (h : W.heap[l]? = some o) (hc : o.isCells = false) (_ : o.isWalk = false) : CellsKept B W (W.putObj l o') := by
  intro k x _ hx hxc
  by_cases e : k = l
  · subst e; rw [h] at hx; cases hx; rw [hc] at hxc; cases hxc
  · exact (World.putObj_heap_other e).trans hx

/-- '[]byte(s)' -/
theorem bytes_new (s : ByteArray) (w : World) : ∃ (C : Array Value) (cap : Nat) (m : Nat × Nat),
    (convert 9 28 (.string s)).run Try.prog w = .ok (.slice (some ⟨w.heap.size, 0, none⟩) s.size cap) (w.drew.alloc (.cells C 5 m)) ∧ s.size ≤ cap ∧
    ∀ j, j < s.size → C[j]? = some (byteV (s.data.toList[j]?.getD 0)) :=
  ⟨_, _, _, run_bytes_of_string w 9 28 5 s Try.underlying9 Try.underlying28 Try.underlying5, grownCap_ge _ _ _ _, fun j hj => by
    rw [bytesRow_at s _ j hj]
    have hl : j < s.data.toList.length := by simpa using hj
    rw [List.getElem?_eq_getElem hl]; rfl⟩

theorem words_in (n : Nat) (s : ByteArray) (w : World) :
    CallsIn Fence.wide n Try.prog 36 #[.string s] w fun e w' => e = .returned (.func (.func 46) #[] #[.pointer (some ⟨w.heap.size, 0, none⟩)]) ∧ w' = w.alloc (.cells #[.string s] 9) := by
  refine callsIn_of_wp Try.func36 rfl trivial ?_ rfl
  simp only [Try.ntmps36, List.size_toArray, List.length_cons, List.length_nil, Nat.reduceAdd, Nat.reduceSub, Array.replicate_succ, Array.replicate_zero, List.push_toArray, List.append_toArray, List.nil_append, List.cons_append]
  gi_wp2
  go_ret
  exact ⟨rfl, rfl⟩

theorem whole_snoc (t : List UInt8) (k : Nat) (h : k < t.length / 8) : (Kh.whole t).take (k + 1) = (Kh.whole t).take k ++ [Kh.word t (8 * k)] := by
  have hl : k < (Kh.whole t).length := by simpa [Kh.whole] using h
  rw [List.take_succ_eq_append_getElem hl]
  simp [Kh.whole]

/-- the last row: what is left, filled up with zeros -/
def fillRow (t : List UInt8) (k : Nat) : List Value := (t.drop (8 * k)).map byteV ++ List.replicate (8 - (t.length - 8 * k)) (.int .u8 0)
/-- its bytes, with the size in the last one -/
def lastBytes (t : List UInt8) : List UInt8 := t.drop (8 * (t.length / 8)) ++ List.replicate (7 - t.length % 8) 0 ++ [UInt8.ofNat t.length]
theorem lastBytes_len (t : List UInt8) : (lastBytes t).length = 8 := by simp [lastBytes]; omega
theorem fillRow_set (t : List UInt8) (k : Nat) (hk : k = t.length / 8) (x : Value) (hx : x = byteV (UInt8.ofNat t.length)) : (fillRow t k).toArray.setIfInBounds 7 x = ((lastBytes t).map byteV).toArray := by
  subst hk hx
  have h1 : ((t.drop (8 * (t.length / 8))).map byteV).length = t.length % 8 := by simp; omega
  have h2 : (List.replicate (8 - (t.length - 8 * (t.length / 8))) (Value.int .u8 0)) = List.replicate (7 - t.length % 8) (byteV 0) ++ [Value.int .u8 0] := by
    rw [show 8 - (t.length - 8 * (t.length / 8)) = (7 - t.length % 8) + 1 by omega, List.replicate_succ']; rfl
  rw [List.setIfInBounds_toArray]
  congr 1
  unfold fillRow lastBytes
  rw [h2, List.map_append, List.map_append, List.map_replicate, ← List.append_assoc]
  rw [List.set_append_right _ _ (by simp; omega)]
  congr 1
  rw [show 7 - (List.map byteV (List.drop (8 * (t.length / 8)) t) ++ List.replicate (7 - t.length % 8) (byteV 0)).length = 0 by simp; omega]
  rfl
theorem le_last (t : List UInt8) : Kh.le (lastBytes t) = Kh.last t := by
  unfold lastBytes Kh.last Kh.word
  rw [List.take_of_length_le (by simp; omega), Kh.le_append, Kh.le_append, Kh.le_zeros]
  have hl : (t.drop (8 * (t.length / 8)) ++ List.replicate (7 - t.length % 8) 0).length = 7 := by simp; omega
  rw [hl]
  simp [Kh.le]
  omega

/-- the cells of a row of bytes, from a place on -/
theorem row_cells {wr : World} {R : Nat} {C : Array Value} {m : Nat × Nat} {t : TypeId} (h : wr.heap[R]? = some (.cells C t m)) (i : Nat) : wr.cell? ⟨R, i, none⟩ = C[i]? := by
  simp [World.cell?, h]

theorem copy_last {wr : World} {R g k c : Nat} {A : Option Addr} {C : Array Value} {m : Nat × Nat} (t : List UInt8) (hk : k = t.length / 8) (hA : 8 * k < t.length → A = some ⟨R, 8 * k, none⟩)
    (hR : wr.heap[R]? = some (.cells C 5 m)) (hC : ∀ j, j < t.length → C[j]? = some (byteV (t[j]?.getD 0))) (hg : g = wr.heap.size) (tt : TypeId) :
    ∃ w', (Builtin.copy_ #[28, 28] 3 #[.slice (some ⟨g, 0, none⟩) 8 8, .slice A (t.length - 8 * k) c]).run Try.prog (wr.alloc (.cells #[.int .u8 0, .int .u8 0, .int .u8 0, .int .u8 0, .int .u8 0, .int .u8 0, .int .u8 0, .int .u8 0] tt)) = .ok (.int .i64 ((t.length - 8 * k : Nat) : Int)) w' ∧
      Bk w' g tt (fillRow t k).toArray ∧ wr.grownBy w' none := by
  subst hg
  obtain ⟨z8, hz8⟩ : ∃ z : Array Value, z = #[.int .u8 0, .int .u8 0, .int .u8 0, .int .u8 0, .int .u8 0, .int .u8 0, .int .u8 0, .int .u8 0] := ⟨_, rfl⟩
  have hzl : z8.toList = List.replicate 8 (Value.int .u8 0) := by rw [hz8]; rfl
  rw [← hz8]
  by_cases h0 : t.length - 8 * k = 0
  · have hr := run_copy_none (P := Try.prog) (wr.alloc (.cells z8 tt)) 28 28 3 5 (some ⟨wr.heap.size, 0, none⟩) A 8 8 (t.length - 8 * k) c Try.underlying28 (by kernel_rfl) (by rw [h0]; rfl)
    refine ⟨_, hr.trans (by rw [h0]; rfl), ?_, World.grownBy_alloc _ _ _⟩
    have e : (fillRow t k).toArray = z8 := by
      unfold fillRow
      rw [h0, List.drop_eq_nil_of_le (by omega), List.map_nil, List.nil_append, Nat.sub_zero, ← hzl]
    rw [e]
    exact Bk.new _ _ _
  · have hA' := hA (by omega)
    subst hA'
    have hl : ((t.drop (8 * k)).map byteV).length = t.length - 8 * k := by simp
    have hz : z8.size = 8 := by rw [hz8]; rfl
    have hr := run_copy_row (P := Try.prog) (wr.alloc (.cells z8 tt)) 28 28 3 5 wr.heap.size 0 8 8 ⟨R, 8 * k, none⟩ (t.length - 8 * k) c z8 tt ((t.drop (8 * k)).map byteV) Try.underlying28 (by kernel_rfl) (heap_alloc_new wr _) (by rw [hl]; exact (Nat.min_eq_left (by omega)).symm)
      (by
        intro j v hj
        have hjl : j < t.length - 8 * k := by rw [← hl]; exact (List.getElem?_eq_some_iff.1 hj).1
        have e : (⟨R, 8 * k, none⟩ : Addr).add j = ⟨R, 8 * k + j, none⟩ := by
          unfold Addr.add
          split
          · rename_i h; subst h; rfl
          · rfl
        rw [e, World.cell?_alloc_lt _ _ _ (Array.getElem?_eq_some_iff.1 hR).1, row_cells hR, hC _ (by omega), ← hj, List.getElem?_map, List.getElem?_drop, List.getElem?_eq_getElem (by omega)]; rfl)
      (by rw [hl]; omega) (by intro v hv; obtain ⟨x, _, rfl⟩ := List.mem_map.1 hv; rfl)
    refine ⟨(wr.alloc (.cells z8 tt)).setRow wr.heap.size (z8.toList.take 0 ++ (t.drop (8 * k)).map byteV ++ z8.toList.drop (0 + ((t.drop (8 * k)).map byteV).length)).toArray, hr.trans (by rw [hl]; rfl), ?_, ?_⟩
    · have e : (fillRow t k).toArray = (z8.toList.take 0 ++ (t.drop (8 * k)).map byteV ++ z8.toList.drop (0 + ((t.drop (8 * k)).map byteV).length)).toArray := by
        unfold fillRow
        rw [hl, hzl, List.drop_replicate, Nat.zero_add]; rfl
      rw [e]
      exact setRow_heap _ _ _ _ _ _ (heap_alloc_new wr _)
    · refine ⟨rfl, rfl, rfl, by simp, fun i hi _ => ?_⟩
      rw [setRow_other _ _ _ _ (by omega)]
      exact heap_alloc_old wr _ i hi

def lenOf : Value → Nat
  | .slice _ n _ => n
  | _ => 0

set_option maxRecDepth 100000 in
set_option maxHeartbeats 2000000 in
theorem words1_in (n : Nat) (hn : 1 ≤ n) (l Bn B N : Nat) (hB : B ≤ Bn) (s : ByteArray) (_hs : s.size ≤ 200000) (hN : s.size < 8 * N) (J Jx : List Nat → World → Prop)
    (hY : ∀ (pre : List Nat) (x : Nat) (W : World), J pre W → pre.length < N → YieldAt Fence.wide (n - 1) Try.prog l #[.int .u64 (x : Int)] W fun e W' =>
      (e = .returned (.bool true) ∧ J (pre ++ [x]) W' ∧ CellsKept B W W') ∨ (e = .returned (.bool false) ∧ Jx (pre ++ [x]) W'))
    (W : World) (hW : W.heap[Bn]? = some (.cells #[.string s] 9 (0, 0))) (hBW : B ≤ W.heap.size) (hJ : AbidesFrom W.heap.size J) (h0 : J [] W) :
    CallsIn Fence.wide n Try.prog 46 #[.func (.yield l) #[] #[], .pointer (some ⟨Bn, 0, none⟩)] W fun e W' => (∃ v, e = .returned v) ∧
      ((∃ xs, xs = Kh.words s.data.toList ∧ J xs W') ∨ (∃ pre, True ∧ Jx pre W')) := by
  have hc0 : W.cell? ⟨Bn, 0, none⟩ = some (.string s) := cell_of_one hW
  obtain ⟨C, cap, m, hrun, hcap, hC⟩ := bytes_new s W
  have HC := Lib.hid hC
  have HJ0 := Lib.hid h0
  have HW := Lib.hid hW
  clear hC h0 hW
  refine callsIn_of_wp Try.func46 rfl trivial ?_ rfl
  simp only [Try.ntmps46, List.size_toArray, List.length_cons, List.length_nil, Nat.reduceAdd, Nat.reduceSub, Array.replicate_succ, Array.replicate_zero, List.push_toArray, List.append_toArray, List.nil_append, List.cons_append]
  gi_wp2
  gi_loopw [3] (fun r wr => ∃ (k : Nat) (A : Option Addr) (c : Nat), k ≤ s.size / 8 ∧ r = .slice A (s.size - 8 * k) c ∧ s.size - 8 * k ≤ c ∧ (8 * k < s.size → A = some ⟨W.heap.size, 8 * k, none⟩) ∧
      J ((Kh.whole s.data.toList).take k) wr ∧ wr.heap[Bn]? = some (.cells #[.string s] 9 (0, 0)) ∧ wr.heap[W.heap.size]? = some (.cells C 5 m))
    (fun r _ => lenOf r)
  case atStart =>
    refine ⟨0, _, cap, Nat.zero_le _, rfl, by omega, fun _ => rfl, hJ _ _ _ none HJ0.out ⟨rfl, rfl, rfl, by simp, fun i hi _ => Below.heap_alloc W _ i hi⟩ (fun r e => by cases e), ?_, ?_⟩
    · exact (Below.heap_alloc W _ Bn (Array.getElem?_eq_some_iff.1 HW.out).1).trans HW.out
    · exact heap_alloc_new W _
  case round =>
    obtain ⟨k, A, c, hk, rfl, hc, hA, hJs, hb1, hb2⟩ := hrel
    by_cases hlt : 8 * k + 8 ≤ s.size
    · have hA' := hA (by omega)
      subst hA'
      clear hA
      have hcells : ∀ j, j < 8 → wr.cell? ⟨W.heap.size, 8 * k + j, none⟩ = some (.int .u8 (((((s.data.toList.drop (8 * k)).take 8)[j]?.getD 0)).toNat : Int)) := by
        intro j hj
        rw [row_cells hb2, HC.out _ (by omega), List.getElem?_take_of_lt hj, List.getElem?_drop]; rfl
      obtain ⟨fn, tmps, assign, body, hy, hR⟩ := hY _ (Kh.word s.data.toList (8 * k)) wr hJs (by simp; omega)
      have Hc := Lib.hid hcells
      have Hb1 := Lib.hid hb1
      have Hb2 := Lib.hid hb2
      clear hcells hb1 hb2
      gi_wp2_with fail
      refine ⟨trivial, ?_⟩
      refine (callsIn_wide.2 (word_any _ _ _ _ ((s.data.toList.drop (8 * k)).take 8) _ (by simp; omega) (by omega) Hc.out)).mono ?_
      rintro e w1 ⟨rfl, rfl⟩
      change (Instr.yield l #[.int .u64 ((Kh.le ((s.data.toList.drop (8 * k)).take 8) : Nat) : Int)]).run Try.prog wr = _ at hy
      gi_wp2_with fail
      refine hR.mono ?_
      rintro e W3 (⟨rfl, hJ3, hk3⟩ | ⟨rfl, hJx3⟩)
      · have b1 := hk3 Bn _ hB Hb1.out rfl
        have b2 := hk3 W.heap.size _ hBW Hb2.out rfl
        have Hb1' := Lib.hid b1
        have Hb2' := Lib.hid b2
        have HJ3 := Lib.hid hJ3
        clear b1 b2 hJ3 hk3 Hb1 Hb2 hy hR
        gi_wp2
        go_roundw
        case rel =>
          refine ⟨k + 1, _, _, by omega, by rw [show s.size - 8 * (k + 1) = s.size - 8 * k - 8 by omega], by omega, fun h => by rw [if_neg (by omega)]; rfl, ?_, Hb1'.out, Hb2'.out⟩
          rw [whole_snoc _ _ (by simp; omega)]
          exact HJ3.out
        case measure => simp [lenOf]; omega
      · gi_wp2
        refine bodyPost_ret (results_none rfl _ _ _) rfl ?_
        exact ⟨⟨_, rfl⟩, .inr ⟨_, trivial, hJx3⟩⟩
    · have hk8 : k = s.size / 8 := by omega
      have hsl : s.data.toList.length = s.size := by simp
      obtain ⟨w4, hcp, hB4, hg4⟩ := copy_last (c := c) (k := k) (A := A) (R := W.heap.size) (g := wr.heap.size) s.data.toList (by rw [hsl]; exact hk8) (by rw [hsl]; exact hA) hb2 (by rw [hsl]; exact HC.out) rfl 72
      rw [hsl] at hcp
      have hl7 : (fillRow s.data.toList k).length = 8 := by simp [fillRow]; omega
      obtain ⟨u7, h7⟩ : ∃ u, w4.cell? ⟨wr.heap.size, 7, none⟩ = some u := by
        rw [hB4.cell, List.getElem?_toArray, List.getElem?_eq_getElem (by rw [hl7]; omega)]; exact ⟨_, rfl⟩
      have f7 := hB4.free 7
      have s0 : w4.cell? ⟨Bn, 0, none⟩ = some (.string s) := cell_of_one ((hg4.block Bn (Array.getElem?_eq_some_iff.1 hb1).1 (by simp)).trans hb1)
      have HB4 := Lib.hid hB4
      have Hg4 := Lib.hid hg4
      have Hsl := Lib.hid hsl
      have Hk8 := Lib.hid hk8
      clear hB4 hg4 hA hb1 hb2 hl7 hsl hk8
      gi_wp2_with fail
      refine ⟨trivial, ?_⟩
      have hx7 : Value.int .u8 ((s.size : Int) % 256) = byteV (UInt8.ofNat s.data.toList.length) := by
        rw [Hsl.out, byteV, UInt8.toNat_ofNat']; simp
      have HB5 : Hid (Bk (w4.setCell ⟨wr.heap.size, 7, none⟩ (.int .u8 ((s.size : Int) % 256))) wr.heap.size 72 ((lastBytes s.data.toList).map byteV).toArray) := by
        have h := HB4.out.put 7 (.int .u8 ((s.size : Int) % 256))
        rw [fillRow_set _ _ (by rw [Hsl.out]; exact Hk8.out) _ hx7] at h
        exact h
      have HJ5 : Hid (J (Kh.whole s.data.toList) (w4.setCell ⟨wr.heap.size, 7, none⟩ (.int .u8 ((s.size : Int) % 256)))) := by
        have e : (Kh.whole s.data.toList).take k = Kh.whole s.data.toList := List.take_of_length_le (by simp [Kh.whole]; exact Nat.le_of_eq Hk8.out.symm)
        rw [e] at hJs
        refine hJ _ _ _ none hJs ⟨Hg4.out.os, Hg4.out.tape, Hg4.out.output, by simpa using Hg4.out.size, fun i hi _ => (Below.heap_setCell _ _ _ _ (by simp; omega)).trans (Hg4.out.block i hi (by simp))⟩ (fun r e => by cases e)
      clear hx7 hcp HB4 Hg4 u7 h7 f7 s0 hJs
      generalize (w4.setCell ⟨wr.heap.size, 7, none⟩ (.int .u8 ((s.size : Int) % 256))) = w5 at HB5 HJ5 ⊢
      refine (callsIn_wide.2 (word_any _ 0 _ _ (lastBytes s.data.toList) _ (lastBytes_len _) (by omega) (by
        intro j hj
        rw [Nat.zero_add, HB5.out.cell, List.getElem?_toArray, List.getElem?_map, List.getElem?_eq_getElem (by rw [lastBytes_len]; exact hj)]; rfl))).mono ?_
      rintro e w1 ⟨rfl, rfl⟩
      rw [le_last]
      obtain ⟨fn, tmps, assign, body, hy, hR⟩ := hY _ (Kh.last s.data.toList) _ HJ5.out (by simp [Kh.whole]; omega)
      gi_wp2_with fail
      refine hR.mono ?_
      rintro e W3 (⟨rfl, hJ3, hk3⟩ | ⟨rfl, hJx3⟩)
      · gi_wp2
        go_end0
        exact ⟨⟨_, rfl⟩, .inl ⟨_, rfl, hJ3⟩⟩
      · gi_wp2
        go_end0
        exact ⟨⟨_, rfl⟩, .inr ⟨_, trivial, hJx3⟩⟩
end Go.Proofs.Ytdjpidniakedpaa
