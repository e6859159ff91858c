/- A row of bytes that a conversion of a string has laid, appended to: the law. (Such a row bears a mark, which the kit's word for owned rows shuts out.) No condition. -/
import Derived.Deep.AppendSrc
import Derived.Lib.LazyBuf
import Derived.Deep.Upon
import Derived.Laws.IdiomStrings
import Derived.Test.YtlknjdfiedkhbaaBytes
namespace Go.Proofs.Ytlknjdfiedkhbaa
open Go Go.RowKit

/-- a slice of n bytes at the head of a block from base on, which may be written up to its capacity -/
def BRow (w : World) (base : Nat) (v : Value) (n : Nat) (xs : List Value) : Prop :=
  ∃ g cap, v = .slice (some ⟨g, 0, none⟩) n cap ∧ base ≤ g ∧ g < w.heap.size ∧ n ≤ cap ∧ cap ≤ maxLen ∧ xs.length = n ∧ (∀ j, j < n → w.cell? ⟨g, j, none⟩ = xs[j]?) ∧ ∀ j, j < cap → (w.cell? ⟨g, j, none⟩).isSome = true ∧ w.frozen? ⟨g, j, none⟩ = false
theorem BRow.below {w w' : World} {base : Nat} {v : Value} {n : Nat} {xs : List Value} (h : BRow w base v n xs) (hb : Below w.heap.size w w') : BRow w' base v n xs := by
  obtain ⟨g, cap, h1, h2, h3, h4, h5, h6, h7, h8⟩ := h
  exact ⟨g, cap, h1, h2, Nat.lt_of_lt_of_le h3 hb.size, h4, h5, h6, fun j hj => (hb.cell (p := ⟨g, j, none⟩) h3).trans (h7 j hj), fun j hj => ⟨by rw [hb.cell (p := ⟨g, j, none⟩) h3]; exact (h8 j hj).1, (hb.frozen (p := ⟨g, j, none⟩) h3).trans (h8 j hj).2⟩⟩
theorem BRow.form {w : World} {base : Nat} {v : Value} {n : Nat} {xs : List Value} (h : BRow w base v n xs) : ∃ g cap, v = .slice (some ⟨g, 0, none⟩) n cap := by
  obtain ⟨g, cap, h1, _⟩ := h; exact ⟨g, cap, h1⟩
theorem BRow.cells {w : World} {base g n cap : Nat} {xs : List Value} (h : BRow w base (.slice (some ⟨g, 0, none⟩) n cap) n xs) (j : Nat) (hj : j < n) : w.cell? ⟨g, j, none⟩ = xs[j]? := by
  obtain ⟨g', cap', h1, h2, h3, h4, h5, h6, h7, h8⟩ := h
  cases h1
  exact h7 j hj

theorem new_cell (w : World) (cs : Array Value) (t : TypeId) (m : Nat × Nat) (j : Nat) : (w.alloc (.cells cs t m)).cell? ⟨w.heap.size, j, none⟩ = cs[j]? := by
  have hn : (w.alloc (.cells cs t m)).heap[w.heap.size]? = some (.cells cs t m) := heap_alloc_new w _
  simp only [World.cell?, hn]
  rfl
theorem new_frozen (w : World) (cs : Array Value) (t : TypeId) (m : Nat × Nat) (j : Nat) (h : ¬ (m.1 ≤ j ∧ j < m.2)) : (w.alloc (.cells cs t m)).frozen? ⟨w.heap.size, j, none⟩ = false := by
  have hn : (w.alloc (.cells cs t m)).heap[w.heap.size]? = some (.cells cs t m) := heap_alloc_new w _
  obtain ⟨lo, hi⟩ := m
  simp only [World.frozen?, hn]
  simpa using h

theorem run_append_brow {P : Program} (w : World) (t tx ty e : TypeId) (i : TypeInfo) (z : Value) (ht : P.underlying t = some (.slice e)) (hi : P.info? e = some i) (hz : i.zero = some z) (hs1 : i.size = 1) (hb1 : i.bytes = 1) (hz1 : z.cells.size = 1)
    (base : Nat) (v : Value) (n : Nat) (xs : List Value) (h : BRow w base v n xs) (xv : Value) (k : Nat) (news : List Value) (hs : Src P 1 tx xv k news w) (hm : n + k ≤ 140737488355328) (hbase : base ≤ w.heap.size) :
    ∃ v' w', (Builtin.append_ #[t, tx] ty #[v, xv]).run P w = .ok v' w' ∧ BRow w' base v' (n + k) (xs ++ news) ∧ Below base w w' := by
  obtain ⟨g, cap, rfl, h2, h3, h4, h5, h6, h7, h8⟩ := h
  have hnl : news.length = k := by simpa using hs.newsLen
  rw [← hs1] at hs
  by_cases hroom : n + k ≤ cap
  · have hc : ∀ j, j < news.length → (w.cell? ⟨g, 0 + n * i.size + j, none⟩).isSome = true := fun j hj => by rw [hs1, Nat.zero_add, Nat.mul_one]; exact (h8 _ (by omega)).1
    have hf : ∀ j, j < news.length → w.frozen? ⟨g, 0 + n * i.size + j, none⟩ = false := fun j hj => by rw [hs1, Nat.zero_add, Nat.mul_one]; exact (h8 _ (by omega)).2
    have hr := run_append_room_src (P := P) w t tx ty e i ht hi g 0 n cap xv k news hs hroom hc hf
    refine ⟨_, _, hr, ⟨g, cap, rfl, h2, ?_, hroom, h5, by simp [h6, hnl], fun j hj => ?_, fun j hj => ⟨?_, ?_⟩⟩, ?_⟩
    · have := (below_setCells (a := w) (Nat.zero_le g) news (0 + n * i.size) w (Below.refl 0 w)).size
      omega
    · rw [hs1, Nat.zero_add, Nat.mul_one]
      by_cases hjn : j < n
      · rw [World.cell?_setCells_out g news n w ⟨g, j, none⟩ (fun _ _ => .inl hjn), h7 j hjn, List.getElem?_append_left (by omega)]
      · have := World.cell?_setCells_in g news n w (fun q hq => (h8 _ (by omega)).1) (j - n) (by omega)
        rw [show n + (j - n) = j by omega] at this
        rw [this, List.getElem?_append_right (by omega), h6, List.getElem?_eq_getElem (by omega)]
    · rw [hs1, Nat.zero_add, Nat.mul_one]
      by_cases hjn : n ≤ j ∧ j < n + news.length
      · have := World.cell?_setCells_in g news n w (fun q hq => (h8 _ (by omega)).1) (j - n) (by omega)
        rw [show n + (j - n) = j by omega] at this
        rw [this]; rfl
      · rw [World.cell?_setCells_out g news n w ⟨g, j, none⟩ (fun _ _ => by show j < n ∨ n + news.length ≤ j; omega)]
        exact (h8 j hj).1
    · rw [World.frozen?_setCells]
      exact (h8 j hj).2
    · exact below_setCells h2 news _ w (Below.refl _ _)
  · have hold : (Builtin.firstCells i.size n (.slice (some ⟨g, 0, none⟩) n cap)).run P w.drew = .ok xs.toArray w.drew := by
      refine run_firstCells_some w.drew i.size n ⟨g, 0, none⟩ n cap xs (by rw [hs1, h6, Nat.mul_one]) (fun j u hu => ?_)
      have hj : j < n := by rw [← h6]; exact (List.getElem?_eq_some_iff.1 hu).1
      have e1 : (⟨g, 0, none⟩ : Addr).add j = ⟨g, j, none⟩ := by
        unfold Addr.add
        split
        · rename_i h0; subst h0; rfl
        · simp
      rw [e1]
      exact (h7 j hj).trans hu
    have hr := run_append_grow_src (P := P) w t tx ty e i z ht hi hz (some ⟨g, 0, none⟩) n cap xs hold xv k news hs (by omega) (by omega) (growslice_fits (by omega) (by rw [hb1]; omega))
    have hge := grownCap_ge w (n + k) cap e
    have hcm : grownCap w (n + k) cap e ≤ maxLen := grownCap_le_maxLen w (n + k) cap e (by unfold maxLen; omega)
    have hcell := new_cell w.drew ((xs ++ news).toArray ++ Builtin.zeroCells z.cells (grownCap w (n + k) cap e - (n + k))) e (0, 0)
    have hsz : ((xs ++ news).toArray ++ Builtin.zeroCells z.cells (grownCap w (n + k) cap e - (n + k))).size = grownCap w (n + k) cap e := by
      rw [Array.size_append, size_zeroCells, hz1, List.size_toArray, List.length_append, h6, hnl]; omega
    refine ⟨_, _, hr, ⟨w.heap.size, _, rfl, hbase, by simp, hge, hcm, by simp [h6, hnl], fun j hj => ?_, fun j hj => ⟨?_, ?_⟩⟩, ?_⟩
    · exact (hcell j).trans (by rw [Array.getElem?_append_left (by simp; omega), List.getElem?_toArray])
    · have e1 := hcell j
      rw [Array.getElem?_eq_getElem (by rw [hsz]; exact hj)] at e1
      exact (congrArg Option.isSome e1).trans rfl
    · exact new_frozen w.drew _ e (0, 0) j (by simp)
    · exact ((Below.refl base w).drew).alloc hbase _

theorem wpList_append_brow {P : Program} (w : World) {ops : Array Oper} {rest : List Oper} {o : Oper} {a : Act} {Q : Exit → Act → World → Prop} (hgd : o.guard = none) (s x : Operand) (t tx : TypeId)
    (ho : o.op = .call { callee := .builtin .append, args := #[s, x], argTypes := #[t, tx] }) (e : TypeId) (i : TypeInfo) (z : Value) (ht : P.underlying t = some (.slice e)) (hi : P.info? e = some i) (hz : i.zero = some z) (hs1 : i.size = 1) (hb1 : i.bytes = 1) (hz1 : z.cells.size = 1)
    (base : Nat) (v : Value) (n : Nat) (xs : List Value) (hv : a.eval s = v) (h : BRow w base v n xs) (xv : Value) (k : Nat) (news : List Value) (hx : a.eval x = xv) (hs : Src P 1 tx xv k news w) (hm : n + k ≤ 140737488355328) (hbase : base ≤ w.heap.size)
    (hK : ∀ v' w', BRow w' base v' (n + k) (xs ++ news) → Below base w w' → wpList P ops Q rest (a.put o.dst v') w') : wpList P ops Q (o :: rest) a w := by
  refine wpList_plain hgd fun K hK' => ?_
  obtain ⟨v', w', hrun, r1, r2⟩ := run_append_brow (P := P) w t tx o.type e i z ht hi hz hs1 hb1 hz1 base v n xs h xv k news hs hm hbase
  unfold Oper.wp
  simp [execOp, ho, resolve, invoke, builtin, hv, hx, hrun, Result.andThen]
  exact hK' _ _ (hK v' w' r1 r2)

theorem bytesRow_size (s : ByteArray) (w : World) (e : TypeId) : (bytesRow s (grownCap w s.size 0 e)).size = grownCap w s.size 0 e := by
  have := grownCap_ge w s.size 0 e
  unfold bytesRow
  simp
  omega
/-- '[]byte(s)' -/
theorem brow_of_string (s : ByteArray) (w : World) (hs : s.size ≤ 140737488355328) : ∃ v w', (convert 9 54 (.string s)).run Try.prog w = .ok v w' ∧ BRow w' w.heap.size v s.size (s.data.toList.map byteV) ∧ Below w.heap.size w w' := by
  refine ⟨_, _, run_bytes_of_string w 9 54 5 s Try.underlying9 Try.underlying54 Try.underlying5, ⟨w.heap.size, _, rfl, Nat.le_refl _, by simp, grownCap_ge _ _ _ _, grownCap_le_maxLen _ _ _ _ (by unfold maxLen; omega), by simp, fun j hj => ?_, fun j hj => ⟨?_, ?_⟩⟩, ((Below.refl _ _).drew).alloc (Nat.le_refl _) _⟩
  · refine (new_cell w.drew _ _ _ j).trans ?_
    rw [bytesRow_at s _ j hj, List.getElem?_map, List.getElem?_eq_getElem (by simpa using hj)]; rfl
  · have e1 := new_cell w.drew (bytesRow s (grownCap w s.size 0 5)) 5 ((bytesRow s (grownCap w s.size 0 5)).size, (bytesRow s (grownCap w s.size 0 5)).size + 1) j
    rw [Array.getElem?_eq_getElem (by rw [bytesRow_size]; exact hj)] at e1
    exact (congrArg Option.isSome e1).trans rfl
  · refine new_frozen w.drew _ _ _ j ?_
    simp only [bytesRow_size]
    omega
end Go.Proofs.Ytlknjdfiedkhbaa
