/- Rows of items that a call made itself; 'append' of a whole slice of items to one. No condition. -/
import Derived.Test.YtlknjdfiedkhbaaJoItms
import Derived.Maps.AppendAt
import Derived.Deep.RegionHeld3
import Derived.Deep.AppendLies
namespace Go.Proofs.Ytlknjdfiedkhbaa
open Go Go.RowKit
open Jo (RId Itm Rec rcA rcL itA itL idA idL)

theorem infoItm : (Try.prog.info? 32).map (fun i => (i.zero, i.size, i.bytes)) = some (some (.agg (itA Jo.zIt)), 11, 96) := by kernel_rfl
/-- a row of items of the call's own, not nil -/
def OwnI (w : World) (base : Nat) (v : Value) (L : List Itm) : Prop := w.ownsRow base 32 11 v L.length (L.flatMap itL) ∧ v ≠ .slice none 0 0
theorem own0 (w : World) (base : Nat) (h : base ≤ w.heap.size) : OwnI (w.alloc (.cells #[] 32)) base (.slice (some ⟨w.heap.size, 0, none⟩) 0 0) [] :=
  ⟨⟨rfl, .inr ⟨w.heap.size, 0, #[], rfl, h, heap_alloc_new w _, Nat.le_refl _, by unfold maxLen; omega, rfl, rfl⟩⟩, fun e => by cases e⟩
theorem OwnI.block {w : World} {base : Nat} {v : Value} {L : List Itm} (h : OwnI w base v L) : ∃ g, v.ownBlock = some g ∧ base ≤ g ∧ g < w.heap.size := by
  rcases h.1.2 with ⟨e, _⟩ | ⟨g, cap, cur, e, hb, hg, _⟩
  · exact absurd e h.2
  · exact ⟨g, by rw [e]; rfl, hb, (Array.getElem?_eq_some_iff.1 hg).1⟩
theorem OwnI.below {w w' : World} {base : Nat} {v : Value} {L : List Itm} (h : OwnI w base v L) (hb : Below w.heap.size w w') : OwnI w' base v L :=
  ⟨h.1.kept (grown_below hb none) (by obtain ⟨g, e, _⟩ := h.block; rw [e]; exact Or.inr (by simp)), h.2⟩
theorem OwnI.alloc {w : World} {base : Nat} {v : Value} {L : List Itm} (h : OwnI w base v L) (o : Obj) : OwnI (w.alloc o) base v L := h.below ((Below.refl _ _).alloc (Nat.le_refl _) o)
theorem OwnI.drew {w : World} {base : Nat} {v : Value} {L : List Itm} (h : OwnI w base v L) : OwnI w.drew base v L := h
theorem flatI_get : ∀ (L : List Itm) (k : Nat) (r : Itm), L[k]? = some r → ∀ j v, (itL r)[j]? = some v → (L.flatMap itL)[k * 11 + j]? = some v
  | [], k, r, h, _, _, _ => by simp at h
  | x :: L, 0, r, h, j, v, hv => by
    simp only [List.getElem?_cons_zero, Option.some.injEq] at h
    subst h
    have hj : j < (itL x).length := (List.getElem?_eq_some_iff.1 hv).1
    rw [List.flatMap_cons, Nat.zero_mul, Nat.zero_add, List.getElem?_append_left hj]
    exact hv
  | x :: L, k + 1, r, h, j, v, hv => by
    have hl : (itL x).length = 11 := rfl
    rw [List.flatMap_cons, List.getElem?_append_right (by omega), hl]
    have e : (k + 1) * 11 + j - 11 = k * 11 + j := by omega
    rw [e]
    exact flatI_get L k r (by simpa using h) j v hv
theorem flatI_len : ∀ L : List Itm, (L.flatMap itL).length = L.length * 11
  | [] => rfl
  | x :: L => by
    rw [List.flatMap_cons, List.length_append, flatI_len L, List.length_cons]
    have : (itL x).length = 11 := rfl
    omega
theorem flatI_inv : ∀ (L : List Itm) (n : Nat) (v : Value), (L.flatMap itL)[n]? = some v → ∃ k r j, L[k]? = some r ∧ n = k * 11 + j ∧ (itL r)[j]? = some v
  | [], n, v, h => by simp at h
  | x :: L, n, v, h => by
    have hl : (itL x).length = 11 := rfl
    rw [List.flatMap_cons] at h
    by_cases hn : n < 11
    · rw [List.getElem?_append_left (by omega)] at h
      exact ⟨0, x, n, rfl, by omega, h⟩
    · rw [List.getElem?_append_right (by omega), hl] at h
      obtain ⟨k, r, j, h1, h2, h3⟩ := flatI_inv L (n - 11) v h
      exact ⟨k + 1, r, j, by simpa using h1, by omega, h3⟩
theorem itL_one (L : List Itm) : ∀ u ∈ L.flatMap itL, u.oneCell' = true := fun u hu => by
  obtain ⟨x, _, hx⟩ := List.mem_flatMap.1 hu
  exact List.all_eq_true.1 (by simpa [itA] using Jo.itA_one x) u hx
theorem OwnI.itms {w : World} {base : Nat} {v : Value} {L : List Itm} (h : OwnI w base v L) : ∃ a c, v = .slice (some a) L.length c ∧ ItmsAt w (some a) L ∧ L.length ≤ c := by
  have hc := fun g hg => h.1.cells (g := g) hg
  rcases h.1.2 with ⟨e, _⟩ | ⟨g, cap, cur, rfl, _, _, hcap, _⟩
  · exact absurd e h.2
  · refine ⟨_, cap, rfl, fun k r hk => ⟨g, 0, rfl, fun j u hu => ?_⟩, hcap⟩
    have := hc g rfl _ u (flatI_get L k r hk j u hu)
    rw [Addr.add_mid] at this
    rw [Nat.add_assoc]
    exact this
theorem ItmsAt.news {w : World} {a : Addr} {M : List Itm} (h : ItmsAt w (some a) M) : ∀ j u, (M.flatMap itL)[j]? = some u → w.cell? (a.add j) = some u := fun n u hu => by
  obtain ⟨k, r, j, h1, rfl, h3⟩ := flatI_inv M n u hu
  obtain ⟨b, off, hA, hr⟩ := h k r h1
  cases hA
  have := hr j u h3
  rw [Addr.add_mid]
  rw [Nat.add_assoc] at this
  exact this
theorem itms_new (w : World) (x : Itm) : ItmsAt (w.alloc (.cells (itA x) 32)) (some ⟨w.heap.size, 0, none⟩) [x] := fun k r hk => by
  match k, hk with
  | 0, hk =>
    cases hk
    exact ⟨_, 0, rfl, fun j v hv => by rw [Nat.zero_mul, Nat.add_zero, Nat.zero_add, World.cell?_alloc_new]; simpa [itA] using hv⟩
/-- what appending leaves -/
def AppI (w : World) (base : Nat) (v : Value) (L M : List Itm) (v' : Value) (w' : World) : Prop := OwnI w' base v' (L ++ M) ∧ w.grownBy w' v.ownBlock
theorem AppI.below {w w0 w' : World} {base : Nat} {v v' : Value} {L M : List Itm} (h : AppI w base v L M v' w') (hv : OwnI w base v L) (hb : Below base w0 w) : Below base w0 w' := by
  obtain ⟨g, e, hg, hl⟩ := hv.block
  have := h.2
  rw [e] at this
  exact below_grown hb this hg (by omega)
theorem run_app {w : World} {base : Nat} {v : Value} {L : List Itm} (h : OwnI w base v L) {a : Addr} {M : List Itm} (hM : ItmsAt w (some a) M) (c : Nat) (t : TypeId) (h1 : L.length + M.length ≤ 1000) (hb : base ≤ w.heap.size) :
    ∃ v' w', (Builtin.append_ #[37, 37] t #[v, .slice (some a) M.length c]).run Try.prog w = .ok v' w' ∧ AppI w base v L M v' w' := by
  obtain ⟨i0, hi0, hz0, hz1, hz2⟩ := info_parts infoItm
  obtain ⟨v', w', hr, h2, h3, h4, _⟩ := run_append_own_at (P := Try.prog) w base 37 t 32 i0 (.agg (itA Jo.zIt)) 11 96 Try.underlying37 hi0 hz0 hz1 hz2 rfl (by decide) v L.length (L.flatMap itL) h.1 a M.length c (M.flatMap itL)
    (flatI_len M) hM.news (itL_one M) (by unfold maxLen; omega) (by omega) hb
  refine ⟨v', w', hr, ⟨by rw [List.length_append, List.flatMap_append]; exact h2, fun e => h.2 (h4.1 e).1⟩, h3⟩
theorem wp_app {w : World} {o : Oper} {a : Act} {K : Act → World → Prop} {Q : Exit → Act → World → Prop} (s x : Operand) (ho : o.op = .call { callee := .builtin .append, args := #[s, x], argTypes := #[37, 37] })
    (base : Nat) (v : Value) (L : List Itm) (hs : a.eval s = v) (h : OwnI w base v L) (A : Addr) (M : List Itm) (c : Nat) (hx : a.eval x = .slice (some A) M.length c) (hM : ItmsAt w (some A) M) (h1 : L.length + M.length ≤ 1000) (hb : base ≤ w.heap.size)
    (hK : ∀ v' w', AppI w base v L M v' w' → K (a.put o.dst v') w') : o.wp Try.prog a w K Q := by
  obtain ⟨v', w', hr, h2⟩ := run_app h hM c o.type h1 hb
  unfold Oper.wp execOp
  simp only [ho, resolve, invoke, builtin, Sem.run_bind, Sem.run_pure, Result.andThen_ok, List.map_toArray, List.map_cons, List.map_nil, hs, hx, hr]
  exact hK v' w' h2
theorem list_app {w : World} {ops : Array Oper} {rest : List Oper} {o : Oper} {a : Act} {Q : Exit → Act → World → Prop} (hgd : o.guard = none) (s x : Operand) (ho : o.op = .call { callee := .builtin .append, args := #[s, x], argTypes := #[37, 37] })
    (base : Nat) (v : Value) (L : List Itm) (hs : a.eval s = v) (h : OwnI w base v L) (A : Addr) (M : List Itm) (c : Nat) (hx : a.eval x = .slice (some A) M.length c) (hM : ItmsAt w (some A) M) (h1 : L.length + M.length ≤ 1000) (hb : base ≤ w.heap.size)
    (hK : ∀ v' w', AppI w base v L M v' w' → wpList Try.prog ops Q rest (a.put o.dst v') w') : wpList Try.prog ops Q (o :: rest) a w :=
  wpList_plain hgd fun _ hk => wp_app s x ho base v L hs h A M c hx hM h1 hb fun v' w' h2 => hk _ _ (hK v' w' h2)
theorem step_app {w : World} {ops : Array Oper} {o : Oper} {a : Act} {K : Act → World → Prop} {Q : Exit → Act → World → Prop} {E : Prop} (hgd : o.guard = none) (s x : Operand) (ho : o.op = .call { callee := .builtin .append, args := #[s, x], argTypes := #[37, 37] })
    (base : Nat) (v : Value) (L : List Itm) (hs : a.eval s = v) (h : OwnI w base v L) (A : Addr) (M : List Itm) (c : Nat) (hx : a.eval x = .slice (some A) M.length c) (hM : ItmsAt w (some A) M) (h1 : L.length + M.length ≤ 1000) (hb : base ≤ w.heap.size)
    (hK : ∀ v' w', AppI w base v L M v' w' → K (a.put o.dst v') w') : if Region.wanted o (yielded ops a.tmps) = true then Oper.wp Try.prog o a w K Q else E := by
  have hw : Region.wanted o (yielded ops a.tmps) = true := by simp [Region.wanted, hgd]
  rw [if_pos hw]
  exact wp_app s x ho base v L hs h A M c hx hM h1 hb hK
theorem bs0_item (w : World) : Sem.run Try.prog (Instr.buildSlice 37 0 #[]) w = .ok (.slice (some ⟨w.heap.size, 0, none⟩) 0 0) (w.alloc (.cells #[] 32)) := by kernel_rfl
theorem bs1_item (x : Itm) (w : World) : Sem.run Try.prog (Instr.buildSlice 37 1 #[(0, .agg (itL x).toArray)]) w = .ok (.slice (some ⟨w.heap.size, 0, none⟩) 1 1) (w.alloc (.cells (itA x) 32)) := by kernel_rfl
/-! The same, for a region that draws its order: what is known of the world goes along. -/
theorem own0' {w : World} {base n : Nat} (hn : w.heap.size = n) (h : base ≤ n) : OwnI (w.alloc (.cells #[] 32)) base (.slice (some ⟨n, 0, none⟩) 0 0) [] := by
  subst hn; exact own0 w base h
theorem itms_new' {w : World} {n : Nat} (x : Itm) (hn : w.heap.size = n) : ItmsAt (w.alloc (.cells (itA x) 32)) (some ⟨n, 0, none⟩) [x] := by
  subst hn; exact itms_new w x
theorem ItmsAt.grown {w w' : World} {A : Addr} {M : List Itm} {row : Option Nat} (h : ItmsAt w (some A) M) (hg : w.grownBy w' row) (hne : some A.block ≠ row) : ItmsAt w' (some A) M := fun k r hk => by
  obtain ⟨b, off, hA, hr⟩ := h k r hk
  cases hA
  refine ⟨b, off, rfl, fun j v hv => ?_⟩
  have h1 := hr j v hv
  have hlt := World.block_lt_of_cell? _ _ h1
  rw [hg.cell_far ⟨b, off + k * 11 + j, none⟩ hlt hne]
  exact h1
theorem ItmsAt.alloc {w : World} {A : Option Addr} {M : List Itm} (h : ItmsAt w A M) (o : Obj) : ItmsAt (w.alloc o) A M := h.below ((Below.refl _ _).alloc (Nat.le_refl _) o)
theorem step_app2 {w w0 : World} {ops : Array Oper} {o : Oper} {a : Act} {K : Act → World → Prop} {Q : Exit → Act → World → Prop} {E : Prop} (hgd : o.guard = none) (s x : Operand) (ho : o.op = .call { callee := .builtin .append, args := #[s, x], argTypes := #[37, 37] })
    (v : Value) (L : List Itm) (hs : a.eval s = v) (hbw : Hid (Below w0.heap.size w0 w)) (h : OwnI w w0.heap.size v L) (A : Addr) (M : List Itm) (c : Nat) (hx : a.eval x = .slice (some A) M.length c) (hM : ItmsAt w (some A) M) (h1 : L.length + M.length ≤ 1000)
    (hK : ∀ v' w', OwnI w' w0.heap.size v' (L ++ M) → Hid (Below w0.heap.size w0 w') → w.grownBy w' v.ownBlock → K (a.put o.dst v') w') : if Region.wanted o (yielded ops a.tmps) = true then Oper.wp Try.prog o a w K Q else E :=
  step_app hgd s x ho w0.heap.size v L hs h A M c hx hM h1 hbw.out.size fun v' w' h2 => hK v' w' h2.1 (h2.below h hbw.out) h2.2
/-! Parts of a slice of items; a ticket that is written. -/
theorem elem_itms : Try.prog.elem 37 = 32 := by kernel_rfl
theorem slice_itms : Try.prog.underlying 37 = some (.slice (Try.prog.elem 37)) := by kernel_rfl
theorem ItmsAt.take {w : World} {A : Option Addr} {l : List Itm} (h : ItmsAt w A l) (n : Nat) : ItmsAt w A (l.take n) := fun k r hk => h k r (by
  rw [List.getElem?_take] at hk
  split at hk
  · exact hk
  · simp at hk)
theorem itms_head (a : Addr) (c : Nat) (l : List Itm) (k : Nat) (hk : k ≤ l.length) (hc : l.length ≤ c) :
    ∃ a1, (∀ w, (Instr.slice 37 (.slice (some a) l.length c) none (some (.int .i64 (k : Int))) none).run Try.prog w = .ok (.slice (some a1) (l.take k).length c) w) ∧ ∀ w, ItmsAt w (some a) l → ItmsAt w (some a1) (l.take k) := by
  have e : ∀ w, (Instr.slice 37 (.slice (some a) l.length c) none (some (.int .i64 (k : Int))) none).run Try.prog w = .ok (sliced (some a) 0 k c 11) w := fun w => by
    rw [run_slice_h w _ _ _ _ slice_itms .i64 (k : Int) (by omega) (by omega), elem_itms, Try.sizeOf32]
    rfl
  have hl : (l.take k).length = k := by rw [List.length_take]; omega
  have hv : sliced (some a) 0 k c 11 = .slice (some a) k c := by
    unfold sliced
    have : (some a).map (fun a => a.add (0 * 11)) = some a := by simp [Addr.add]
    simp only [Nat.sub_zero]
    rw [this]
    split <;> rfl
  exact ⟨a, fun w => by rw [e, hl, hv], fun w h => h.take k⟩
theorem itms_tail (a : Addr) (c : Nat) (l : List Itm) (k : Nat) (hk : k ≤ l.length) (hc : l.length ≤ c) :
    ∃ a1 c1, (∀ w, (Instr.slice 37 (.slice (some a) l.length c) (some (.int .i64 ((k : Nat) : Int))) none none).run Try.prog w = .ok (.slice (some a1) (l.drop k).length c1) w) ∧ ∀ w, ItmsAt w (some a) l → ItmsAt w (some a1) (l.drop k) := by
  have e : ∀ w, (Instr.slice 37 (.slice (some a) l.length c) (some (.int .i64 (k : Int))) none none).run Try.prog w = .ok (sliced (some a) k l.length c 11) w := fun w => by
    rw [run_slice_l w _ _ _ _ slice_itms .i64 (k : Int) (by omega) (by omega), elem_itms, Try.sizeOf32]
    rfl
  refine ⟨if c = k then a else a.add (k * 11), c - k, fun w => ?_, fun w h => ?_⟩
  · rw [e, List.length_drop]
    unfold sliced
    simp only [Option.map_some]
    split <;> rfl
  · by_cases hlk : k < l.length
    · rw [if_neg (by omega)]
      intro j r hj
      rw [List.getElem?_drop] at hj
      obtain ⟨b, off, hA, hr⟩ := h (k + j) r hj
      cases hA
      refine ⟨b, off + k * 11, ?_, ?_⟩
      · unfold Addr.add
        split
        · rename_i hz; rw [hz]; rfl
        · rfl
      · rw [show off + k * 11 + j * 11 = off + (k + j) * 11 by omega]
        exact hr
    · rw [List.drop_eq_nil_of_le (by omega)]
      exact ItmsAt.nil _ _
def tickI (t : Int) (y : Itm) : Itm := { y with tick := t }
theorem flat_tick : ∀ (L : List Itm) (i : Nat) (t : Int), i < L.length → (L.flatMap itL).set (i * 11) (.int .i64 t) = (L.modify i (tickI t)).flatMap itL
  | [], i, t, h => absurd h (by simp)
  | x :: L, 0, t, _ => by
    have e : itL (tickI t x) = (itL x).set 0 (.int .i64 t) := rfl
    rw [List.flatMap_cons, Nat.zero_mul, List.set_append_left _ _ (Nat.succ_pos _), ← e]
    simp
  | x :: L, i + 1, t, h => by
    have hl : (itL x).length = 11 := rfl
    rw [List.flatMap_cons, List.set_append_right _ _ (by omega), hl, show (i + 1) * 11 - 11 = i * 11 by omega, flat_tick L i t (by simpa using h)]
    simp
theorem OwnI.tick {w : World} {base g n cap : Nat} {L : List Itm} (h : OwnI w base (.slice (some ⟨g, 0, none⟩) n cap) L) {i : Nat} (hi : i < L.length) (t : Int) : OwnI (w.setCell ⟨g, i * 11, none⟩ (.int .i64 t)) base (.slice (some ⟨g, 0, none⟩) n cap) (L.modify i (tickI t)) := by
  refine ⟨?_, h.2⟩
  obtain ⟨h1, h2⟩ := h.1
  refine ⟨by rw [flatI_len], ?_⟩
  rcases h2 with ⟨e, _⟩ | ⟨g', cap', cur, e, hb, hg, hn, hc, hs, ht⟩
  · cases e
  · cases e
    right
    refine ⟨g, cap, cur.setIfInBounds (i * 11) (.int .i64 t), by rw [List.length_modify], hb, ?_, by rw [List.length_modify]; exact hn, hc, by rw [Array.size_setIfInBounds]; exact hs, ?_⟩
    · simp [World.setCell, Array.getElem?_modify, hg]
    · rw [← flat_tick L i t hi, List.length_modify, Array.toList_setIfInBounds, List.take_set, ht]
theorem OwnI.form {w : World} {base : Nat} {v : Value} {L : List Itm} (h : OwnI w base v L) : ∃ g c, v = .slice (some ⟨g, 0, none⟩) L.length c ∧ base ≤ g ∧ L.length ≤ c := by
  rcases h.1.2 with ⟨e, _⟩ | ⟨g, cap, cur, e, hb, _, hcap, _⟩
  · exact absurd e h.2
  · exact ⟨g, cap, e, hb, hcap⟩
theorem OwnI.tickAt {w : World} {base g n c : Nat} {L : List Itm} (h : OwnI w base (.slice (some ⟨g, 0, none⟩) n c) L) {i : Nat} {y : Itm} (hy : L[i]? = some y) : w.cell? ⟨g, i * 11, none⟩ = some (.int .i64 y.tick) := by
  have := h.1.cells (g := g) rfl (i * 11 + 0) _ (flatI_get L i y hy 0 (.int .i64 y.tick) rfl)
  rw [Addr.add_mid] at this
  simpa using this
theorem OwnI.free {w : World} {base g n c : Nat} {L : List Itm} (h : OwnI w base (.slice (some ⟨g, 0, none⟩) n c) L) (o : Nat) : w.frozen? ⟨g, o, none⟩ = false := by
  rcases h.1.2 with ⟨e, _⟩ | ⟨g', cap, cur, e, _, hg, _⟩
  · cases e
  · cases e
    simp [World.frozen?, hg]
end Go.Proofs.Ytlknjdfiedkhbaa
