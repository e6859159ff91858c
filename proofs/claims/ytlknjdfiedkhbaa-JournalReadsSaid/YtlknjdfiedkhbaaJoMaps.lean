/- A map keyed by an id, its values two numbers: what its block holds, as a function; the look-up, the store and the deletion, at the operation.
Compact of the program as plain data. No program is in sight here but for the maps' ids. -/
import Derived.Test.YtlknjdfiedkhbaaJoRecs2
import Derived.Maps.OwnSet
import Derived.DeepKeys4
namespace Go.Proofs.Ytlknjdfiedkhbaa
open Go Go.RowKit Go.Maps
open Go.ChangeMaps (setBlock heap_setBlock_same heap_setBlock_other modify_eq_set)
open Jo (RId idA idL)

theorem jo_laid : laidOutB Try.prog = true := by kernel_rfl
theorem jo_row : (30 : TypeId) < Try.prog.types.size := of_decide_eq_true (by kernel_rfl)
theorem jo_wide : (match Try.prog.underlying 30 with | some (.array _ _) | some (.struct _) => true | _ => false) = true := by rw [Try.underlying30]
set_option maxRecDepth 100000 in
theorem jo_law : Keyed Try.prog 30 := Keyed.of_law (deep_law_laid jo_laid (m := 2) (by omega) jo_row (by kernel_rfl) jo_wide)

/-- the numbers of an id are numbers of the machine -/
def okId (x : RId) : Prop := (Lit.int .i64 x.src).wf = true ∧ (Lit.int .i64 x.cre).wf = true ∧ (Lit.int .i64 x.seq).wf = true ∧ (Lit.int .i64 x.off).wf = true ∧ (Lit.int .i64 x.tot).wf = true

theorem jo_keyType : Try.prog.keyType 30 = true := by kernel_rfl
theorem jo_cells : Try.prog.cellsOf 30 = 5 := by kernel_rfl
theorem jo_int : Try.prog.cellsOf 3 = 1 := by kernel_rfl

theorem jo_key (x : RId) (h : okId x) : ∃ l, keyOf Try.prog 30 (.agg (idA x)) = some l := by
  obtain ⟨m, hm⟩ : ∃ m, Try.prog.types.size = m + 1 := Nat.exists_eq_succ_of_ne_zero (by have := jo_row; intro c; rw [c] at this; exact Nat.not_lt_zero _ this)
  obtain ⟨h1, h2, h3, h4, h5⟩ := h
  unfold keyOf
  rw [Try.underlying30]
  simp only [jo_keyType, Value.formed, Try.underlying30, Jo.idA_size, jo_cells, hm, Program.keyLits]
  simp [idA, idL, Value.cells, Try.underlying3, jo_int, h1, h2, h3, h4, h5]

/-- the value at a key -/
def kvV (v : Int × Int) : Value := .agg #[.int .i64 v.1, .int .i64 v.2]
theorem kv_zero (w : World) : (zeroValue 59).run Try.prog w = .ok (kvV (0, 0)) w := by kernel_rfl

/-- block b is a map that holds F -/
def MapIs (w : World) (b : Nat) (F : RId → Option (Int × Int)) : Prop :=
  ∃ es clock, w.heap[b]? = some (.map es clock) ∧ (es.toList.map (·.key)).Nodup ∧
    (∀ e ∈ es.toList, ∃ x v, okId x ∧ e.key = .agg (idA x) ∧ e.val = kvV v ∧ F x = some v) ∧ (∀ x v, F x = some v → ∃ e ∈ es.toList, e.key = .agg (idA x))

theorem MapIs.made (w : World) : MapIs (w.alloc (.map #[] 0)) w.heap.size (fun _ => none) :=
  ⟨#[], 0, (MapKept.heap_alloc w _).1, by simp, by simp, by simp⟩
theorem MapIs.lt {w : World} {b : Nat} {F : RId → Option (Int × Int)} (h : MapIs w b F) : b < w.heap.size := by
  obtain ⟨es, clock, hb, _⟩ := h
  exact (Array.getElem?_eq_some_iff.1 hb).1
theorem MapIs.kept {w w' : World} {b : Nat} {F : RId → Option (Int × Int)} {row : Option Nat} (h : MapIs w b F) (hg : w.grownBy w' row) (hne : some b ≠ row) : MapIs w' b F := by
  have hlt := h.lt
  obtain ⟨es, clock, hb, h1⟩ := h
  exact ⟨es, clock, (hg.block b hlt hne).trans hb, h1⟩
theorem MapIs.below {w w' : World} {b B : Nat} {F : RId → Option (Int × Int)} (h : MapIs w b F) (hB : Below B w w') (hb : b < B) : MapIs w' b F := by
  obtain ⟨es, clock, hb1, h1⟩ := h
  exact ⟨es, clock, (hB.block b hb).trans hb1, h1⟩

theorem keys_of {es : Array MapEntry} {F : RId → Option (Int × Int)} (h : ∀ e ∈ es.toList, ∃ x v, okId x ∧ e.key = .agg (idA x) ∧ e.val = kvV v ∧ F x = some v) : ∀ e ∈ es.toList, ∃ l, keyOf Try.prog 30 e.key = some l := fun e he => by
  obtain ⟨x, v, hx, hk, _⟩ := h e he
  rw [hk]
  exact jo_key x hx

theorem agg_inj {x y : RId} (h : Value.agg (idA x) = Value.agg (idA y)) : x = y := Jo.idA_inj (Value.agg.inj h)

/-- 'v, ok := m[k]' -/
theorem MapIs.look {w : World} {b : Nat} {F : RId → Option (Int × Int)} (h : MapIs w b F) (x : RId) (hx : okId x) :
    (Instr.lookup 57 (.map (some b)) (.agg (idA x)) true).run Try.prog w = .ok (.tuple #[kvV ((F x).getD (0, 0)), .bool (F x).isSome]) w := by
  obtain ⟨es, clock, hb, hd, h1, h2⟩ := h
  obtain ⟨l, hl⟩ := jo_key x hx
  rcases jo_law.find w hl es.toList (keys_of h1) with ⟨hf, hn⟩ | ⟨j, e, hf, hj, hk⟩
  · have : F x = none := by
      cases hF : F x with
      | none => rfl
      | some v =>
        obtain ⟨e, he, hk⟩ := h2 x v hF
        exact absurd hk (hn e he)
    simp [Instr.lookup, run_underlying Try.underlying57, MapKept.run_getObj_map hb, jo_law.check w _ hl, hf, Result.andThen, this]
    rfl
  · obtain ⟨y, v, hy, hky, hv, hF⟩ := h1 e (List.mem_of_getElem? hj)
    rw [hk] at hky
    obtain rfl := agg_inj hky
    simp [Instr.lookup, run_underlying Try.underlying57, MapKept.run_getObj_map hb, jo_law.check w _ hl, hf, hv, Result.andThen, hF]

def putF (F : RId → Option (Int × Int)) (x : RId) (v : Int × Int) : RId → Option (Int × Int) := fun y => if y = x then some v else F y
def delF (F : RId → Option (Int × Int)) (x : RId) : RId → Option (Int × Int) := fun y => if y = x then none else F y

/-- 'm[k] = v' -/
theorem MapIs.put {w : World} {b : Nat} {F : RId → Option (Int × Int)} (h : MapIs w b F) (x : RId) (hx : okId x) (v : Int × Int) :
    ∃ w', (Instr.mapUpdate 57 (.map (some b)) (.agg (idA x)) (kvV v)).run Try.prog w = .ok () w' ∧ MapIs w' b (putF F x v) ∧ w.grownBy w' (some b) := by
  obtain ⟨es, clock, hb, hd, h1, h2⟩ := h
  obtain ⟨l, hl⟩ := jo_key x hx
  have grown : ∀ o, w.grownBy (setBlock w b o) (some b) := fun o => ⟨rfl, rfl, rfl, by simp [setBlock], fun i _ hi => heap_setBlock_other hb _ (fun e => hi (by rw [e]))⟩
  rcases jo_law.find w hl es.toList (keys_of h1) with ⟨hf, hn⟩ | ⟨j, e0, hf, hj, hk⟩
  · refine ⟨setBlock w b (.map (es.push ⟨.agg (idA x), kvV v, clock⟩) (clock + 1)), ?_, ⟨_, _, heap_setBlock_same hb _, ?_, ?_, ?_⟩, grown _⟩
    · simp [Instr.mapUpdate, run_underlying Try.underlying57, MapKept.run_getObj_map hb, jo_law.check w _ hl, hf, MapKept.run_setObj_map _ hb, Result.andThen, setBlock]
    · rw [Array.toList_push, List.map_append, List.nodup_append]
      refine ⟨hd, by simp, ?_⟩
      intro a ha c hc
      obtain ⟨e, he, rfl⟩ := List.mem_map.1 ha
      simp only [List.map_cons, List.map_nil, List.mem_singleton] at hc
      rw [hc]
      exact hn e he
    · intro e he
      simp only [Array.toList_push, List.mem_append, List.mem_singleton] at he
      rcases he with he | rfl
      · obtain ⟨y, u, hy, hky, hu, hF⟩ := h1 e he
        refine ⟨y, u, hy, hky, hu, ?_⟩
        have : y ≠ x := fun c => hn e he (by rw [hky, c])
        simp [putF, this, hF]
      · exact ⟨x, v, hx, rfl, rfl, by simp [putF]⟩
    · intro y u hyu
      simp only [Array.toList_push, List.mem_append, List.mem_singleton]
      by_cases c : y = x
      · subst c
        exact ⟨_, Or.inr rfl, rfl⟩
      · simp only [putF, c, if_false] at hyu
        obtain ⟨e, he, hke⟩ := h2 y u hyu
        exact ⟨e, Or.inl he, hke⟩
  · have hj' : es[j]? = some e0 := by simpa using hj
    have hjl : j < es.toList.length := (List.getElem?_eq_some_iff.1 hj).1
    have hlist : (es.modify j (fun e' => { e' with key := .agg (idA x), val := kvV v })).toList = es.toList.set j { e0 with key := .agg (idA x), val := kvV v } := by rw [Array.toList_modify, modify_eq_set _ _ _ _ hj]
    have hkeys : (es.toList.set j { e0 with key := .agg (idA x), val := kvV v }).map (·.key) = es.toList.map (·.key) := by
      rw [List.map_set]
      refine List.ext_getElem? (fun i => ?_)
      rw [List.getElem?_set]
      split
      · rename_i c
        subst c
        simp [hj, hk]
        simpa using hjl
      · rfl
    refine ⟨setBlock w b (.map (es.modify j (fun e' => { e' with key := .agg (idA x), val := kvV v })) clock), ?_, ⟨_, _, heap_setBlock_same hb _, ?_, ?_, ?_⟩, grown _⟩
    · simp [Instr.mapUpdate, run_underlying Try.underlying57, MapKept.run_getObj_map hb, jo_law.check w false hl, hf, hj', hk, jo_law.stays w hl, MapKept.run_setObj_map _ hb, Result.andThen, setBlock]
    · rw [hlist, hkeys]
      exact hd
    · intro e he
      rw [hlist] at he
      obtain ⟨i, hi⟩ := List.getElem?_of_mem he
      rw [List.getElem?_set] at hi
      split at hi
      · simp only [Option.some.injEq] at hi
        subst hi
        exact ⟨x, v, hx, rfl, rfl, by simp [putF]⟩
      · rename_i c
        obtain ⟨y, u, hy, hky, hu, hF⟩ := h1 e (List.mem_of_getElem? hi)
        refine ⟨y, u, hy, hky, hu, ?_⟩
        have : y ≠ x := fun q => by
          subst q
          have e1 : (es.toList.map (·.key))[i]? = some (.agg (idA y)) := by rw [List.getElem?_map, hi]; simp [hky]
          have e2 : (es.toList.map (·.key))[j]? = some (.agg (idA y)) := by rw [List.getElem?_map, hj]; simp [hk]
          exact c ((List.getElem?_inj (by simpa using hjl) hd).1 (e2.trans e1.symm))
        simp [putF, this, hF]
    · intro y u hyu
      by_cases c : y = x
      · subst c
        refine ⟨{ e0 with key := .agg (idA y), val := kvV v }, ?_, rfl⟩
        rw [hlist]
        exact List.mem_set hjl _
      · simp only [putF, c, if_false] at hyu
        obtain ⟨e, he, hke⟩ := h2 y u hyu
        have hm : e.key ∈ (es.toList.set j { e0 with key := .agg (idA x), val := kvV v }).map (·.key) := by rw [hkeys]; exact List.mem_map.2 ⟨e, he, rfl⟩
        obtain ⟨e', he', hke'⟩ := List.mem_map.1 hm
        exact ⟨e', by rw [hlist]; exact he', by rw [hke', hke]⟩

/-- 'delete(m, k)' -/
theorem MapIs.del {w : World} {b : Nat} {F : RId → Option (Int × Int)} (h : MapIs w b F) (x : RId) (hx : okId x) (ty : TypeId) :
    ∃ w', (Builtin.delete_ #[57, 30] ty #[.map (some b), .agg (idA x)]).run Try.prog w = .ok (.tuple #[]) w' ∧ MapIs w' b (delF F x) ∧ w.grownBy w' (some b) := by
  obtain ⟨es, clock, hb, hd, h1, h2⟩ := h
  obtain ⟨l, hl⟩ := jo_key x hx
  have grown : ∀ o, w.grownBy (setBlock w b o) (some b) := fun o => ⟨rfl, rfl, rfl, by simp [setBlock], fun i _ hi => heap_setBlock_other hb _ (fun e => hi (by rw [e]))⟩
  rcases jo_law.find w hl es.toList (keys_of h1) with ⟨hf, hn⟩ | ⟨j, e0, hf, hj, hk⟩
  · refine ⟨setBlock w b (.map es clock), ?_, ⟨_, _, heap_setBlock_same hb _, hd, ?_, ?_⟩, grown _⟩
    · simp [Builtin.delete_, run_underlying Try.underlying57, MapKept.run_getObj_map hb, jo_law.check w _ hl, hf, MapKept.run_setObj_map _ hb, Result.andThen, setBlock]
    · intro e he
      obtain ⟨y, u, hy, hky, hu, hF⟩ := h1 e he
      refine ⟨y, u, hy, hky, hu, ?_⟩
      have : y ≠ x := fun c => hn e he (by rw [hky, c])
      simp [delF, this, hF]
    · intro y u hyu
      by_cases c : y = x
      · simp [delF, c] at hyu
      · simp only [delF, c, if_false] at hyu
        exact h2 y u hyu
  · have hjl : j < es.toList.length := (List.getElem?_eq_some_iff.1 hj).1
    have hjs : j < es.size := by simpa using hjl
    have hsub : (es.eraseIdxIfInBounds j).toList = es.toList.eraseIdx j := by
      unfold Array.eraseIdxIfInBounds
      rw [dif_pos hjs]
      simp
    have other : ∀ i e, es.toList[i]? = some e → e.key = .agg (idA x) → i = j := fun i e hi hke => by
      have e1 : (es.toList.map (·.key))[i]? = some (.agg (idA x)) := by rw [List.getElem?_map, hi]; simp [hke]
      have e2 : (es.toList.map (·.key))[j]? = some (.agg (idA x)) := by rw [List.getElem?_map, hj]; simp [hk]
      exact ((List.getElem?_inj (by simpa using hjl) hd).1 (e2.trans e1.symm)).symm
    refine ⟨setBlock w b (.map (es.eraseIdxIfInBounds j) clock), ?_, ⟨_, _, heap_setBlock_same hb _, ?_, ?_, ?_⟩, grown _⟩
    · simp [Builtin.delete_, run_underlying Try.underlying57, MapKept.run_getObj_map hb, jo_law.check w _ hl, hf, MapKept.run_setObj_map _ hb, Result.andThen, setBlock]
    · rw [hsub]
      exact hd.sublist ((List.eraseIdx_sublist _ _).map _)
    · intro e he
      rw [hsub] at he
      obtain ⟨i, hne, hi⟩ := List.mem_eraseIdx_iff_getElem?.1 he
      obtain ⟨y, u, hy, hky, hu, hF⟩ := h1 e (List.mem_of_getElem? hi)
      refine ⟨y, u, hy, hky, hu, ?_⟩
      have : y ≠ x := fun c => hne (other i e hi (by rw [hky, c]))
      simp [delF, this, hF]
    · intro y u hyu
      by_cases c : y = x
      · simp [delF, c] at hyu
      · simp only [delF, c, if_false] at hyu
        obtain ⟨e, he, hke⟩ := h2 y u hyu
        refine ⟨e, ?_, hke⟩
        rw [hsub]
        obtain ⟨i, hi⟩ := List.getElem?_of_mem he
        refine List.mem_eraseIdx_iff_getElem?.2 ⟨i, fun q => ?_, hi⟩
        subst q
        rw [hj] at hi
        obtain rfl := Option.some.inj hi
        exact c (agg_inj (hke.symm.trans hk))

section
variable (w : World) {ops : Array Oper} {rest : List Oper} {o : Oper} {a : Act} {Q : Exit → Act → World → Prop}

theorem wpList_look (hg : o.guard = none) (m x : Operand) (hop : o.op = Op.lookup 57 m x true) (b : Nat) (F : RId → Option (Int × Int)) (hm : a.eval m = .map (some b)) (hown : MapIs w b F) (y : RId) (hx : a.eval x = .agg (idA y)) (hy : okId y)
    (v1 v2 : Int) (q : Bool) (h1 : (F y).getD (0, 0) = (v1, v2)) (h2 : (F y).isSome = q)
    (hK : wpList Try.prog ops Q rest (a.put o.dst (.tuple #[.agg #[.int .i64 v1, .int .i64 v2], .bool q])) w) : wpList Try.prog ops Q (o :: rest) a w := by
  refine wpList_plain hg fun K' hK' => ?_
  have hrun := hown.look y hy
  rw [h1, h2] at hrun
  unfold Oper.wp
  simp [execOp, hop, hm, hx, hrun, Result.andThen]
  exact hK' _ _ hK

theorem wpList_put (hg : o.guard = none) (m x v : Operand) (hop : o.op = Op.mapUpdate 57 m x v) (b : Nat) (F : RId → Option (Int × Int)) (hm : a.eval m = .map (some b)) (hown : MapIs w b F) (y : RId) (hx : a.eval x = .agg (idA y)) (hy : okId y)
    (u1 u2 : Int) (hv : a.eval v = .agg #[.int .i64 u1, .int .i64 u2]) (hK : ∀ w', MapIs w' b (putF F y (u1, u2)) → w.grownBy w' (some b) → wpList Try.prog ops Q rest (a.put o.dst undef) w') : wpList Try.prog ops Q (o :: rest) a w := by
  refine wpList_plain hg fun K' hK' => ?_
  obtain ⟨w', hrun, r1, r2⟩ := hown.put y hy (u1, u2)
  unfold kvV at hrun
  unfold Oper.wp
  simp [execOp, hop, hm, hx, hv, hrun, Result.andThen]
  exact hK' _ _ (hK w' r1 r2)

theorem wpList_del (hg : o.guard = none) (m x : Operand) (hop : o.op = Op.call { callee := Callee.builtin Builtin.delete, args := #[m, x], argTypes := #[57, 30] }) (b : Nat) (F : RId → Option (Int × Int)) (hm : a.eval m = .map (some b)) (hown : MapIs w b F) (y : RId) (hx : a.eval x = .agg (idA y)) (hy : okId y)
    (hK : ∀ w', MapIs w' b (delF F y) → w.grownBy w' (some b) → wpList Try.prog ops Q rest (a.put o.dst (.tuple #[])) w') : wpList Try.prog ops Q (o :: rest) a w := by
  refine wpList_plain hg fun K' hK' => ?_
  obtain ⟨w', hrun, r1, r2⟩ := hown.del y hy o.type
  unfold Oper.wp
  simp [execOp, hop, resolve, invoke, builtin, hm, hx, hrun, Result.andThen]
  exact hK' _ _ (hK w' r1 r2)
end
end Go.Proofs.Ytlknjdfiedkhbaa
namespace Go.Proofs.Ytlknjdfiedkhbaa
open Go Go.RowKit
open Jo (RId Itm Rec wi vId ckI ck zId zIt)

abbrev MapF := RId → Option (Int × Int)
/-- what one record does to the two maps -/
def stC (i : Int) (r : Rec) (S : MapF × MapF) : MapF × MapF :=
  if r.kind = 1 then (if (S.1 r.item.id).isSome then S else (putF S.1 r.item.id (i, r.item.tick), S.2))
  else if r.kind = 3 then (if (S.2 r.item.id).isSome then S else (S.1, putF S.2 r.item.id (i, r.item.tick)))
  else if r.kind = 2 then (delF S.1 r.id, S.2)
  else if r.kind = 4 then (if (S.1 r.id).isSome then (putF S.1 r.id (((S.1 r.id).getD (0, 0)).1, r.tick), S.2) else S)
  else S
/-- the maps behind the first k records -/
def runC (l : List Rec) : Nat → MapF × MapF
  | 0 => (fun _ => none, fun _ => none)
  | k + 1 => match l[k]? with
    | some r => stC k r (runC l k)
    | none => runC l k
theorem runC_step (l : List Rec) (k : Nat) (r : Rec) (h : l[k]? = some r) : runC l (k + 1) = stC k r (runC l k) := by simp [runC, h]
/-- the record that remains, if it does -/
def atC (r : Rec) (S : MapF × MapF) : Option (Int × Int) := if r.kind = 3 then S.2 r.item.id else S.1 r.item.id
def tickC (r : Rec) (t : Int) : Rec := { r with item := { r.item with tick := t } }
def pickC (k : Int) (r : Rec) (S : MapF × MapF) : List Rec := if (atC r S).isSome ∧ ((atC r S).getD (0, 0)).1 = k then [tickC r ((atC r S).getD (0, 0)).2] else []
def outC (l : List Rec) (S : MapF × MapF) : Nat → List Rec
  | 0 => []
  | k + 1 => outC l S k ++ (match l[k]? with
    | some r => pickC k r S
    | none => [])
theorem outC_step (l : List Rec) (S : MapF × MapF) (k : Nat) (r : Rec) (h : l[k]? = some r) : outC l S (k + 1) = outC l S k ++ pickC k r S := by simp [outC, h]
theorem outC_len (l : List Rec) (S : MapF × MapF) : ∀ k, (outC l S k).length ≤ k
  | 0 => by simp [outC]
  | k + 1 => by
    have := outC_len l S k
    simp only [outC, List.length_append]
    split
    · unfold pickC; split <;> simp <;> omega
    · simp; omega
def errK : List Rec → Int
  | [] => 0
  | r :: l => if ck r = 0 then errK l else ck r
/-- what Compact answers -/
def cmpL (l : List Rec) : List Rec := if errK l = 0 then outC l (runC l l.length) l.length else []
theorem errK_append : ∀ (a b : List Rec), errK a = 0 → errK (a ++ b) = errK b
  | [], _, _ => rfl
  | r :: a, b, h => by
    by_cases c : ck r = 0
    · simp only [errK, c, if_true, List.cons_append] at h ⊢
      exact errK_append a b h
    · simp only [errK, c, if_false] at h
theorem errK_split (l : List Rec) (k : Nat) (r : Rec) (h : l[k]? = some r) (h0 : errK (l.take k) = 0) : (ck r = 0 → errK (l.take (k + 1)) = 0) ∧ (ck r ≠ 0 → errK l = ck r) := by
  have hk : k < l.length := (List.getElem?_eq_some_iff.1 h).1
  have e : l[k] = r := (List.getElem?_eq_some_iff.1 h).2
  constructor
  · intro c
    rw [List.take_succ_eq_append_getElem hk, errK_append _ _ h0, e]
    simp [errK, c]
  · intro c
    have hs : l = l.take k ++ r :: l.drop (k + 1) := by rw [← e, List.getElem_cons_drop, List.take_append_drop]
    rw [hs, errK_append _ _ h0]
    simp [errK, c]
theorem errK_mem : ∀ {l : List Rec}, errK l = 0 → ∀ r ∈ l, ck r = 0
  | [], _, r, hr => by simp at hr
  | x :: l, h, r, hr => by
    by_cases c : ck x = 0
    · simp only [errK, c, if_true] at h
      rcases List.mem_cons.1 hr with rfl | hr
      · exact c
      · exact errK_mem h r hr
    · simp only [errK, c, if_false] at h
theorem wf_of {x : Int} (h : -9223372036854775808 ≤ x ∧ x ≤ 9223372036854775807) : (Lit.int .i64 x).wf = true := by
  simp [Lit.wf, IntKind.min, IntKind.max, IntKind.signed, IntKind.bits]
  omega
theorem okId_of {x : RId} (h : vId x = true) : okId x := by
  simp [vId, wi] at h
  obtain ⟨⟨⟨⟨h1, h2⟩, h3, h4⟩, h5, h6⟩, h7⟩ := h
  rcases h7 with ⟨h8, h9⟩ | ⟨⟨h8, h9⟩, h10, h11⟩
  · exact ⟨wf_of (by omega), wf_of (by omega), wf_of (by omega), wf_of (by omega), wf_of (by omega)⟩
  · exact ⟨wf_of (by omega), wf_of (by omega), wf_of (by omega), wf_of (by omega), wf_of (by omega)⟩
theorem okId_zero : okId zId := okId_of (by decide)
theorem ck_ids {r : Rec} (h : ck r = 0) : okId r.item.id ∧ okId r.id ∧ (r.kind = 1 ∨ r.kind = 2 ∨ r.kind = 3 ∨ r.kind = 4) := by
  unfold ck at h
  by_cases h1 : wi r.kind 1 4 = true
  · rw [if_pos h1] at h
    have hk : r.kind = 1 ∨ r.kind = 2 ∨ r.kind = 3 ∨ r.kind = 4 := by simp [wi] at h1; omega
    by_cases h2 : wi r.time 0 1099511627776 = true
    · rw [if_pos h2] at h
      by_cases h3 : r.kind = 1 ∨ r.kind = 3
      · rw [if_pos h3] at h
        by_cases h4 : ckI r.item = 0
        · rw [if_pos h4] at h
          by_cases h5 : r.id = zId ∧ r.tick = 0
          · refine ⟨okId_of ?_, by rw [h5.1]; exact okId_zero, hk⟩
            unfold ckI at h4
            split at h4
            · rename_i c
              simp only [Bool.and_eq_true] at c
              exact c.1.1.1.1
            · exact absurd h4 (by decide)
          · rw [if_neg h5] at h; exact absurd h (by decide)
        · rw [if_neg h4] at h; exact absurd h h4
      · rw [if_neg h3] at h
        split at h
        · rename_i c
          simp only [Bool.and_eq_true] at c
          split at h
          · rename_i d
            exact ⟨by rw [d.1]; exact okId_zero, okId_of c.1, hk⟩
          · exact absurd h (by decide)
        · exact absurd h (by decide)
    · rw [if_neg h2] at h; exact absurd h (by decide)
  · rw [if_neg h1] at h; exact absurd h (by decide)
end Go.Proofs.Ytlknjdfiedkhbaa
