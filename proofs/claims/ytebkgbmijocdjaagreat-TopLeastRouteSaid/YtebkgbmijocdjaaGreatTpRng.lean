/- A range over an iterator that writes the first block that it has made, between two rounds: the law for the caller. No condition. -/
import Derived.Test.YtebkgbmijocdjaaGreatTpSpec
import Derived.RangeFuncNested
import Derived.RangeFuncBound
import Derived.RangeFuncCalls
import Derived.RangeFuncLeaves
import Derived.RangeFuncFrom
namespace Go.Proofs.YtebkgbmijocdjaaGreat.Tp
open Go Go.RowKit

/-- J does not look at block B -/
def Blind {β : Type} (B : Nat) (J : β → World → Prop) : Prop := ∀ (s : β) (W : World) (o : Nat) (v : Value), J s W → J s (W.setCell ⟨B, o, none⟩ v)
/-- The iterator's contract: as SeqStopsK, the invariant being blind to the block that the iterator makes first. -/
def SeqState {α : Type} (F : Fence) (n : Nat) (P : Program) (g : Nat) (lb : Array Value) (encs : α → Array Value) (Kp : World → World → Prop) (S Sp : List α → Prop) (N : Nat) (w : World) : Prop :=
  ∀ (l : Nat) (J Jx : List α → World → Prop) (W : World), Below w.heap.size w W → AbidesFrom W.heap.size J → AbidesFrom W.heap.size Jx → Blind W.heap.size J →
    (∀ pre x W1, J pre W1 → Sp (pre ++ [x]) → W.heap.size < W1.heap.size → pre.length < N → YieldAt F (n - 1) P l (encs x) W1 fun e W' => (e = .returned (.bool true) ∧ J (pre ++ [x]) W' ∧ Kp W1 W') ∨ (e = .returned (.bool false) ∧ Jx (pre ++ [x]) W')) →
    J [] W → CallsIn F n P g (#[.func (.yield l) #[] #[]] ++ lb) W fun e W' => (∃ v, e = .returned v) ∧ ((∃ xs, S xs ∧ J xs W') ∨ (∃ pre, Sp pre ∧ Jx pre W'))
variable {F : Fence} {n : Nat} {P : Program}
/-- the loop's two objects lie in memory -/
def RecAt (D : Nat) (r : Loop) (W : World) : Prop := W.heap[D + 1]? = some (.loop r) ∧ W.heap[D]? = some (.deferred (some []))
theorem RecAt.grown {D : Nat} {r : Loop} {W W' : World} {row : Option Nat} (h : RecAt D r W) (hg : W.grownBy W' row) (hr : ∀ q, row = some q → ∃ o : Obj, W.heap[q]? = some o ∧ o.isWalk = true) : RecAt D r W' := by
  refine ⟨(hg.block _ (Array.getElem?_eq_some_iff.1 h.1).1 (fun e => ?_)).trans h.1, (hg.block _ (Array.getElem?_eq_some_iff.1 h.2).1 (fun e => ?_)).trans h.2⟩
  · obtain ⟨o, ho, hw⟩ := hr _ e.symm
    rw [h.1] at ho
    cases ho
    cases hw
  · obtain ⟨o, ho, hw⟩ := hr _ e.symm
    rw [h.2] at ho
    cases ho
    cases hw
theorem RecAt.cell {D B : Nat} {r : Loop} {W : World} (h : RecAt D r W) (hB : D + 1 < B) (o : Nat) (v : Value) : RecAt D r (W.setCell ⟨B, o, none⟩ v) :=
  ⟨(Below.heap_setCell W ⟨B, o, none⟩ v _ (by show D + 1 ≠ B; omega)).trans h.1, (Below.heap_setCell W ⟨B, o, none⟩ v _ (by show D ≠ B; omega)).trans h.2⟩
theorem RecAt.put {D : Nat} {r r' : Loop} {W : World} (h : RecAt D r W) : RecAt D r' (W.putObj (D + 1) (.loop r')) :=
  ⟨World.putObj_heap_same (Array.getElem?_eq_some_iff.1 h.1).1, (World.putObj_heap_other (by omega)).trans h.2⟩
theorem RecAt.others {D : Nat} {r : Loop} {W W' : World} (h : RecAt D r W) (hk : KeepsOthers W W') : RecAt D r W' := ⟨hk.same _ _ h.1 rfl, hk.same _ _ h.2 rfl⟩
theorem then_normal {K : Act → World → Prop} {ex : Exit} {a : Act} {w : World} (h : Exit.then K (fun _ _ _ => False) ex a w) : ex = .normal ∧ K a w := by
  cases ex with
  | normal => exact ⟨rfl, h⟩
  | _ => exact h.elim
/-- the law -/
theorem range_state {α : Type} {g : Operand} {ps : Array Tmp} {assign body : Code} {Q : Exit → Act → World → Prop} {a : Act} {w : World}
    (hro : F.round = none) (h1 : 1 ≤ n) {gf : Nat} {lb : Array Value} (hg : a.eval g = .func (.func gf) #[] lb) (hFg : F.fn gf) (eg : ∀ args w, (callFunc gf args).run P w = .ok (.enter gf args) w)
    {encs : α → Array Value} {Kp : World → World → Prop} {S Sp : List α → Prop} {N : Nat} {w0 : World} (hseq : SeqState F (n - 1) P gf lb encs Kp S Sp N w0)
    (hKt : ∀ {A B C : World}, Kp A B → Kp B C → Kp A C) (hKb : ∀ (W : World) (l : Nat) (o o' : Obj), w.heap.size ≤ l → W.heap[l]? = some o → o.isCells = false → o.isWalk = false → Kp W (W.putObj l o')) (hb0 : Below w0.heap.size w0 w) (hps : ∀ x, (encs x).size = ps.size)
    (I Ix : List α → World → Prop) (I1 : List α → α → Nat → World → Prop) (hI : OwnFrom w.heap.size I) (hIx : OwnFrom w.heap.size Ix) (hI1 : OwnFrom w.heap.size (fun (s : List α × α × Nat) W => I1 s.1 s.2.1 s.2.2 W)) (hIb : Blind (w.heap.size + 2) I) (h0 : I [] w) (a₁ : α → Nat → Act)
    (hassign : ∀ (l : Nat) (pre : List α) (x : α) (W : World), I pre W → Sp (pre ++ [x]) → w.heap.size + 2 < W.heap.size → pre.length < N →
      assign.wpIn (F.inRound l) (n - 1 - 1) P (Exit.then (fun a' W' => KeepsOthers W W' ∧ Kp W W' ∧ ∃ b, a' = a₁ x b ∧ I1 pre x b W') (fun _ _ _ => False)) { tmps := (ps.zip (encs x)).foldl (fun t (p, v) => t.setIfInBounds p v) a.tmps, defers := [] } W)
    (hbody : ∀ (l : Nat) (pre : List α) (x : α) (b : Nat) (W : World), I1 pre x b W → Sp (pre ++ [x]) → w.heap.size + 2 < W.heap.size → pre.length < N → body.wpIn (F.inRound l) (n - 1 - 1) P (ownPostK Kp I (fun c pre W => c = .ret ∧ Ix pre W) (pre ++ [x]) W) (a₁ x b) W)
    (hdone : ∀ (D : Nat) (xs : List α) (W : World), w.heap.size ≤ D → S xs → I xs W → W.heap[D]? = some (.deferred (some [])) → Q .normal { a with defers := { target := .collected D, args := #[] } :: a.defers } W)
    (hstop : ∀ (D : Nat) (pre : List α) (W : World), w.heap.size ≤ D → Sp pre → Ix pre W → W.heap[D]? = some (.deferred (some [])) → Code.ret.wpIn F n P Q { a with defers := { target := .collected D, args := #[] } :: a.defers } W) :
    (Code.rangeFunc g ps assign body).wpIn F n P Q a w := by
  refine wpIn_rangeFunc fun fn hfn => ?_
  rw [hro]
  let R : LoopState → Option Code → Loop := fun st pe => { state := st, pending := pe, fn, tmps := a.tmps, params := ps, assign, body, defers := w.heap.size }
  obtain ⟨W1, hW1⟩ : ∃ W1, (w.alloc (.deferred (some []))).alloc (.loop (R .ready none)) = W1 := ⟨_, rfl⟩
  have hL : RecAt w.heap.size (R .ready none) W1 := by
    rw [← hW1]
    refine ⟨?_, (Below.heap_alloc _ _ _ (by simp)).trans (World.alloc_heap_new w _)⟩
    have h := World.alloc_heap_new (w.alloc (.deferred (some []))) (.loop (R .ready none))
    rwa [World.size_alloc] at h
  have hsz : W1.heap.size = w.heap.size + 2 := by rw [← hW1]; simp
  have hIW1 : I [] W1 := by rw [← hW1]; exact hI.alloc _ (hI.alloc _ h0)
  have hb1 : Below w0.heap.size w0 W1 := by rw [← hW1]; exact (hb0.alloc hb0.size _).alloc (by have := hb0.size; simp; omega) _
  refine ⟨w.heap.size + 1, [{ target := .collected w.heap.size, args := #[] }], W1, { target := .fn (.func gf) lb, args := #[.func (.yield (w.heap.size + 1)) #[] #[]] }, W1, gf,
    #[.func (.yield (w.heap.size + 1)) #[] #[]] ++ lb, W1, ?_, ?_, ?_, ?_, fun _ => h1, ?_⟩
  · rw [← hW1]; exact run_enterLoop_outer _ _ _ _ _
  · simp only [resolve, hg]; simp [go_sem]
  · intro f' hf'; simp [Target.leads] at hf'; subst hf'; exact hFg
  · simp [invoke, go_sem, eg]
  · have hwc : ∀ {A : World} {row : Option Nat}, (∀ r, row = some r → W1.heap.size ≤ r ∧ ∃ o : Obj, A.heap[r]? = some o ∧ o.isWalk = true) → ∀ r, row = some r → w.heap.size ≤ r ∧ ∃ o : Obj, A.heap[r]? = some o ∧ o.isCells = false := fun hr r e => by
      obtain ⟨h2, o, ho, hw⟩ := hr r e
      exact ⟨by omega, o, ho, Obj.not_cells_of_walk hw⟩
    have hturn : ∀ {st : LoopState} {pe : Option Code} {W : World} (r' : Loop), RecAt w.heap.size (R st pe) W → Kp W (W.putObj (w.heap.size + 1) (.loop r')) := fun r' h => hKb _ _ _ _ (by omega) h.1 rfl rfl
    have iput : ∀ {st : LoopState} {pe : Option Code} {W : World} {xs : List α} (r' : Loop), RecAt w.heap.size (R st pe) W → I xs W → I xs (W.putObj (w.heap.size + 1) (.loop r')) := fun r' h hi => hI.putObj _ hi (by omega) h.1 rfl
    have xput : ∀ {st : LoopState} {pe : Option Code} {W : World} {xs : List α} (r' : Loop), RecAt w.heap.size (R st pe) W → Ix xs W → Ix xs (W.putObj (w.heap.size + 1) (.loop r')) := fun r' h hi => hIx.putObj _ hi (by omega) h.1 rfl
    refine (hseq (w.heap.size + 1) (fun pre W => I pre W ∧ RecAt w.heap.size (R .ready none) W) (fun pre W => Ix pre W ∧ RecAt w.heap.size (R .done (some .ret)) W) W1 hb1
      (fun s A B row h hg' hr => ⟨hI s A B row h.1 hg' (hwc hr), h.2.grown hg' (fun r e => (hr r e).2)⟩)
      (fun s A B row h hg' hr => ⟨hIx s A B row h.1 hg' (hwc hr), h.2.grown hg' (fun r e => (hr r e).2)⟩)
      (fun s A o v h => by rw [hsz]; exact ⟨hIb s A o v h.1, h.2.cell (by omega) o v⟩) ?_ ⟨hIW1, hL⟩).mono ?_
    · rintro pre x W ⟨hi, hrec⟩ hsp hbz hlen
      rw [hsz] at hbz
      refine ⟨fn, _, assign, body, run_yield hrec.1 (hps x), roundIn_of_wpIn hfn (wpIn_mono (hassign _ pre x W hi hsp hbz hlen) ?_)⟩
      intro ex a' Wa hpa
      obtain ⟨rfl, hka, hkpa, b, rfl, hia⟩ := then_normal hpa
      have hrec1 : RecAt w.heap.size (R .ready none) Wa := hrec.others hka
      refine ⟨_, run_beginRound hrec1.1 rfl, ?_⟩
      have hrec2 : RecAt w.heap.size (R .busy none) (Wa.putObj (w.heap.size + 1) (.loop (R .busy none))) := hrec1.put
      have hia2 : I1 pre x b (Wa.putObj (w.heap.size + 1) (.loop (R .busy none))) := hI1.putObj (s := (pre, x, b)) _ hia (by omega) hrec1.1 rfl
      refine wpIn_mono (hbody _ pre x b _ hia2 hsp (by have := hka.size; simp; omega) hlen) ?_
      have fin : ∀ (jump : Option Code) (W3 : World), KeepsOthers (Wa.putObj (w.heap.size + 1) (.loop (R .busy none))) W3 → RecAt w.heap.size (R .busy none) W3 ∧
          (Instr.endRound (w.heap.size + 1) jump).run P W3 = .ok (.bool jump.isNone) (W3.putObj (w.heap.size + 1) (.loop (R (if jump.isNone then .ready else .done) jump))) := fun jump W3 hk => by
        have h3 := hrec2.others hk
        exact ⟨h3, run_endRound jump h3.1⟩
      rintro e a3 W3 hp
      cases e with
      | normal =>
        obtain ⟨hk3, hkp3, hi3⟩ := hp
        obtain ⟨h3, hr⟩ := fin none W3 hk3
        exact ⟨_, _, hr, .inl ⟨rfl, ⟨iput _ h3 hi3, h3.put⟩, hKt (hKt hkpa (hKt (hturn _ hrec1) hkp3)) (hturn _ h3)⟩⟩
      | ret =>
        obtain ⟨hk3, -, hi3⟩ := hp
        obtain ⟨h3, hr⟩ := fin (some .ret) W3 hk3
        exact ⟨_, _, hr, .inr ⟨rfl, xput _ h3 hi3, h3.put⟩⟩
      | exit id => exact absurd hp.2.1 (by simp)
      | goto t => exact absurd hp.2.1 (by simp)
      | panic ch => exact hp.elim
      | outgrown => exact hp.elim
    · rintro e W2 ⟨⟨v, rfl⟩, h | h⟩
      · obtain ⟨xs, hS, hi, hr⟩ := h
        exact ⟨none, _, run_endLoop hr.1 (by simp [R]), hdone _ xs _ (Nat.le_refl _) hS (iput _ hr hi) (hr.put (r' := R .exhausted none)).2⟩
      · obtain ⟨pre, hS, hi, hr⟩ := h
        exact ⟨some .ret, _, run_endLoop hr.1 (by simp [R]), hstop _ pre _ (Nat.le_refl _) hS (xput _ hr hi) (hr.put (r' := R .exhausted (some .ret))).2⟩
end Go.Proofs.YtebkgbmijocdjaaGreat.Tp
