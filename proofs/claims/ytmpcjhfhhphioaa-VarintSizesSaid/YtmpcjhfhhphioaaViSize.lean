/- The size of an encoded number, walked. No condition. -/
import Derived.Test.YtmpcjhfhhphioaaViInt
namespace Go.Proofs.Ytmpcjhfhhphioaa
open Go Go.RowKit Go.Shelf
attribute [local go_sem] Oper.semAt_some

/-- what the counting loop has written -/
def CntInv (w : World) (o : Nat) (m : Nat) (pre : List (UInt8 × Bool)) (W : World) : Prop :=
  Boxed W o 3 (.int .i64 (pre.length : Int)) ∧ Boxed W (o + 1) 3 (.int .i64 (m : Int)) ∧ Below w.heap.size w W
theorem ownFrom_boxedF {β : Type} (B o : Nat) (t : TypeId) (v : β → Value) : OwnFrom B (fun (x : β) W => Boxed W o t (v x)) := by
  intro x W W' row h hg hr
  refine h.kept hg (fun e => ?_)
  obtain ⟨_, y, hy, hc⟩ := hr o e.symm
  rw [show W.heap[o]? = some _ from h] at hy
  cases hy; cases hc
theorem ownFrom_cnt (w : World) (o m B : Nat) (hB : w.heap.size ≤ B) : OwnFrom B (CntInv w o m) :=
  (ownFrom_boxedF B o 3 (fun pre : List (UInt8 × Bool) => .int .i64 (pre.length : Int))).and ((ownFrom_boxed B (o + 1) 3 (.int .i64 (m : Int))).and (ownFrom_below (Nat.le_refl _) hB))
theorem gs_enc (m : Nat) : (gs m).length = (Vi.enc m).length := by rw [← gs_bytes]; simp

set_option maxRecDepth 100000 in
set_option maxHeartbeats 1000000 in
theorem size_any (n : Int) (w : World) :
    Calls Try.prog 17 #[.int .i64 n] w fun e w' => e = .returned (.int .i64 ((Vi.intL n).length : Int)) ∧ Below w.heap.size w w' := by
  cases hr : Vi.inR n with
  | false =>
    have HR := Lib.hid hr
    clear hr
    have HL : Hid (Vi.intL n = []) := by have h := HR.out; show _ = _; unfold Vi.intL; rw [h]; rfl
    go_enter Try.func17, Try.ntmps17
    go_wp2_with fail
    refine (inRange_any n _).mono ?_
    rintro e w' ⟨rfl, rfl⟩
    rw [HR.out]
    go_wp2
    go_ret
    exact ⟨ret_i (by rw [HL.out]; rfl), Below.refl _ _⟩
  | true =>
    have hz := Vi.zig_lt n hr
    have HR := Lib.hid hr
    clear hr
    have HL : Hid (Vi.intL n = Vi.enc (Vi.zig n)) := by have h := HR.out; show _ = _; unfold Vi.intL; rw [h]; rfl
    refine (callsIn_wide (n := 6)).1 ?_
    refine callsIn_of_wp_marks Try.func17 rfl trivial ?_ rfl
    simp only [Try.ntmps17, List.size_toArray, List.length_cons, List.length_nil, Nat.reduceAdd, Nat.reduceSub, Array.replicate_succ, Array.replicate_zero, List.push_toArray, List.append_toArray, List.nil_append, List.cons_append]
    gi_wp2_with fail
    refine ⟨trivial, ?_⟩
    refine (callsIn_wide.2 (inRange_any n _)).mono ?_
    rintro e w' ⟨rfl, rfl⟩
    rw [HR.out]
    gi_wp2_with fail
    refine ⟨trivial, ?_⟩
    refine (callsIn_wide.2 (zigzag_any n HR.out _)).mono ?_
    rintro e w' ⟨rfl, rfl⟩
    generalize hm : Vi.zig n = m at *
    have HM := Lib.hid hm
    clear hm
    gi_wp2_with fail
    refine ⟨trivial, ?_⟩
    refine (groups_in _ (m : Int) _).mono ?_
    rintro e w2 ⟨rfl, rfl⟩
    gi_wp2_with fail
    have N1 : Boxed ((w.alloc (.cells #[.int .i64 0] 3)).alloc (.cells #[.int .i64 (m : Int)] 3)) w.heap.size 3 (.int .i64 0) := (Boxed.new w 3 (.int .i64 0)).alloc _
    have N2 : Boxed ((w.alloc (.cells #[.int .i64 0] 3)).alloc (.cells #[.int .i64 (m : Int)] 3)) (w.heap.size + 1) 3 (.int .i64 (m : Int)) := by
      have h := Boxed.new (w.alloc (.cells #[.int .i64 0] 3)) 3 (.int .i64 (m : Int))
      rwa [World.size_alloc] at h
    have N3 : Below w.heap.size w ((w.alloc (.cells #[.int .i64 0] 3)).alloc (.cells #[.int .i64 (m : Int)] 3)) := ((Below.refl _ _).alloc (Nat.le_refl _) _).alloc (by simp) _
    have hmm : m < 9223372036854775808 := by omega
    have ht8 := gtop_le m hmm
    refine wpIn_rangeFunc_ownF rfl (by omega) (gf := 41) (lb := #[.pointer (some ⟨w.heap.size + 1, 0, none⟩)]) rfl trivial (enters_of Try.func41 (by kernel_rfl) rfl)
      (groups_stops _ (by omega) (w.heap.size + 1) m hmm _ N2) BoxKept.trans boxKept_turn (Below.refl _ _) (fun _ => rfl)
      (fun pre W => CntInv w w.heap.size m pre W)
      (fun _ _ _ => False)
      (ownFrom_cnt w _ _ _ (by simp; omega))
      (fun _ _ _ _ _ h _ _ => h) ⟨N1, N2, N3⟩ ?a1 ?assign ?body ?done ?stop
    case assign =>
      intro l x W K hK
      gi_wp2
      exact hK
    case body =>
      rintro l pre x W ⟨h1, h3, h4⟩ hpl
      clear N1 N2 N3
      have hcell := h1.cell
      have hfr := h1.frozen
      have hx1 : Boxed (W.setCell ⟨w.heap.size, 0, none⟩ (.int .i64 ((pre.length : Int) + 1))) w.heap.size 3 (.int .i64 ((pre ++ [x]).length : Int)) := by
        have h := h1.set (.int .i64 ((pre.length : Int) + 1))
        rwa [List.length_append, List.length_singleton, Int.natCast_add]
      have hx2 : Boxed (W.setCell ⟨w.heap.size, 0, none⟩ (.int .i64 ((pre.length : Int) + 1))) (w.heap.size + 1) 3 (.int .i64 (m : Int)) := h3.kept (grownBy_setCell' _ _ _) (by simp)
      have hx3 := h4.setCell (p := ⟨w.heap.size, 0, none⟩) (Nat.le_refl _) (.int .i64 ((pre.length : Int) + 1))
      have hx4 : KeepsOthers W (W.setCell ⟨w.heap.size, 0, none⟩ (.int .i64 ((pre.length : Int) + 1))) := KeepsOthers.setCell _ _ _
      have hx5 : BoxKept (w.heap.size + 1) W (W.setCell ⟨w.heap.size, 0, none⟩ (.int .i64 ((pre.length : Int) + 1))) := by
        intro y hy _
        rw [show W.heap[w.heap.size + 1]? = some _ from h3] at hy
        cases hy
        exact hx2
      have HX := Lib.hid (⟨hx4, hx5, hx1, hx2, hx3⟩ : KeepsOthers W (W.setCell ⟨w.heap.size, 0, none⟩ (.int .i64 ((pre.length : Int) + 1))) ∧ BoxKept (w.heap.size + 1) W (W.setCell ⟨w.heap.size, 0, none⟩ (.int .i64 ((pre.length : Int) + 1))) ∧ CntInv w w.heap.size m (pre ++ [x]) (W.setCell ⟨w.heap.size, 0, none⟩ (.int .i64 ((pre.length : Int) + 1))))
      clear h1 h3 h4 hx1 hx2 hx3 hx4 hx5
      gi_wp2
      exact HX.out
    case done =>
      rintro D xs W hD rfl ⟨h1, h3, h4⟩ hK
      have hcell := h1.cell
      have HK := Lib.hid hK
      have HD := Lib.hid hD
      have H4 := Lib.hid h4
      clear N1 N2 N3 hK hD h1 h3 h4
      gi_wp2
      refine ⟨by simp, .inl ⟨_, _, rfl, run_takeDeferred HK.out, ?_⟩⟩
      refine ⟨.int .i64 ((gs m).length : Int), (by simp [results, Try.results17, go_sem]), ret_i (by rw [HL.out, gs_enc]), ?_⟩
      exact H4.out.trans (belowK_b (w := w) (Nat.le_refl _) W D _ _ (by have := HD.out; simp at this; omega) HK.out rfl rfl)
    case stop =>
      intro D c pre W _ _ h _
      exact h.elim
end Go.Proofs.Ytmpcjhfhhphioaa
