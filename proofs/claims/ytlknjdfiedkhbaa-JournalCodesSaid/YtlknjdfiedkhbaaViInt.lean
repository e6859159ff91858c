/- The encoding of an integer, and its size, walked: the program's. No condition but the integer's range. -/
import Derived.Test.YtlknjdfiedkhbaaViIter
import Derived.Sort.CutIn
namespace Go.Proofs.Ytlknjdfiedkhbaa
open Go Go.RowKit Go.Shelf
attribute [local go_sem] Oper.semAt_some

theorem inRange_any (n : Int) (w : World) :
    Calls Try.prog 65 #[.int .i64 n] w fun e w' => e = .returned (.bool (Vi.inR n)) ∧ w = w' := by
  by_cases h : -1152921504606846976 ≤ n
  all_goals
    go_enter Try.func65, Try.ntmps65
    go_wp2
    go_ret
    exact ⟨ret_b (by unfold Vi.inR Vi.big; simp; omega), rfl⟩
theorem zigzag_any (n : Int) (h : Vi.inR n = true) (w : World) :
    Calls Try.prog 67 #[.int .i64 n] w fun e w' => e = .returned (.int .i64 (Vi.zig n : Int)) ∧ w = w' := by
  obtain ⟨h1, h2⟩ := (Vi.inR_iff n).1 h
  unfold Vi.big at h1 h2
  clear h
  by_cases hn : n < 0
  · go_enter Try.func67, Try.ntmps67
    go_wp2
    go_ret
    exact ⟨ret_i (by unfold Vi.zig; rw [if_pos hn]; omega), rfl⟩
  · go_enter Try.func67, Try.ntmps67
    go_wp2
    go_ret
    exact ⟨ret_i (by unfold Vi.zig; rw [if_neg (by omega)]; omega), rfl⟩

theorem ownFrom_boxed {β : Type} (B o : Nat) (t : TypeId) (v : Value) : OwnFrom B (fun (_ : β) W => Boxed W o t v) := by
  intro x W W' row h hg hr
  refine h.kept hg (fun e => ?_)
  obtain ⟨_, y, hy, hc⟩ := hr o e.symm
  rw [show W.heap[o]? = some _ from h] at hy
  cases hy; cases hc
/-- the bytes so far, as cells -/
def gbs (pre : List (UInt8 × Bool)) : List Value := (pre.map gbyte).map byteV
theorem gbs_snoc (pre : List (UInt8 × Bool)) (x : UInt8 × Bool) : gbs (pre ++ [x]) = gbs pre ++ [byteV (gbyte x)] := by simp [gbs]
theorem g128 (g : UInt8) : Value.int .u8 (((g.toNat : Int) + 128) % 256) = byteV (gbyte (g, false)) := by
  have e : (128 + g : UInt8).toNat = (128 + g.toNat) % 256 := by simp
  show _ = Value.int .u8 (((128 + g : UInt8).toNat : Nat) : Int)
  rw [e]
  congr 1
  omega
/-- what the loop has written: the variable's box and its row; the number's box; nothing else -/
def OutInv (w : World) (o : Nat) (m : Nat) (pre : List (UInt8 × Bool)) (W : World) : Prop :=
  (∃ v, Boxed W o 54 v ∧ W.ownsRow w.heap.size 5 1 v pre.length (gbs pre) ∧ True) ∧ Boxed W (o + 1) 3 (.int .i64 (m : Int)) ∧ Below w.heap.size w W
theorem ownFrom_out (w : World) (o m B : Nat) (hB : w.heap.size ≤ B) : OwnFrom B (OutInv w o m) :=
  (Own.from (holdsRow_own w.heap.size o 54 5 1 (fun pre : List (UInt8 × Bool) => pre.length) (fun pre => gbs pre) (fun _ _ => True)) B).and ((ownFrom_boxed B (o + 1) 3 (.int .i64 (m : Int))).and (ownFrom_below (Nat.le_refl _) hB))

set_option maxRecDepth 100000 in
set_option maxHeartbeats 1000000 in
theorem int_any (n : Int) (w : World) :
    Calls Try.prog 53 #[.int .i64 n] w fun e w' => e = .returned (.tuple #[.string (str (Vi.intL n)), .int .i64 (Vi.intE n)]) ∧ Below w.heap.size w w' := by
  cases hr : Vi.inR n with
  | false =>
    have HR := Lib.hid hr
    clear hr
    have HL : Hid (Vi.intL n = []) := by have h := HR.out; show _ = _; unfold Vi.intL; rw [h]; rfl
    have HE : Hid (Vi.intE n = 2) := by have h := HR.out; show _ = _; unfold Vi.intE; rw [h]; rfl
    go_enter Try.func53, Try.ntmps53
    go_wp2_with fail
    refine (inRange_any n _).mono ?_
    rintro e w' ⟨rfl, rfl⟩
    rw [HR.out]
    go_wp2
    go_ret2
    exact ⟨two_e (by rw [HL.out]; rfl) HE.out.symm, Below.refl _ _⟩
  | true =>
    have hz := Vi.zig_lt n hr
    have HR := Lib.hid hr
    clear hr
    have HL : Hid (Vi.intL n = Vi.enc (Vi.zig n)) := by have h := HR.out; show _ = _; unfold Vi.intL; rw [h]; rfl
    have HE : Hid (Vi.intE n = 0) := by have h := HR.out; show _ = _; unfold Vi.intE; rw [h]; rfl
    obtain ⟨i0, hi, hz0, hz1, hz2⟩ := info_parts infoByte
    refine (callsIn_wide (n := 6)).1 ?_
    refine callsIn_of_wp_marks Try.func53 rfl trivial ?_ rfl
    simp only [Try.ntmps53, List.size_toArray, List.length_cons, List.length_nil, Nat.reduceAdd, Nat.reduceSub, Array.replicate_succ, Array.replicate_zero, List.push_toArray, List.append_toArray, List.nil_append, List.cons_append]
    gi_wp2_with fail
    refine ⟨trivial, ?_⟩
    refine (callsIn_wide.2 (inRange_any n _)).mono ?_
    rintro e w' ⟨rfl, rfl⟩
    rw [HR.out]
    gi_wp2_with fail
    refine ⟨trivial, ?_⟩
    refine (callsIn_wide.2 (zigzag_any n HR.out _)).mono ?_
    rintro e w' ⟨rfl, rfl⟩
    generalize hm : Vi.zig n = m at *
    have HM := Lib.hid hm
    clear hm
    gi_wp2_with fail
    refine ⟨trivial, ?_⟩
    refine (groups_in _ (m : Int) _).mono ?_
    rintro e w2 ⟨rfl, rfl⟩
    gi_wp2_with fail
    have N1 : ((w.alloc (.cells #[.slice none 0 0] 54)).alloc (.cells #[.int .i64 (m : Int)] 3)).heap[w.heap.size]? = some (.cells #[.slice none 0 0] 54 (0, 0)) := (Bk.new w 54 #[.slice none 0 0]).alloc _
    have N2 : ((w.alloc (.cells #[.slice none 0 0] 54)).alloc (.cells #[.int .i64 (m : Int)] 3)).heap[w.heap.size + 1]? = some (.cells #[.int .i64 (m : Int)] 3 (0, 0)) := by
      have h := Bk.new (w.alloc (.cells #[.slice none 0 0] 54)) 3 #[.int .i64 (m : Int)]
      rwa [World.size_alloc] at h
    have N3 : Below w.heap.size w ((w.alloc (.cells #[.slice none 0 0] 54)).alloc (.cells #[.int .i64 (m : Int)] 3)) := ((Below.refl _ _).alloc (Nat.le_refl _) _).alloc (by simp) _
    have hmm : m < 9223372036854775808 := by omega
    have ht8 := gtop_le m hmm
    refine wpIn_rangeFunc_ownF rfl (by omega) (gf := 75) (lb := #[.pointer (some ⟨w.heap.size + 1, 0, none⟩)]) rfl trivial (enters_of Try.func75 (by kernel_rfl) rfl)
      (groups_stops _ (by omega) (w.heap.size + 1) m hmm _ N2) BoxKept.trans boxKept_turn (Below.refl _ _) (fun _ => rfl)
      (fun pre W => OutInv w w.heap.size m pre W)
      (fun _ _ _ => False)
      (ownFrom_out w _ _ _ (by simp; omega))
      (fun _ _ _ _ _ h _ _ => h) ⟨⟨_, N1, World.ownsRow_nil _ _ _ _, trivial⟩, N2, N3⟩ ?a1 ?assign ?body ?done ?stop
    case assign =>
      intro l x W K hK
      gi_wp2
      exact hK
    case body =>
      rintro l pre ⟨g, last⟩ W ⟨⟨v, h1, h2, _⟩, h3, h4⟩ hpl
      clear N1 N2 N3
      have hcell := h1.cell
      have hbase : w.heap.size ≤ W.heap.size := h4.size
      have fin : ∀ (x : Value) (v' : Value) (w1 : World), w1.ownsRow w.heap.size 5 1 v' (pre.length + 1) (gbs pre ++ [x]) → x = byteV (gbyte (g, last)) → (W.alloc (.cells #[x] 5)).grownBy w1 v.ownBlock →
          w1.cell? ⟨w.heap.size, 0, none⟩ = some v ∧ w1.frozen? ⟨w.heap.size, 0, none⟩ = false ∧ KeepsOthers W (w1.setCell ⟨w.heap.size, 0, none⟩ v') ∧ BoxKept (w.heap.size + 1) W (w1.setCell ⟨w.heap.size, 0, none⟩ v') ∧ OutInv w w.heap.size m (pre ++ [(g, last)]) (w1.setCell ⟨w.heap.size, 0, none⟩ v') := by
        intro x v' w1 ho hx hg
        obtain ⟨q1, q2, q3, q4, q5⟩ := Boxed.appended h1 (by decide) h2 hbase (Nat.le_refl _) ho hg
        have hbx : Boxed (w1.setCell ⟨w.heap.size, 0, none⟩ v') (w.heap.size + 1) 3 (.int .i64 (m : Int)) :=
          ((h3.alloc _).kept hg (h3.not_row (by decide) h2)).kept (grownBy_setCell' _ _ _) (by simp)
        refine ⟨q1.cell, q1.frozen, q4, fun y hy _ => ?_, ⟨v', q2, ?_, trivial⟩, hbx, h4.trans q5⟩
        · rw [show W.heap[w.heap.size + 1]? = some _ from h3] at hy
          cases hy
          exact hbx
        · rw [hx, ← gbs_snoc] at q3
          simpa using q3
      have FIN := Lib.hid fin
      have H2 := Lib.hid h2
      clear fin h1 h2 h3 h4
      cases last with
      | true =>
        gi_wp2_with (gi_at_builtin; refine wpListIn_append_own _ rfl _ _ 54 rfl w.heap.size 5 i0 (.int .u8 0) 1 1 Try.underlying54 hi hz0 hz1 hz2 rfl (by decide) _ _ _ rfl (H2.out.alloc _) ⟨W.heap.size, 0, none⟩ 1 1 [byteV g] rfl rfl ?c1 ?c2 ?c3 ?c4 ?c5 ?_)
        case c1 => exact cell_one_new _ _ _
        case c2 => simp [Value.oneCell', byteV]
        case c3 => unfold maxLen; omega
        case c4 => omega
        case c5 => simp; omega
        intro v' w1 hown' hgrow _
        obtain ⟨f1, f2, f3, f4, f5⟩ := FIN.out _ v' w1 hown' rfl hgrow
        obtain ⟨g', cap', rfl⟩ := ownsRow_succ hown'
        clear hown' hgrow
        gi_wp2
        exact ⟨f3, f4, f5⟩
      | false =>
        gi_wp2_with (gi_at_builtin; refine wpListIn_append_own _ rfl _ _ 54 rfl w.heap.size 5 i0 (.int .u8 0) 1 1 Try.underlying54 hi hz0 hz1 hz2 rfl (by decide) _ _ _ rfl (H2.out.alloc _) ⟨W.heap.size, 0, none⟩ 1 1 [.int .u8 (((g.toNat : Int) + 128) % 256)] rfl rfl ?d1 ?d2 ?d3 ?d4 ?d5 ?_)
        case d1 => exact cell_one_new _ _ _
        case d2 => simp [Value.oneCell']
        case d3 => unfold maxLen; omega
        case d4 => omega
        case d5 => simp; omega
        intro v' w1 hown' hgrow _
        obtain ⟨f1, f2, f3, f4, f5⟩ := FIN.out _ v' w1 hown' (g128 g) hgrow
        obtain ⟨g', cap', rfl⟩ := ownsRow_succ hown'
        clear hown' hgrow
        gi_wp2
        exact ⟨f3, f4, f5⟩
    case done =>
      rintro D xs W hD rfl ⟨⟨v, h1, h2, _⟩, h3, h4⟩ hK
      have hcell := h1.cell
      have hl : ((gs m).map gbyte).length = (gs m).length := by simp
      have hcv := conv_any hl h2
      rw [gs_bytes] at hcv
      obtain ⟨A, c, rfl⟩ := own_form h2
      have HK := Lib.hid hK
      have HD := Lib.hid hD
      have H4 := Lib.hid h4
      clear N1 N2 N3 hK hD h1 h2 h3 h4 hl
      gi_wp2
      refine ⟨by simp, .inl ⟨_, _, rfl, run_takeDeferred HK.out, ?_⟩⟩
      refine ⟨.tuple #[.string (str (Vi.enc m)), .int .i64 0], (by simp [results, Try.results53, go_sem]), two_e (by rw [HL.out]) HE.out.symm, ?_⟩
      exact H4.out.trans (belowK_b (w := w) (Nat.le_refl _) W D _ _ (by have := HD.out; simp at this; omega) HK.out rfl rfl)
    case stop =>
      intro D c pre W _ _ h _
      exact h.elim
end Go.Proofs.Ytlknjdfiedkhbaa
