/- The remainder behind a string's bytes, walked. Conditions: a number of 32 bits, a length below the model's greatest. -/
import Derived.Test.YtlknjdfiedkhbaaCrcT
import Derived.BigRegionIn
namespace Go.Proofs.Ytlknjdfiedkhbaa
open Go Go.RowKit Go.Shelf
open Crc (stepN step1 upd)
attribute [local go_sem] Oper.semAt_some
attribute [-simp] Try.isAgg122 Try.sizeOf122 Try.typeInfo122

theorem upd_snoc (r : Nat) (l : List UInt8) (b : UInt8) : upd r (l ++ [b]) = stepN 8 (upd r l ^^^ b.toNat) := by rw [Crc.upd_append]; rfl
theorem ownFrom_bk {β : Type} (B g : Nat) (t : TypeId) (cs : Array Value) : OwnFrom B (fun (_ : β) W => Bk W g t cs) := by
  intro x W W' row h hg hr
  refine Bk.grown h hg (fun e => ?_)
  obtain ⟨_, y, hy, hc⟩ := hr g e.symm
  rw [show W.heap[g]? = some _ from h] at hy
  cases hy; cases hc
theorem ownFrom_boxedV {β : Type} (B o : Nat) (t : TypeId) (v : β → Value) : OwnFrom B (fun (x : β) W => Boxed W o t (v x)) := by
  intro x W W' row h hg hr
  refine h.kept hg (fun e => ?_)
  obtain ⟨_, y, hy, hc⟩ := hr o e.symm
  rw [show W.heap[o]? = some _ from h] at hy
  cases hy; cases hc
/-- what the loop has written: the remainder's box; the table and the string's box stand -/
def UpdInv (w : World) (o gT Bn r : Nat) (s : ByteArray) (pre : List UInt8) (W : World) : Prop :=
  Boxed W o 49 (.int .u32 ((upd r pre : Nat) : Int)) ∧ Bk W gT 122 (tabV 256) ∧ Boxed W Bn 9 (.string s) ∧ Below w.heap.size w W
theorem ownFrom_upd (w : World) (o gT Bn r : Nat) (s : ByteArray) (B : Nat) (hB : w.heap.size ≤ B) : OwnFrom B (UpdInv w o gT Bn r s) :=
  (ownFrom_boxedV B o 49 (fun pre : List UInt8 => .int .u32 ((upd r pre : Nat) : Int))).and ((ownFrom_bk B gT 122 (tabV 256)).and ((ownFrom_boxed B Bn 9 (.string s)).and (ownFrom_below (Nat.le_refl _) hB)))

set_option maxRecDepth 100000 in
set_option maxHeartbeats 1000000 in
theorem update_any (r : Nat) (hr : r < 4294967296) (s : ByteArray) (hs : s.size ≤ maxLen) (w : World) :
    Calls Try.prog 76 #[.int .u32 (r : Int), .string s] w fun e w' => e = .returned (.int .u32 ((upd r s.data.toList : Nat) : Int)) ∧ Below w.heap.size w w' := by
  have hz := (zero_of_info infoTab).1
  rw [← tabV_zero] at hz
  refine (callsIn_wide (n := 6)).1 ?_
  refine callsIn_of_wp_marks Try.func76 rfl trivial ?_ rfl
  simp only [Try.ntmps76, List.size_toArray, List.length_cons, List.length_nil, Nat.reduceAdd, Nat.reduceSub, Array.replicate_succ, Array.replicate_zero, List.push_toArray, List.append_toArray, List.nil_append, List.cons_append]
  gi_wp2_with fail
  refine ⟨trivial, ?_⟩
  refine (callsIn_wide.2 (table_any _)).mono ?_
  rintro e w1 ⟨rfl, hb1⟩
  have hb1' := Lib.hid hb1
  clear hb1
  have hsc := run_storeCells_new (P := Try.prog) w1 122 (tabV 0) (tabV 256) (by rw [tabV_size]; exact sizeTab) (by rw [tabV_size, tabV_size]) (tabV_one 256)
  gi_wp2_with fail
  simp only [Try.sizeOf122, Result.andThen, ↓reduceIte, hsc, tabV_size]
  rw [Oper.uponIn_skip]
  clear hsc hz
  gi_wp2_with fail
  refine ⟨trivial, ?_⟩
  refine (bytes_in _ s _).mono ?_
  rintro e w2 ⟨rfl, rfl⟩
  gi_wp2_with fail
  have S1 : (w1.alloc (.cells (tabV 256) 122)).heap.size = w1.heap.size + 1 := World.size_alloc _ _
  have hsz := hb1'.out.size
  rw [World.size_alloc] at hsz
  have N1 : Boxed ((w1.alloc (.cells (tabV 256) 122)).alloc (.cells #[.string s] 9)) w.heap.size 49 (.int .u32 ((upd r [] : Nat) : Int)) :=
    Bk.alloc (Bk.alloc (Bk.below (Bk.new w 49 #[.int .u32 (r : Int)]) hb1'.out (by rw [World.size_alloc]; omega)) _) _
  have N2 : Bk ((w1.alloc (.cells (tabV 256) 122)).alloc (.cells #[.string s] 9)) w1.heap.size 122 (tabV 256) := (Bk.new w1 _ _).alloc _
  have N3 : Boxed ((w1.alloc (.cells (tabV 256) 122)).alloc (.cells #[.string s] 9)) (w1.heap.size + 1) 9 (.string s) := by
    have h := Bk.new (w1.alloc (.cells (tabV 256) 122)) 9 #[.string s]
    rwa [World.size_alloc] at h
  have N4 : Below w.heap.size w ((w1.alloc (.cells (tabV 256) 122)).alloc (.cells #[.string s] 9)) :=
    (((((Below.refl _ _).alloc (Nat.le_refl _) _).trans (hb1'.out.mono (by rw [World.size_alloc]; omega))).alloc (by omega) _).alloc (by rw [World.size_alloc]; omega) _)
  have hg2 : w.heap.size ≠ w1.heap.size := by omega
  refine wpIn_rangeFunc_ownF rfl (by omega) (gf := 85) (lb := #[.pointer (some ⟨w1.heap.size + 1, 0, none⟩)]) rfl trivial (enters_of Try.func85 (by kernel_rfl) rfl)
    (bytes_stops _ (by omega) (w1.heap.size + 1) s hs _ N3) BoxKept.trans boxKept_turn (Below.refl _ _) (fun _ => rfl)
    (fun pre W => UpdInv w w.heap.size w1.heap.size (w1.heap.size + 1) r s pre W)
    (fun _ _ _ => False)
    (ownFrom_upd w _ _ _ _ _ _ (by simp; omega))
    (fun _ _ _ _ _ h _ _ => h) ⟨N1, N2, N3, N4⟩ ?a1 ?assign ?body ?done ?stop
  case assign =>
    intro l x W K hK
    gi_wp2
    exact hK
  case body =>
    rintro l pre x W ⟨h1, h2, h3, h4⟩ hpl
    clear N1 N2 N3 N4
    have hcell := h1.cell
    have hfr := h1.frozen
    have hlt := Crc.upd_lt pre r hr
    have hsn := upd_snoc r pre x
    generalize upd r pre = c at h1 hcell hlt hsn
    have hx256 := UInt8.toNat_lt x
    have hxl : c % 256 ^^^ x.toNat < 256 := Nat.xor_lt_two_pow (n := 8) (by omega) hx256
    have hxor : bits .xor .u8 ((c : Int) % 256) (x.toNat : Int) = ((c % 256 ^^^ x.toNat : Nat) : Int) := by
      have := xor8 (c % 256) x.toNat (by omega) hx256
      rwa [Int.natCast_emod] at this
    have hxor2 : bits .xor .u8 (IntKind.u8.wrap (c : Int)) (x.toNat : Int) = ((c % 256 ^^^ x.toNat : Nat) : Int) := by rw [IntKind.wrap_u8']; exact hxor
    have htab : W.cell? ⟨w1.heap.size, c % 256 ^^^ x.toNat, none⟩ = some (.int .u32 ((stepN 8 (c % 256 ^^^ x.toNat) : Nat) : Int)) := (Bk.cell h2 _).trans ((tabV_at 256 _ hxl).trans (by rw [if_pos hxl]))
    have hst := Crc.step_table c x.toNat
    have hsl := Crc.stepN_lt 8 (c % 256 ^^^ x.toNat) (by omega)
    have hx2 : bits .xor .u32 ((c : Int) / 256) ((stepN 8 (c % 256 ^^^ x.toNat) : Nat) : Int) = ((upd r (pre ++ [x]) : Nat) : Int) := by
      rw [hsn, hst]
      have := xor32 (c / 256) _ (by omega) hsl
      rwa [Int.natCast_ediv] at this
    clear hst hsn hsl
    generalize stepN 8 (c % 256 ^^^ x.toNat) = q at htab hx2
    generalize c % 256 ^^^ x.toNat = y at hxl hxor hxor2 htab
    generalize hu : upd r (pre ++ [x]) = u at hx2
    have HU := Lib.hid hu
    clear hu
    have hx1 : Boxed (W.setCell ⟨w.heap.size, 0, none⟩ (.int .u32 (u : Int))).drew w.heap.size 49 (.int .u32 ((upd r (pre ++ [x]) : Nat) : Int)) := by
      have h := h1.set (.int .u32 (u : Int))
      rw [HU.out]; exact h
    have hx2' : Bk (W.setCell ⟨w.heap.size, 0, none⟩ (.int .u32 (u : Int))).drew w1.heap.size 122 (tabV 256) := (Bk.other h2 (p := ⟨w.heap.size, 0, none⟩) (Ne.symm hg2) _).drew
    have hx3 : Boxed (W.setCell ⟨w.heap.size, 0, none⟩ (.int .u32 (u : Int))).drew (w1.heap.size + 1) 9 (.string s) := (Bk.other h3 (p := ⟨w.heap.size, 0, none⟩) (by show w1.heap.size + 1 ≠ w.heap.size; omega) _).drew
    have hx4 : Below w.heap.size w (W.setCell ⟨w.heap.size, 0, none⟩ (.int .u32 (u : Int))).drew := (h4.setCell (p := ⟨w.heap.size, 0, none⟩) (Nat.le_refl _) _).drew
    have hx5 : KeepsOthers W (W.setCell ⟨w.heap.size, 0, none⟩ (.int .u32 (u : Int))).drew := (KeepsOthers.setCell _ _ _).trans (KeepsOthers.drew _)
    have hx6 : BoxKept (w1.heap.size + 1) W (W.setCell ⟨w.heap.size, 0, none⟩ (.int .u32 (u : Int))).drew := by
      intro y hy _
      rw [show W.heap[w1.heap.size + 1]? = some _ from h3] at hy
      cases hy
      exact hx3
    have HX := Lib.hid (⟨hx5, hx6, hx1, hx2', hx3, hx4⟩ : KeepsOthers W (W.setCell ⟨w.heap.size, 0, none⟩ (.int .u32 (u : Int))).drew ∧ BoxKept (w1.heap.size + 1) W (W.setCell ⟨w.heap.size, 0, none⟩ (.int .u32 (u : Int))).drew ∧ UpdInv w w.heap.size w1.heap.size (w1.heap.size + 1) r s (pre ++ [x]) (W.setCell ⟨w.heap.size, 0, none⟩ (.int .u32 (u : Int))).drew)
    clear h1 h2 h3 h4 hx1 hx2' hx3 hx4 hx5 hx6 HU
    have hy1 : (y : Int) < 256 := by omega
    gi_wp2
    gi_region
    all_goals exact HX.out
  case done =>
    rintro D xs W hD rfl ⟨h1, h2, h3, h4⟩ hK
    have hcell := h1.cell
    have HK := Lib.hid hK
    have HD := Lib.hid hD
    have H4 := Lib.hid h4
    clear N1 N2 N3 N4 hK hD h1 h2 h3 h4
    gi_wp2
    refine ⟨by simp, .inl ⟨_, _, rfl, run_takeDeferred HK.out, ?_⟩⟩
    refine ⟨.int .u32 ((upd r s.data.toList : Nat) : Int), (by simp [results, Try.results76, go_sem]), rfl, ?_⟩
    exact H4.out.trans (belowK_b (w := w) (Nat.le_refl _) W D _ _ (by have := HD.out; simp at this; omega) HK.out rfl rfl)
  case stop =>
    intro D c pre W _ _ h _
    exact h.elim
end Go.Proofs.Ytlknjdfiedkhbaa
