/- The reference takes up a word: walked. No condition. -/
import Derived.Test.YtdjpidniakedpaaKhBytesR
import Derived.Test.YtdjpidniakedpaaKhWordR
namespace Go.Proofs.Ytdjpidniakedpaa
open Go Go.RowKit

theorem four {w : World} {g : Nat} {t : TypeId} {x0 x1 x2 x3 : Value} (h : Bk w g t #[x0, x1, x2, x3]) :
    w.cell? ⟨g, 0, none⟩ = some x0 ∧ w.cell? ⟨g, 1, none⟩ = some x1 ∧ w.cell? ⟨g, 2, none⟩ = some x2 ∧ w.cell? ⟨g, 3, none⟩ = some x3 ∧ ∀ i, w.frozen? ⟨g, i, none⟩ = false :=
  ⟨h.cell 0, h.cell 1, h.cell 2, h.cell 3, h.free⟩

/-- Four stores, one behind the other, into a block of four cells. -/
theorem put4 {w : World} {g : Nat} {t : TypeId} {x0 x1 x2 x3 : Value} (h : Bk w g t #[x0, x1, x2, x3]) (y0 y1 y2 y3 : Value) :
    Bk ((((w.setCell ⟨g, 0, none⟩ y0).setCell ⟨g, 1, none⟩ y1).setCell ⟨g, 2, none⟩ y2).setCell ⟨g, 3, none⟩ y3) g t #[y0, y1, y2, y3] := by
  simpa using (((h.put 0 y0).put 1 y1).put 2 y2).put 3 y3
theorem put4_other {w : World} {g g' : Nat} {t : TypeId} {cs : Array Value} (h : Bk w g t cs) (hne : g ≠ g') (y0 y1 y2 y3 : Value) :
    Bk ((((w.setCell ⟨g', 0, none⟩ y0).setCell ⟨g', 1, none⟩ y1).setCell ⟨g', 2, none⟩ y2).setCell ⟨g', 3, none⟩ y3) g t cs :=
  (((h.other (p := ⟨g', 0, none⟩) hne _).other (p := ⟨g', 1, none⟩) hne _).other (p := ⟨g', 2, none⟩) hne _).other (p := ⟨g', 3, none⟩) hne _
theorem put4_below {w0 w : World} {B g : Nat} (h : Below B w0 w) (hB : B ≤ g) (y0 y1 y2 y3 : Value) :
    Below B w0 ((((w.setCell ⟨g, 0, none⟩ y0).setCell ⟨g, 1, none⟩ y1).setCell ⟨g, 2, none⟩ y2).setCell ⟨g, 3, none⟩ y3) :=
  (((h.setCell (p := ⟨g, 0, none⟩) hB _).setCell (p := ⟨g, 1, none⟩) hB _).setCell (p := ⟨g, 2, none⟩) hB _).setCell (p := ⟨g, 3, none⟩) hB _

set_option maxHeartbeats 1000000 in
theorem absorbR_any (a b c d m : Nat) (w : World) :
    Calls Try.prog 39 #[.agg #[.int .u64 (a : Int), .int .u64 (b : Int), .int .u64 (c : Int), .int .u64 (d : Int)], .int .u64 (m : Int)] w fun e w' => e = .returned (stv (Kh.absorb ⟨a, b, c, d⟩ m)) ∧ Below w.heap.size w w' := by
  have hx := Kh.xor_spell
  go_enter Try.func39, Try.ntmps39
  go_wp2_with fail
  have N1 := (Bk.new w 62 #[Value.int .u64 (a : Int), Value.int .u64 (b : Int), Value.int .u64 (c : Int), Value.int .u64 ((Kh.xorm d m : Nat) : Int)]).alloc (.cells #[.int .u64 0, .int .u64 0, .int .u64 0, .int .u64 0] 62)
  have N2 := Bk.new (w.alloc (.cells #[Value.int .u64 (a : Int), Value.int .u64 (b : Int), Value.int .u64 (c : Int), Value.int .u64 ((Kh.xorm d m : Nat) : Int)] 62)) 62 #[.int .u64 0, .int .u64 0, .int .u64 0, .int .u64 0]
  rw [World.size_alloc] at N2
  refine (roundR_any _ _ _ _ _).mono ?_
  rintro e w1 ⟨rfl, hb1⟩
  simp only [stv]
  generalize hs1 : Kh.rnd _ = s1
  have HS1 := Lib.hid hs1
  clear hs1
  have hbb := ((Below.refl w.heap.size w).alloc (Nat.le_refl _) (.cells #[Value.int .u64 (a : Int), Value.int .u64 (b : Int), Value.int .u64 (c : Int), Value.int .u64 ((Kh.xorm d m : Nat) : Int)] 62)).alloc (by simp) (.cells #[.int .u64 0, .int .u64 0, .int .u64 0, .int .u64 0] 62)
  have HN1 := Lib.hid N1
  have HN2 := Lib.hid N2
  clear N1 N2
  go_wp2_with fail
  refine (roundR_any _ _ _ _ _).mono ?_
  rintro e w2 ⟨rfl, hb2⟩
  simp only [stv]
  generalize hs2 : Kh.rnd _ = s2
  have HS2 := Lib.hid hs2
  clear hs2
  have hb := hb1.trans (hb2.mono hb1.size)
  have B1 := HN1.out.below hb (by simp; omega)
  have B2 := HN2.out.below hb (by simp)
  have hB := hbb.trans (hb.mono (by simp; omega))
  clear hb1 hb2 HN1 HN2 hb hbb
  obtain ⟨p0, p1, p2, p3, pf⟩ := four B1
  have HB1 := Lib.hid (put4 B1 (.int .u64 s2.a) (.int .u64 s2.b) (.int .u64 s2.c) (.int .u64 s2.d))
  have HB2 := Lib.hid (put4_other (g' := w.heap.size) B2 (by omega) (.int .u64 s2.a) (.int .u64 s2.b) (.int .u64 s2.c) (.int .u64 s2.d))
  have HB := Lib.hid (put4_below (g := w.heap.size) hB (Nat.le_refl _) (.int .u64 s2.a) (.int .u64 s2.b) (.int .u64 s2.c) (.int .u64 s2.d))
  clear B1 B2 hB
  iterate 5 go_step
  generalize ((((w2.setCell ⟨w.heap.size, 0, none⟩ (.int .u64 s2.a)).setCell ⟨w.heap.size, 1, none⟩ (.int .u64 s2.b)).setCell ⟨w.heap.size, 2, none⟩ (.int .u64 s2.c)).setCell ⟨w.heap.size, 3, none⟩ (.int .u64 s2.d)) = w3 at HB1 HB2 HB ⊢
  clear p0 p1 p2 p3 pf
  obtain ⟨p0, p1, p2, p3, pf⟩ := four HB1.out
  obtain ⟨q0, q1, q2, q3, qf⟩ := four HB2.out
  go_wp2
  have HF := put4 (HB2.out.other (p := ⟨w.heap.size, 0, none⟩) (by simp) (.int .u64 (Kh.xorm s2.a m : Nat))) (.int .u64 (Kh.xorm s2.a m : Nat)) (.int .u64 s2.b) (.int .u64 s2.c) (.int .u64 s2.d)
  have HG := put4_below (g := w.heap.size + 1) (HB.out.setCell (p := ⟨w.heap.size, 0, none⟩) (Nat.le_refl _) (.int .u64 (Kh.xorm s2.a m : Nat))) (by omega) (.int .u64 (Kh.xorm s2.a m : Nat)) (.int .u64 s2.b) (.int .u64 s2.c) (.int .u64 s2.d)
  generalize (((((w3.setCell ⟨w.heap.size, 0, none⟩ (.int .u64 (Kh.xorm s2.a m : Nat))).setCell ⟨w.heap.size + 1, 0, none⟩ (.int .u64 (Kh.xorm s2.a m : Nat))).setCell ⟨w.heap.size + 1, 1, none⟩ (.int .u64 s2.b)).setCell ⟨w.heap.size + 1, 2, none⟩ (.int .u64 s2.c)).setCell ⟨w.heap.size + 1, 3, none⟩ (.int .u64 s2.d)) = w4 at HF HG ⊢
  clear q0 q1 q2 q3 qf p0 p1 p2 p3 pf
  obtain ⟨q0, q1, q2, q3, qf⟩ := four HF
  refine bodyPost_ret (v := .agg #[.int .u64 (Kh.xorm s2.a m : Nat), .int .u64 s2.b, .int .u64 s2.c, .int .u64 s2.d]) (by simp [results, Try.results39, go_sem, q0, q1, q2, q3]) rfl ⟨?_, HG⟩
  rw [← HS2.out, ← HS1.out]
  rfl
end Go.Proofs.Ytdjpidniakedpaa
