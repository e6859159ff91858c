/- The table of what becomes of all bytes, walked: an array of 256 numbers, handed back by value. No condition. -/
import Derived.Test.YtlknjdfiedkhbaaCrcStep
import Derived.Deep.WholeRow
import Derived.Deep.MidRow
import Derived.Laws.ResultCell
namespace Go.Proofs.Ytlknjdfiedkhbaa
open Go Go.RowKit
open Crc (stepN step1)
attribute [-simp] Try.isAgg122 Try.sizeOf122 Try.typeInfo122

/-- the table with its first k entries written -/
def tabV (k : Nat) : Array Value := Array.ofFn (n := 256) fun i => if i.1 < k then .int .u32 ((stepN 8 i.1 : Nat) : Int) else .int .u32 0
theorem tabV_size (k : Nat) : (tabV k).size = 256 := by simp [tabV]
theorem tabV_zero : tabV 0 = Array.replicate 256 (.int .u32 0) := by
  apply Array.ext
  · simp [tabV]
  · intro i h1 h2; simp [tabV]
theorem tabV_at (k i : Nat) (hi : i < 256) : (tabV k)[i]? = some (if i < k then .int .u32 ((stepN 8 i : Nat) : Int) else .int .u32 0) := by
  rw [Array.getElem?_eq_getElem (by rw [tabV_size]; exact hi)]
  simp [tabV]
theorem tabV_set (k : Nat) : (tabV k).setIfInBounds k (.int .u32 ((stepN 8 k : Nat) : Int)) = tabV (k + 1) := by
  apply Array.ext
  · simp [tabV]
  · intro i h1 h2
    have hi : i < 256 := by simpa [tabV] using h2
    rw [Array.getElem_setIfInBounds]
    · by_cases e : k = i
      · subst e; rw [if_pos rfl]; simp [tabV]
      · rw [if_neg e]
        have : (i < k + 1) = (i < k) := by apply propext; omega
        simp [tabV, this]
    · rw [tabV_size]; exact hi
theorem tabV_one (k : Nat) : (tabV k).all (·.oneCell') = true := by
  rw [Array.all_eq_true]
  intro i hi
  simp only [tabV, Array.getElem_ofFn]
  split <;> rfl
theorem infoTab : (Try.prog.info? 122).map (fun i => (i.zero, i.size)) = some (some (.agg (Array.replicate 256 (.int .u32 0))), 256) := by kernel_rfl
theorem sizeTab : (Try.prog.info? 122).map (·.size) = some 256 := by kernel_rfl

theorem range_bk {w : World} {g : Nat} {t : TypeId} {cs : Array Value} (h : Bk w g t cs) : w.rangeAt g 0 cs.toList := by
  intro j v hj
  rw [Nat.zero_add, h.cell j]
  simpa using hj
theorem there_bk {w : World} {g : Nat} {t : TypeId} {cs : Array Value} (h : Bk w g t cs) : w.there g 0 cs.size := by
  intro j hj
  rw [Nat.zero_add, h.cell j, h.free j]
  exact ⟨by rw [Array.getElem?_eq_getElem hj]; rfl, rfl⟩

theorem loadCells_bk {P : Program} {w : World} {g : Nat} {t : TypeId} {cs : Array Value} {n : Nat} (h : Bk w g t cs) (hn : cs.size = n) : (loadCellsFrom ⟨g, 0, none⟩ 0 n #[]).run P w = .ok cs w := by
  subst hn
  have := run_loadCells_list (P := P) w ⟨g, 0, none⟩ cs.toList (fun j v hv => by
    rw [Addr.add_mid, Nat.zero_add, h.cell j]
    simpa using hv)
  simpa [loadCells] using this
theorem storeCells_bk {P : Program} {w : World} {g : Nat} {t : TypeId} {old cs : Array Value} (h : Bk w g t old) (hi : (P.info? t).map (·.size) = some cs.size) (ho : old.size = cs.size) (h1 : cs.all (·.oneCell') = true) :
    (storeCells ⟨g, 0, none⟩ cs.toList 0).run P w = .ok () (w.setRow g cs) := by
  have := run_storeVar_row (P := P) w g t t old cs h hi ho h1
  cases hq : P.info? t with
  | none => simp [hq] at hi
  | some i =>
    have hs : cs.size = i.size := by simp [hq] at hi; omega
    simpa [storeVar, sizeOf, typeInfo, hq, Value.cells, hs] using this
theorem Bk.row {w : World} {g : Nat} {t : TypeId} {old : Array Value} (h : Bk w g t old) (cs : Array Value) : Bk (w.setRow g cs) g t cs := setRow_heap w g old cs t _ h
theorem below_row {B g : Nat} {w0 w : World} (hb : Below B w0 w) (hBg : B ≤ g) (cs : Array Value) : Below B w0 (w.setRow g cs) :=
  hb.trans ⟨rfl, rfl, rfl, by simp [World.setRow], fun k hk => setRow_other w g k cs (by omega)⟩
theorem results_cell {fn : Func} {p : Tmp} {ty : TypeId} (h : fn.results = #[.cell p ty]) (tmps : Array Value) (P : Program) (w : World) :
    (results fn tmps).run P w = ((asAddr (tmps.getD p undef)).run P w).andThen fun a w₁ => (loadVar ty a).run P w₁ := by
  simp only [results, h]
  simp [Sem.run_bind, Result.andThen]

set_option maxRecDepth 100000 in
theorem table_any (w : World) :
    Calls Try.prog 82 #[] w fun e w' => e = .returned (.agg (tabV 256)) ∧ Below w.heap.size w w' := by
  have hz := (zero_of_info infoTab).1
  rw [← tabV_zero] at hz
  go_enter Try.func82, Try.ntmps82
  go_wp2
  have B0 : Bk ((w.alloc (.cells (tabV 0) 122)).alloc (.cells (tabV 0) 122)) w.heap.size 122 (tabV 0) := (Bk.new w _ _).alloc _
  have B1 : Bk ((w.alloc (.cells (tabV 0) 122)).alloc (.cells (tabV 0) 122)) (w.heap.size + 1) 122 (tabV 0) := by
    have h := Bk.new (w.alloc (.cells (tabV 0) 122)) 122 (tabV 0)
    rwa [World.size_alloc] at h
  have B2 : Below w.heap.size w ((w.alloc (.cells (tabV 0) 122)).alloc (.cells (tabV 0) 122)) := ((Below.refl _ _).alloc (Nat.le_refl _) _).alloc (by simp) _
  generalize (w.alloc (.cells (tabV 0) 122)).alloc (.cells (tabV 0) 122) = W at B0 B1 B2 ⊢
  go_loopw [2, 3] (fun _ i wr => ∃ k : Nat, k ≤ 256 ∧ i = .int .i64 k ∧ Bk wr w.heap.size 122 (tabV 0) ∧ Bk wr (w.heap.size + 1) 122 (tabV k) ∧ Below w.heap.size w wr) (fun _ i _ => 256 - (intOf i).toNat)
  case atStart => exact ⟨0, by omega, rfl, B0, B1, B2⟩
  case round =>
    clear B0 B1 B2
    obtain ⟨k, hk, rfl, h0, h1, h2⟩ := hrel
    have H0 := Lib.hid h0
    have H1 := Lib.hid h1
    have H2 := Lib.hid h2
    clear h0 h1 h2
    by_cases hlt : k < 256
    · have hw : IntKind.u32.wrap (k : Int) = (k : Int) := by rw [IntKind.wrap_u32']; omega
      have hw2 : (k : Int) % 4294967296 = (k : Int) := by omega
      have hcell := (H1.out.cell k).trans (tabV_at k k hlt)
      have hfz := H1.out.free k
      go_wp2_with fail
      refine (step_any k (by omega) _).mono ?_
      rintro e w1 ⟨rfl, rfl⟩
      go_wp2
      have N1 := H1.out.put k (.int .u32 ((stepN 8 k : Nat) : Int))
      rw [tabV_set k] at N1
      have N0 := H0.out.other (p := ⟨w.heap.size + 1, k, none⟩) (by simp) (.int .u32 ((stepN 8 k : Nat) : Int))
      have N2 := H2.out.setCell (p := ⟨w.heap.size + 1, k, none⟩) (by simp) (.int .u32 ((stepN 8 k : Nat) : Int))
      go_roundw
      case rel => exact ⟨k + 1, by omega, by go_num, N0, N1, N2⟩
      case measure => simp [intOf]; omega
    · obtain rfl : k = 256 := by omega
      have hlc := loadCells_bk (P := Try.prog) H1.out (tabV_size 256)
      have hsc := storeCells_bk (P := Try.prog) H0.out (cs := tabV 256) (by rw [tabV_size]; exact sizeTab) (by rw [tabV_size, tabV_size]) (tabV_one 256)
      have N0 := H0.out.row (tabV 256)
      have N2 := below_row H2.out (Nat.le_refl _) (tabV 256)
      go_wp2
      simp only [Try.isAgg122, Try.sizeOf122, Result.andThen, ↓reduceIte, hlc]
      rw [Oper.upon_value]
      go_wp2
      simp only [Try.sizeOf122, Result.andThen, ↓reduceIte, hsc, tabV_size]
      rw [Oper.upon_skip]
      go_wp2
      (try simp only [Exit.inBlock, Exit.then])
      refine bodyPost_ret (v := .agg (tabV 256)) ?_ rfl ⟨rfl, N2⟩
      rw [results_cell rfl]
      have hld := run_loadVar_row (P := Try.prog) _ _ 122 122 (tabV 256) (0, 0) _ N0 Try.underlying122 rfl (by rw [tabV_size]; exact sizeTab)
      simp [asAddr, Act.put, Result.andThen, hld]
end Go.Proofs.Ytlknjdfiedkhbaa
