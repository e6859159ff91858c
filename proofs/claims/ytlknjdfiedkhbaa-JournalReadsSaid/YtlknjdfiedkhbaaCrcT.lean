/- The eight steps of the remainder, walked. Condition: a number of 32 bits.
The table of what becomes of all bytes, walked: an array of 256 numbers, handed back by value. No condition.
The iterator over the bytes of a string: its contract for every loop body that keeps the string's box. Condition: a length below the model's greatest. -/
import Derived.Test.YtlknjdfiedkhbaaMem
import Derived.Test.YtlknjdfiedkhbaaSpec
import Derived.Deep.WholeRow
import Derived.Deep.MidRow
import Derived.Laws.ResultCell
import Derived.Test.YtlknjdfiedkhbaaViW
namespace Go.Proofs.Ytlknjdfiedkhbaa
open Go Go.RowKit
open Crc (stepN step1)

theorem xor32 (a b : Nat) (ha : a < 4294967296) (hb : b < 4294967296) : bits .xor .u32 (a : Int) (b : Int) = ((a ^^^ b : Nat) : Int) := by
  have h : a ^^^ b < 4294967296 := Crc.xor_lt a b ha hb
  show IntKind.u32.wrap ((BitVec.ofInt 32 (a : Int) ^^^ BitVec.ofInt 32 (b : Int)).toNat : Int) = _
  rw [BitVec.toNat_xor, BitVec.ofInt_natCast, BitVec.ofInt_natCast, BitVec.toNat_ofNat, BitVec.toNat_ofNat, Nat.mod_eq_of_lt (show a < 2 ^ 32 from ha), Nat.mod_eq_of_lt (show b < 2 ^ 32 from hb)]
  rw [IntKind.wrap_u32']
  omega
theorem xor8 (a b : Nat) (ha : a < 256) (hb : b < 256) : bits .xor .u8 (a : Int) (b : Int) = ((a ^^^ b : Nat) : Int) := by
  have h : a ^^^ b < 256 := Nat.xor_lt_two_pow (n := 8) ha hb
  show IntKind.u8.wrap ((BitVec.ofInt 8 (a : Int) ^^^ BitVec.ofInt 8 (b : Int)).toNat : Int) = _
  rw [BitVec.toNat_xor, BitVec.ofInt_natCast, BitVec.ofInt_natCast, BitVec.toNat_ofNat, BitVec.toNat_ofNat, Nat.mod_eq_of_lt (show a < 2 ^ 8 from ha), Nat.mod_eq_of_lt (show b < 2 ^ 8 from hb)]
  rw [IntKind.wrap_u8']
  omega
theorem wrap_i64_small {n : Int} (h0 : 0 ≤ n) (h1 : n < 9223372036854775808) : IntKind.i64.wrap n = n := by rw [IntKind.wrap_i64]; omega
theorem xor64 (a b : Nat) (ha : a < 4294967296) (hb : b < 4294967296) : bits .xor .i64 (a : Int) (b : Int) = ((a ^^^ b : Nat) : Int) := by
  have h : a ^^^ b < 4294967296 := Crc.xor_lt a b ha hb
  show IntKind.i64.wrap ((BitVec.ofInt 64 (a : Int) ^^^ BitVec.ofInt 64 (b : Int)).toNat : Int) = _
  rw [BitVec.toNat_xor, BitVec.ofInt_natCast, BitVec.ofInt_natCast, BitVec.toNat_ofNat, BitVec.toNat_ofNat, Nat.mod_eq_of_lt (show a < 2 ^ 64 by omega), Nat.mod_eq_of_lt (show b < 2 ^ 64 by omega)]
  rw [wrap_i64_small] <;> omega
theorem xor_poly (a : Nat) (ha : a < 4294967296) : bits .xor .u32 (a : Int) 2197175160 = ((a ^^^ Crc.poly : Nat) : Int) := xor32 a 2197175160 ha (by decide)

set_option maxRecDepth 100000 in
theorem step_any (r : Nat) (hr : r < 4294967296) (w : World) :
    Calls Try.prog 84 #[.int .u32 (r : Int)] w fun e w' => e = .returned (.int .u32 ((stepN 8 r : Nat) : Int)) ∧ w = w' := by
  go_enter Try.func84, Try.ntmps84
  go_wp2
  go_loop [0, 3] (fun x i => ∃ k c : Nat, k ≤ 8 ∧ i = .int .i64 k ∧ x = .int .u32 (c : Int) ∧ c < 4294967296 ∧ stepN (8 - k) c = stepN 8 r) (fun _ i => 8 - (intOf i).toNat)
  case atStart => exact ⟨0, r, by omega, rfl, rfl, hr, rfl⟩
  case round =>
    obtain ⟨k, c, hk, rfl, rfl, hc, hj⟩ := hrel
    have HJ := Lib.hid hj
    clear hj
    by_cases hlt : k < 8
    · have HS : Hid (stepN (8 - (k + 1)) (step1 c) = stepN 8 r) := by
        have h := HJ.out
        rw [show 8 - k = 8 - (k + 1) + 1 by omega] at h
        exact h
      have hs1 := Crc.step1_lt c hc
      by_cases ho : c % 2 = 1
      · have he : step1 c = c / 2 ^^^ Crc.poly := by unfold Crc.step1; rw [if_pos ho]
        have hxp : bits .xor .u32 ((c : Int) / 2) 2197175160 = ((step1 c : Nat) : Int) := by rw [he, show (c : Int) / 2 = ((c / 2 : Nat) : Int) by omega]; exact xor_poly (c / 2) (by omega)
        clear he
        generalize step1 c = d at HS hs1 hxp
        go_wp2
        go_round
        case rel => exact ⟨k + 1, d, by omega, by go_num, rfl, hs1, HS.out⟩
        case measure => simp [intOf]; omega
      · have he : step1 c = c / 2 := by unfold Crc.step1; rw [if_neg ho]
        have hev : (step1 c : Int) = (c : Int) / 2 := by rw [he]; omega
        have HE := Lib.hid hev
        clear he hev
        go_wp2
        go_round
        case rel => exact ⟨k + 1, step1 c, by omega, by go_num, by rw [HE.out], hs1, HS.out⟩
        case measure => simp [intOf]; omega
    · go_wp2
      go_ret
      have e : stepN (8 - k) c = stepN 8 r := HJ.out
      rw [show 8 - k = 0 by omega] at e
      exact ⟨ret_i (by rw [← e]; rfl), rfl⟩
end Go.Proofs.Ytlknjdfiedkhbaa
namespace Go.Proofs.Ytlknjdfiedkhbaa
open Go Go.RowKit
open Crc (stepN step1)
attribute [-simp] Try.isAgg122 Try.sizeOf122 Try.typeInfo122

/-- the table with its first k entries written -/
def tabV (k : Nat) : Array Value := Array.ofFn (n := 256) fun i => if i.1 < k then .int .u32 ((stepN 8 i.1 : Nat) : Int) else .int .u32 0
theorem tabV_size (k : Nat) : (tabV k).size = 256 := by simp [tabV]
theorem tabV_zero : tabV 0 = Array.replicate 256 (.int .u32 0) := by
  apply Array.ext
  · simp [tabV]
  · intro i h1 h2; simp [tabV]
theorem tabV_at (k i : Nat) (hi : i < 256) : (tabV k)[i]? = some (if i < k then .int .u32 ((stepN 8 i : Nat) : Int) else .int .u32 0) := by
  rw [Array.getElem?_eq_getElem (by rw [tabV_size]; exact hi)]
  simp [tabV]
theorem tabV_set (k : Nat) : (tabV k).setIfInBounds k (.int .u32 ((stepN 8 k : Nat) : Int)) = tabV (k + 1) := by
  apply Array.ext
  · simp [tabV]
  · intro i h1 h2
    have hi : i < 256 := by simpa [tabV] using h2
    rw [Array.getElem_setIfInBounds]
    · by_cases e : k = i
      · subst e; rw [if_pos rfl]; simp [tabV]
      · rw [if_neg e]
        have : (i < k + 1) = (i < k) := by apply propext; omega
        simp [tabV, this]
    · rw [tabV_size]; exact hi
theorem tabV_one (k : Nat) : (tabV k).all (·.oneCell') = true := by
  rw [Array.all_eq_true]
  intro i hi
  simp only [tabV, Array.getElem_ofFn]
  split <;> rfl
theorem infoTab : (Try.prog.info? 122).map (fun i => (i.zero, i.size)) = some (some (.agg (Array.replicate 256 (.int .u32 0))), 256) := by kernel_rfl
theorem sizeTab : (Try.prog.info? 122).map (·.size) = some 256 := by kernel_rfl

theorem range_bk {w : World} {g : Nat} {t : TypeId} {cs : Array Value} (h : Bk w g t cs) : w.rangeAt g 0 cs.toList := by
  intro j v hj
  rw [Nat.zero_add, h.cell j]
  simpa using hj
theorem there_bk {w : World} {g : Nat} {t : TypeId} {cs : Array Value} (h : Bk w g t cs) : w.there g 0 cs.size := by
  intro j hj
  rw [Nat.zero_add, h.cell j, h.free j]
  exact ⟨by rw [Array.getElem?_eq_getElem hj]; rfl, rfl⟩

theorem loadCells_bk {P : Program} {w : World} {g : Nat} {t : TypeId} {cs : Array Value} {n : Nat} (h : Bk w g t cs) (hn : cs.size = n) : (loadCellsFrom ⟨g, 0, none⟩ 0 n #[]).run P w = .ok cs w := by
  subst hn
  have := run_loadCells_list (P := P) w ⟨g, 0, none⟩ cs.toList (fun j v hv => by
    rw [Addr.add_mid, Nat.zero_add, h.cell j]
    simpa using hv)
  simpa [loadCells] using this
theorem storeCells_bk {P : Program} {w : World} {g : Nat} {t : TypeId} {old cs : Array Value} (h : Bk w g t old) (hi : (P.info? t).map (·.size) = some cs.size) (ho : old.size = cs.size) (h1 : cs.all (·.oneCell') = true) :
    (storeCells ⟨g, 0, none⟩ cs.toList 0).run P w = .ok () (w.setRow g cs) := by
  have := run_storeVar_row (P := P) w g t t old cs h hi ho h1
  cases hq : P.info? t with
  | none => simp [hq] at hi
  | some i =>
    have hs : cs.size = i.size := by simp [hq] at hi; omega
    simpa [storeVar, sizeOf, typeInfo, hq, Value.cells, hs] using this
theorem Bk.row {w : World} {g : Nat} {t : TypeId} {old : Array Value} (h : Bk w g t old) (cs : Array Value) : Bk (w.setRow g cs) g t cs := setRow_heap w g old cs t _ h
theorem below_row {B g : Nat} {w0 w : World} (hb : Below B w0 w) (hBg : B ≤ g) (cs : Array Value) : Below B w0 (w.setRow g cs) :=
  hb.trans ⟨rfl, rfl, rfl, by simp [World.setRow], fun k hk => setRow_other w g k cs (by omega)⟩
theorem results_cell {fn : Func} {p : Tmp} {ty : TypeId} (h : fn.results = #[.cell p ty]) (tmps : Array Value) (P : Program) (w : World) :
    (results fn tmps).run P w = ((asAddr (tmps.getD p undef)).run P w).andThen fun a w₁ => (loadVar ty a).run P w₁ := by
  simp only [results, h]
  simp [Sem.run_bind, Result.andThen]

set_option maxRecDepth 100000 in
theorem table_any (w : World) :
    Calls Try.prog 82 #[] w fun e w' => e = .returned (.agg (tabV 256)) ∧ Below w.heap.size w w' := by
  have hz := (zero_of_info infoTab).1
  rw [← tabV_zero] at hz
  go_enter Try.func82, Try.ntmps82
  go_wp2
  have B0 : Bk ((w.alloc (.cells (tabV 0) 122)).alloc (.cells (tabV 0) 122)) w.heap.size 122 (tabV 0) := (Bk.new w _ _).alloc _
  have B1 : Bk ((w.alloc (.cells (tabV 0) 122)).alloc (.cells (tabV 0) 122)) (w.heap.size + 1) 122 (tabV 0) := by
    have h := Bk.new (w.alloc (.cells (tabV 0) 122)) 122 (tabV 0)
    rwa [World.size_alloc] at h
  have B2 : Below w.heap.size w ((w.alloc (.cells (tabV 0) 122)).alloc (.cells (tabV 0) 122)) := ((Below.refl _ _).alloc (Nat.le_refl _) _).alloc (by simp) _
  generalize (w.alloc (.cells (tabV 0) 122)).alloc (.cells (tabV 0) 122) = W at B0 B1 B2 ⊢
  go_loopw [2, 3] (fun _ i wr => ∃ k : Nat, k ≤ 256 ∧ i = .int .i64 k ∧ Bk wr w.heap.size 122 (tabV 0) ∧ Bk wr (w.heap.size + 1) 122 (tabV k) ∧ Below w.heap.size w wr) (fun _ i _ => 256 - (intOf i).toNat)
  case atStart => exact ⟨0, by omega, rfl, B0, B1, B2⟩
  case round =>
    clear B0 B1 B2
    obtain ⟨k, hk, rfl, h0, h1, h2⟩ := hrel
    have H0 := Lib.hid h0
    have H1 := Lib.hid h1
    have H2 := Lib.hid h2
    clear h0 h1 h2
    by_cases hlt : k < 256
    · have hw : IntKind.u32.wrap (k : Int) = (k : Int) := by rw [IntKind.wrap_u32']; omega
      have hw2 : (k : Int) % 4294967296 = (k : Int) := by omega
      have hcell := (H1.out.cell k).trans (tabV_at k k hlt)
      have hfz := H1.out.free k
      go_wp2_with fail
      refine (step_any k (by omega) _).mono ?_
      rintro e w1 ⟨rfl, rfl⟩
      go_wp2
      have N1 := H1.out.put k (.int .u32 ((stepN 8 k : Nat) : Int))
      rw [tabV_set k] at N1
      have N0 := H0.out.other (p := ⟨w.heap.size + 1, k, none⟩) (by simp) (.int .u32 ((stepN 8 k : Nat) : Int))
      have N2 := H2.out.setCell (p := ⟨w.heap.size + 1, k, none⟩) (by simp) (.int .u32 ((stepN 8 k : Nat) : Int))
      go_roundw
      case rel => exact ⟨k + 1, by omega, by go_num, N0, N1, N2⟩
      case measure => simp [intOf]; omega
    · obtain rfl : k = 256 := by omega
      have hlc := loadCells_bk (P := Try.prog) H1.out (tabV_size 256)
      have hsc := storeCells_bk (P := Try.prog) H0.out (cs := tabV 256) (by rw [tabV_size]; exact sizeTab) (by rw [tabV_size, tabV_size]) (tabV_one 256)
      have N0 := H0.out.row (tabV 256)
      have N2 := below_row H2.out (Nat.le_refl _) (tabV 256)
      go_wp2
      simp only [Try.isAgg122, Try.sizeOf122, Result.andThen, ↓reduceIte, hlc]
      rw [Oper.upon_value]
      go_wp2
      simp only [Try.sizeOf122, Result.andThen, ↓reduceIte, hsc, tabV_size]
      rw [Oper.upon_skip]
      go_wp2
      (try simp only [Exit.inBlock, Exit.then])
      refine bodyPost_ret (v := .agg (tabV 256)) ?_ rfl ⟨rfl, N2⟩
      rw [results_cell rfl]
      have hld := run_loadVar_row (P := Try.prog) _ _ 122 122 (tabV 256) (0, 0) _ N0 Try.underlying122 rfl (by rw [tabV_size]; exact sizeTab)
      simp [asAddr, Act.put, Result.andThen, hld]
end Go.Proofs.Ytlknjdfiedkhbaa
namespace Go.Proofs.Ytlknjdfiedkhbaa
open Go Go.RowKit Go.Shelf
attribute [local go_sem] Oper.semAt_some

theorem bytes_in (n : Nat) (s : ByteArray) (w : World) :
    CallsIn Fence.wide n Try.prog 83 #[.string s] w fun e w' => e = .returned (.func (.func 85) #[] #[.pointer (some ⟨w.heap.size, 0, none⟩)]) ∧ w' = w.alloc (.cells #[.string s] 9) := by
  refine callsIn_of_wp Try.func83 rfl trivial ?_ rfl
  simp only [Try.ntmps83, List.size_toArray, List.length_cons, List.length_nil, Nat.reduceAdd, Nat.reduceSub, Array.replicate_succ, Array.replicate_zero, List.push_toArray, List.append_toArray, List.nil_append, List.cons_append]
  gi_wp2
  go_ret
  exact ⟨rfl, rfl⟩

theorem take_at (s : ByteArray) (k : Nat) (hk : k < s.size) : s.data.toList.take (k + 1) = s.data.toList.take k ++ [s[k]] := by
  rw [List.take_succ_eq_append_getElem (by simpa using hk)]; rfl

set_option maxRecDepth 100000 in
set_option maxHeartbeats 2000000 in
theorem bytes1_in (n : Nat) (hn : 1 ≤ n) (l Bn : Nat) (s : ByteArray) (hs : s.size ≤ maxLen) (J Jx : List UInt8 → World → Prop)
    (hY : ∀ (pre : List UInt8) (x : UInt8) (W : World), J pre W → pre.length < s.size → YieldAt Fence.wide (n - 1) Try.prog l #[.int .u8 (x.toNat : Int)] W fun e W' =>
      (e = .returned (.bool true) ∧ J (pre ++ [x]) W' ∧ BoxKept Bn W W') ∨ (e = .returned (.bool false) ∧ Jx (pre ++ [x]) W'))
    (W : World) (hW : W.heap[Bn]? = some (.cells #[.string s] 9 (0, 0))) (h0 : J [] W) :
    CallsIn Fence.wide n Try.prog 85 #[.func (.yield l) #[] #[], .pointer (some ⟨Bn, 0, none⟩)] W fun e W' => (∃ v, e = .returned v) ∧
      ((∃ xs, xs = s.data.toList ∧ J xs W') ∨ (∃ pre, True ∧ Jx pre W')) := by
  unfold maxLen at hs
  have hc0 : W.cell? ⟨Bn, 0, none⟩ = some (.string s) := cell_of_one hW
  have HJ0 := Lib.hid h0
  have HW := Lib.hid hW
  clear h0 hW
  refine callsIn_of_wp Try.func85 rfl trivial ?_ rfl
  simp only [Try.ntmps85, List.size_toArray, List.length_cons, List.length_nil, Nat.reduceAdd, Nat.reduceSub, Array.replicate_succ, Array.replicate_zero, List.push_toArray, List.append_toArray, List.nil_append, List.cons_append]
  gi_wp2
  gi_loopw [3, 6] (fun _ i wr => ∃ k : Nat, k ≤ s.size ∧ i = .int .i64 k ∧ J (s.data.toList.take k) wr ∧ wr.heap[Bn]? = some (.cells #[.string s] 9 (0, 0))) (fun _ i _ => (s.size - (intOf i).toNat))
  case atStart => exact ⟨0, by omega, rfl, HJ0.out, HW.out⟩
  case round =>
    clear hc0
    obtain ⟨k, hk, rfl, hJ, hb⟩ := hrel
    have hc1 : wr.cell? ⟨Bn, 0, none⟩ = some (.string s) := cell_of_one hb
    have HBn := Lib.hid hb
    clear hb
    by_cases hlt : k < s.size
    · have hpl : (s.data.toList.take k).length < s.size := by rw [List.length_take]; omega
      obtain ⟨fn, tmps, assign, body, hy, hR⟩ := hY (s.data.toList.take k) s[k] wr hJ hpl
      have HT := Lib.hid (take_at s k hlt)
      clear hpl hJ
      gi_wp2_with fail
      refine hR.mono ?_
      rintro e W3 (⟨rfl, hJ3, hk3⟩ | ⟨rfl, hJx3⟩)
      · have b1 := hk3 _ HBn.out rfl
        have HB1 := Lib.hid b1
        have HJ3 : Hid (J (s.data.toList.take (k + 1)) W3) := by have e := HT.out; show J (s.data.toList.take (k + 1)) W3; rw [e]; exact hJ3
        clear b1 hJ3 hk3 hy hR
        gi_wp2
        go_roundw
        case rel => exact ⟨k + 1, by omega, by go_num, HJ3.out, HB1.out⟩
        case measure => simp [intOf]; omega
      · gi_wp2
        refine bodyPost_ret (results_none rfl _ _ _) rfl ?_
        exact ⟨⟨_, rfl⟩, .inr ⟨_, trivial, hJx3⟩⟩
    · have HJ : Hid (J s.data.toList wr) := by
        have e : s.data.toList.take k = s.data.toList := List.take_of_length_le (by simp; omega)
        show J s.data.toList wr
        rw [← e]; exact hJ
      clear hJ
      gi_wp2
      go_end0
      exact ⟨⟨_, rfl⟩, .inl ⟨_, rfl, HJ.out⟩⟩

/-- The iterator's contract, as the law for the caller wants it. -/
theorem bytes_stops (n : Nat) (hn : 1 ≤ n) (Bn : Nat) (s : ByteArray) (hs : s.size ≤ maxLen) (w0 : World) (hw : w0.heap[Bn]? = some (.cells #[.string s] 9 (0, 0))) :
    SeqStopsK Fence.wide n Try.prog 85 #[.pointer (some ⟨Bn, 0, none⟩)] (fun x : UInt8 => #[Value.int .u8 (x.toNat : Int)]) (BoxKept Bn) (fun xs => xs = s.data.toList) (fun _ => True) s.size w0 := by
  intro l J Jx W hW _ _ hY h0
  exact bytes1_in n hn l Bn s hs J Jx hY W ((hW.block Bn (Array.getElem?_eq_some_iff.1 hw).1).trans hw) h0
end Go.Proofs.Ytlknjdfiedkhbaa
