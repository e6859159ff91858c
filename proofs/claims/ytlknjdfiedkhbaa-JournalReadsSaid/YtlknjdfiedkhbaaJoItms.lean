/- Slices of items in memory; the reference's find and SameItems, walked. Conditions: the items lie in memory; lengths below the model's greatest. -/
import Derived.Test.YtlknjdfiedkhbaaJoCmpR
import Derived.Test.YtlknjdfiedkhbaaJoRecs2
namespace Go.Proofs.Ytlknjdfiedkhbaa
open Go Go.RowKit
open Jo (RId Itm Rec rcA rcL itA itL idA idL)

/-- The first elements of a slice at A are these items. -/
def ItmsAt (w : World) (A : Option Addr) (l : List Itm) : Prop := ∀ k r, l[k]? = some r → ∃ b off, A = some ⟨b, off, none⟩ ∧ w.rangeAt b (off + k * 11) (itL r)
theorem ItmsAt.below {w w' : World} {A : Option Addr} {l : List Itm} (h : ItmsAt w A l) (hb : Below w.heap.size w w') : ItmsAt w' A l := fun k r hk => by
  obtain ⟨b, off, hA, hr⟩ := h k r hk
  exact ⟨b, off, hA, range_below hr hb⟩
theorem ItmsAt.nil (w : World) (A : Option Addr) : ItmsAt w A [] := fun k r h => by simp at h
theorem ItmsAt.drew {w : World} {A : Option Addr} {l : List Itm} (h : ItmsAt w A l) : ItmsAt w.drew A l := h
theorem ItmsAt.one {w : World} {A : Option Addr} {l : List Itm} (h : ItmsAt w A l) (hl : 0 < l.length) : ∃ b off, A = some ⟨b, off, none⟩ ∧ ∀ k r, l[k]? = some r → w.rangeAt b (off + k * 11) (itL r) := by
  obtain ⟨b, off, hA, _⟩ := h 0 l[0] (List.getElem?_eq_getElem hl)
  refine ⟨b, off, hA, fun k r hk => ?_⟩
  obtain ⟨b', off', hA', hr⟩ := h k r hk
  rw [hA] at hA'
  cases hA'
  exact hr
theorem range_part {w : World} {b o p n : Nat} {cs : List Value} (h : w.rangeAt b o cs) : w.rangeAt b (o + p) ((cs.drop p).take n) := fun j v hv => by
  rw [List.getElem?_take] at hv
  split at hv
  · rw [List.getElem?_drop] at hv
    rw [Nat.add_assoc]
    exact h (p + j) v hv
  · exact absurd hv (by simp)
theorem item_id (r : Itm) : ((itL r).drop 1).take 5 = idL r.id := rfl
/-- do two ids agree? do two items differ? (not reducible: the walk leaves them as they are) -/
def sameI (a b : RId) : Bool := decide (a = b)
def diffI (a b : Itm) : Bool := !decide (a = b)
theorem ix_item (b off n c k : Nat) (h : k < n) (w : World) : Sem.run Try.prog (Instr.indexAt 37 (.slice (some ⟨b, off, none⟩) n c) (.int .i64 (k : Int))) w = .ok (.pointer (some ⟨b, off + k * 11, none⟩)) w := by
  have h1 : (0 : Int) ≤ (k : Int) := by omega
  have h2 : (k : Int) < (n : Int) := by omega
  go_simp
theorem fa_item (b o : Nat) (w : World) : Sem.run Try.prog (Instr.fieldAt 32 (.pointer (some ⟨b, o, none⟩)) 1) w = .ok (.pointer (some ⟨b, o + 1, none⟩)) w := by kernel_rfl
set_option maxHeartbeats 4000000 in
set_option maxRecDepth 100000 in
theorem eql_lit (a1 a2 a3 a4 a5 b1 b2 b3 b4 b5 : Int) (w : World) : Sem.run Try.prog (binOp .eql 30 (.agg #[.int .i64 a1, .int .i64 a2, .int .i64 a3, .int .i64 a4, .int .i64 a5]) (.agg #[.int .i64 b1, .int .i64 b2, .int .i64 b3, .int .i64 b4, .int .i64 b5])) w = .ok (.bool (sameI ⟨a1, a2, a3, a4, a5⟩ ⟨b1, b2, b3, b4, b5⟩)) w := by
  unfold sameI
  go_simp
  by_cases h1 : a1 = b1
  · subst h1
    by_cases h2 : a2 = b2
    · subst h2
      by_cases h3 : a3 = b3
      · subst h3
        by_cases h4 : a4 = b4
        · subst h4
          by_cases h5 : a5 = b5
          · subst h5
            simp
          · simp [h5]
        · simp [h4]
      · simp [h3]
    · simp [h2]
  · simp [h1]
theorem eql_id (a b : RId) (w : World) : Sem.run Try.prog (binOp .eql 30 (.agg (idL a).toArray) (.agg (idL b).toArray)) w = .ok (.bool (sameI a b)) w := by
  obtain ⟨a1, a2, a3, a4, a5⟩ := a
  obtain ⟨b1, b2, b3, b4, b5⟩ := b
  exact eql_lit a1 a2 a3 a4 a5 b1 b2 b3 b4 b5 w
theorem fidx_some {L : List Itm} {x : RId} {k : Nat} {y : Itm} (h : L[k]? = some y) (hy : y.id = x) (hn : ∀ z ∈ L.take k, z.id ≠ x) : fidx L x = some k := by
  have hk : k < L.length := (List.getElem?_eq_some_iff.1 h).1
  have e : L[k] = y := (List.getElem?_eq_some_iff.1 h).2
  unfold fidx
  rw [List.findIdx?_eq_some_iff_getElem]
  refine ⟨hk, by rw [e]; simpa using hy, fun j hj => ?_⟩
  have := hn L[j] (by rw [List.mem_take_iff_getElem]; exact ⟨j, by omega, rfl⟩)
  simpa using this
/-- what find answers -/
def findZ (L : List Itm) (x : RId) : Int := match fidx L x with
  | some i => (i : Int)
  | none => -1
set_option maxHeartbeats 4000000 in
set_option maxRecDepth 100000 in
theorem neq_ilit (a1 a2 a3 a4 a5 a6 a7 a8 a9 b1 b2 b3 b4 b5 b6 b7 b8 b9 : Int) (a10 b10 : Bool) (a11 b11 : ByteArray) (w : World) :
    Sem.run Try.prog (binOp .neq 32 (.agg #[.int .i64 a1, .int .i64 a2, .int .i64 a3, .int .i64 a4, .int .i64 a5, .int .i64 a6, .int .i64 a7, .int .i64 a8, .int .i64 a9, .bool a10, .string a11]) (.agg #[.int .i64 b1, .int .i64 b2, .int .i64 b3, .int .i64 b4, .int .i64 b5, .int .i64 b6, .int .i64 b7, .int .i64 b8, .int .i64 b9, .bool b10, .string b11])) w = .ok (.bool (diffI ⟨a1, ⟨a2, a3, a4, a5, a6⟩, a7, a8, a9, a10, a11⟩ ⟨b1, ⟨b2, b3, b4, b5, b6⟩, b7, b8, b9, b10, b11⟩)) w := by
  unfold diffI
  go_simp
  by_cases h1 : a1 = b1
  · subst h1
    by_cases h2 : a2 = b2
    · subst h2
      by_cases h3 : a3 = b3
      · subst h3
        by_cases h4 : a4 = b4
        · subst h4
          by_cases h5 : a5 = b5
          · subst h5
            by_cases h6 : a6 = b6
            · subst h6
              by_cases h7 : a7 = b7
              · subst h7
                by_cases h8 : a8 = b8
                · subst h8
                  by_cases h9 : a9 = b9
                  · subst h9
                    by_cases h10 : a10 = b10
                    · subst h10
                      by_cases h11 : a11 = b11
                      · subst h11
                        simp
                      · have hl : ¬ a11.toList = b11.toList := fun h => h11 (list_inj h)
                        simp [h11, hl]
                    · simp [h10]
                  · simp [h9]
                · simp [h8]
              · simp [h7]
            · simp [h6]
          · simp [h5]
        · simp [h4]
      · simp [h3]
    · simp [h2]
  · simp [h1]
theorem neq_item (a b : Itm) (w : World) : Sem.run Try.prog (binOp .neq 32 (.agg (itL a).toArray) (.agg (itL b).toArray)) w = .ok (.bool (diffI a b)) w := by
  obtain ⟨a1, ⟨a2, a3, a4, a5, a6⟩, a7, a8, a9, a10, a11⟩ := a
  obtain ⟨b1, ⟨b2, b3, b4, b5, b6⟩, b7, b8, b9, b10, b11⟩ := b
  exact neq_ilit a1 a2 a3 a4 a5 a6 a7 a8 a9 b1 b2 b3 b4 b5 b6 b7 b8 b9 a10 b10 a11 b11 w
attribute [local go_sem ↓] eql_id ix_item fa_item Go.wp_at_zero Go.wp_at_succ
attribute [-simp] Try.isAgg30 Try.sizeOf30 Try.typeInfo30
set_option maxHeartbeats 2000000 in
set_option maxRecDepth 100000 in
theorem findR_any (A : Option Addr) (cA : Nat) (L : List Itm) (x : RId) (w : World) (hA : ItmsAt w A L) (hl : L.length ≤ maxLen) :
    Calls Try.prog 51 #[.slice A L.length cA, .agg (idA x)] w fun e w' => e = .returned (.int .i64 (findZ L x)) ∧ Below w.heap.size w w' := by
  unfold maxLen at hl
  have HA := Lib.hid hA
  have HK := Lib.hid (Bk.new w 30 (idA x))
  have HB0 : Hid (Below w.heap.size w (w.alloc (.cells (idA x) 30))) := (Below.refl _ _).alloc (Nat.le_refl _) _
  clear hA
  go_enter Try.func51, Try.ntmps51
  go_wp2
  generalize w.alloc (.cells (idA x) 30) = W at HK HB0 ⊢
  generalize hg : w.heap.size = g at HK ⊢
  have HG := Lib.hid hg
  clear hg
  go_loopw [5] (fun i wr => ∃ k : Nat, k ≤ L.length ∧ i = .int .i64 k ∧ Below w.heap.size w wr ∧ Bk wr g 30 (idA x) ∧ ∀ z ∈ L.take k, z.id ≠ x) (fun i _ => L.length - (intOf i).toNat)
  case atStart => exact ⟨0, Nat.zero_le _, rfl, HB0.out, HK.out, by simp⟩
  case round =>
    clear HB0 HK
    obtain ⟨k, hk, rfl, hbw, hkk, hno⟩ := hrel
    have HBW := Lib.hid hbw
    have HKK := Lib.hid hkk
    have HNO := Lib.hid hno
    clear hbw hkk hno
    by_cases hlt : k < L.length
    · obtain ⟨b, off, rfl, hr⟩ := HA.out.one (by omega)
      obtain ⟨y, hy⟩ : ∃ y, L[k]? = some y := ⟨_, List.getElem?_eq_getElem hlt⟩
      have hx := range_part (p := 1) (n := 5) (range_below (hr k y hy) HBW.out)
      rw [item_id] at hx
      have HY := Lib.hid hy
      have HT : Hid (y.id ≠ x → ∀ z ∈ L.take (k + 1), z.id ≠ x) := fun h z hz => by
        have e : L[k] = y := (List.getElem?_eq_some_iff.1 HY.out).2
        rw [List.take_succ_eq_append_getElem hlt, e] at hz
        rcases List.mem_append.1 hz with hz | hz
        · exact HNO.out z hz
        · simp only [List.mem_singleton] at hz; subst hz; exact h
      have HF : Hid (y.id = x → fidx L x = some k) := fun h => fidx_some HY.out h HNO.out
      have HDB : Hid (sameI y.id x = decide (y.id = x)) := rfl
      generalize hdb : sameI y.id x = db at HDB
      have HB2 := Lib.hid hdb
      obtain ⟨N, hN⟩ : ∃ N : Nat, N = 5 := ⟨5, rfl⟩
      have HN := Lib.hid hN
      have hn0 : ¬ N = 0 := by omega
      have hag : ∀ w, Sem.run Try.prog (isAgg 30) w = .ok true w := fun w => Try.isAgg30 w
      have hso : ∀ w, Sem.run Try.prog (sizeOf 30) w = .ok N w := fun w => by rw [HN.out]; exact Try.sizeOf30 w
      have hcx : Sem.run Try.prog (loadCellsFrom ⟨b, off + k * 11 + 1, none⟩ 0 N #[]) wr.drew = .ok (idL y.id).toArray wr.drew := by rw [HN.out]; exact loadCells_range (show wr.drew.rangeAt _ _ _ from hx) rfl
      have hcy : Sem.run Try.prog (loadCellsFrom ⟨g, 0, none⟩ 0 N #[]) wr.drew = .ok (idL x).toArray wr.drew := by rw [HN.out]; exact loadCells_bk (HKK.out.drew) (Jo.idA_size x)
      have HCX := Lib.hid hcx
      have HCY := Lib.hid hcy
      clear hr hx hy hdb hN hcx hcy
      go_wp2
      go_region_held3 (fun w' => Sem.run Try.prog (loadCellsFrom ⟨b, off + k * 11 + 1, none⟩ 0 N #[]) w' = .ok (idL y.id).toArray w' ∧ Sem.run Try.prog (loadCellsFrom ⟨g, 0, none⟩ 0 N #[]) w' = .ok (idL x).toArray w') (exact ⟨HCX.out, HCY.out⟩) (fail)
      rw [HB2.out]
      clear hag hso hn0
      cases db
      · have HN2 := Lib.hid (HT.out (by have h := HDB.out; simpa using h))
        go_wp2
        go_roundw
        case rel => exact ⟨k + 1, by omega, by go_num, HBW.out.drew, HKK.out.drew, HN2.out⟩
        case measure => simp [intOf]; omega
      · have HN2 := Lib.hid (HF.out (by have h := HDB.out; simpa using h))
        go_wp2
        go_ret
        exact ⟨ret_i (by unfold findZ; rw [HN2.out]), HBW.out.drew⟩
    · have HF : Hid (fidx L x = none) := by
        show fidx L x = none
        rw [fidx_none]
        intro z hz
        refine HNO.out z ?_
        rw [List.take_of_length_le (by omega)]
        exact hz
      go_wp2
      go_ret
      exact ⟨ret_i (by unfold findZ; rw [HF.out]), HBW.out⟩
attribute [local go_sem ↓] neq_item
attribute [-simp] Try.isAgg32 Try.sizeOf32 Try.typeInfo32
set_option maxHeartbeats 2000000 in
set_option maxRecDepth 100000 in
theorem sameItm_any (A B : Option Addr) (cA cB : Nat) (a b : List Itm) (w : World) (hA : ItmsAt w A a) (hB : ItmsAt w B b) (ha : a.length ≤ maxLen) (_hb : b.length ≤ maxLen) :
    Calls Try.prog 18 #[.slice A a.length cA, .slice B b.length cB] w fun e w' => e = .returned (.bool (decide (a = b))) ∧ Below w.heap.size w w' := by
  unfold maxLen at ha
  have HA := Lib.hid hA
  have HB := Lib.hid hB
  clear hA hB
  by_cases hlen : a.length = b.length
  · have HL := Lib.hid hlen
    go_enter Try.func18, Try.ntmps18
    go_wp2
    go_loopw [5] (fun i wr => ∃ k : Nat, k ≤ a.length ∧ i = .int .i64 k ∧ Below w.heap.size w wr ∧ a.take k = b.take k) (fun i _ => a.length - (intOf i).toNat)
    case atStart => exact ⟨0, Nat.zero_le _, rfl, Below.refl _ _, rfl⟩
    case round =>
      obtain ⟨k, hk, rfl, hbw, heq⟩ := hrel
      have HBW := Lib.hid hbw
      have HE := Lib.hid heq
      clear hbw heq
      by_cases hlt : k < a.length
      · obtain ⟨b1, o1, rfl, hr1⟩ := HA.out.one (by omega)
        obtain ⟨b2, o2, rfl, hr2⟩ := HB.out.one (by have := HL.out; omega)
        have hx := range_below (hr1 k _ (List.getElem?_eq_getElem hlt)) HBW.out
        have hlt2 : k < b.length := by have := HL.out; omega
        have hy := range_below (hr2 k _ (List.getElem?_eq_getElem hlt2)) HBW.out
        have hT := take_next hlt hlt2 HE.out
        have hNE : ¬ a[k] = b[k] → ¬ a = b := fun h e => h (by simp [e])
        generalize a[k] = x at hx hT hNE
        generalize b[k] = y at hy hT hNE
        have HT := Lib.hid hT
        have HNE := Lib.hid hNE
        have HDB : Hid (diffI x y = !decide (x = y)) := rfl
        generalize hdb : diffI x y = db at HDB
        have HB2 := Lib.hid hdb
        obtain ⟨N, hN⟩ : ∃ N : Nat, N = 11 := ⟨11, rfl⟩
        have HN19 := Lib.hid hN
        have hag : ∀ w, Sem.run Try.prog (isAgg 32) w = .ok true w := fun w => Try.isAgg32 w
        have hso : ∀ w, Sem.run Try.prog (sizeOf 32) w = .ok N w := fun w => by rw [HN19.out]; exact Try.sizeOf32 w
        have hcx : Sem.run Try.prog (loadCellsFrom ⟨b1, o1 + k * 11, none⟩ 0 N #[]) wr.drew = .ok (itL x).toArray wr.drew := by rw [HN19.out]; exact loadCells_range (show wr.drew.rangeAt _ _ _ from hx) rfl
        have hcy : Sem.run Try.prog (loadCellsFrom ⟨b2, o2 + k * 11, none⟩ 0 N #[]) wr.drew = .ok (itL y).toArray wr.drew := by rw [HN19.out]; exact loadCells_range (show wr.drew.rangeAt _ _ _ from hy) rfl
        have HCX := Lib.hid hcx
        have HCY := Lib.hid hcy
        clear hr1 hr2 hx hy hT hNE hdb hN hcx hcy
        go_wp2
        go_region_held3 (fun w' => Sem.run Try.prog (loadCellsFrom ⟨b1, o1 + k * 11, none⟩ 0 N #[]) w' = .ok (itL x).toArray w' ∧ Sem.run Try.prog (loadCellsFrom ⟨b2, o2 + k * 11, none⟩ 0 N #[]) w' = .ok (itL y).toArray w') (exact ⟨HCX.out, HCY.out⟩) (fail)
        rw [HB2.out]
        clear hag hso
        cases db
        · have HN := Lib.hid (HT.out (by have h := HDB.out; simpa using h))
          go_wp2
          go_roundw
          case rel => exact ⟨k + 1, by omega, by go_num, HBW.out.drew, HN.out⟩
          case measure => simp [intOf]; omega
        · have HN := Lib.hid (HNE.out (by have h := HDB.out; intro e; rw [e] at h; simp at h))
          go_wp2
          go_ret
          exact ⟨ret_b (by rw [decide_eq_false HN.out]), HBW.out.drew⟩
      · have HK : Hid (k = a.length) := by show k = a.length; omega
        have HF : Hid (a = b) := by
          show a = b
          have h := HE.out
          rw [HK.out, List.take_length] at h
          have hl := HL.out
          rw [h, hl, List.take_length]
        go_wp2
        go_ret
        exact ⟨ret_b (by rw [decide_eq_true HF.out]), HBW.out⟩
  · have HN : Hid (¬ a = b) := fun e => hlen (by rw [e])
    have hne : ((a.length : Int) != (b.length : Int)) = true := by rw [bne_iff_ne]; omega
    clear hlen
    go_enter Try.func18, Try.ntmps18
    go_wp2
    go_ret
    exact ⟨ret_b (by rw [decide_eq_false HN.out]), Below.refl _ _⟩
end Go.Proofs.Ytlknjdfiedkhbaa
