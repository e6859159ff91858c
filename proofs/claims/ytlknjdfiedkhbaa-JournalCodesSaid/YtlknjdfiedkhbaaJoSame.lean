/- SameRecords of the reference, walked. Conditions: the records lie in memory; lengths below the model's greatest. -/
import Derived.Test.YtlknjdfiedkhbaaJoRecs
import Derived.Deep.RegionHeld3
import Derived.Deep.MidRow
import Derived.Deep.DrawnRows
import Derived.Lib.Strings
namespace Go.Proofs.Ytlknjdfiedkhbaa
open Go Go.RowKit
open Jo (RId Itm Rec wi vId ckI ck zId zIt idA itA rcA rcL idL itL)

theorem list_inj {s t : ByteArray} (h : s.toList = t.toList) : s = t := by
  rw [Go.Lib.toList_data, Go.Lib.toList_data] at h
  cases s; cases t
  simpa using h
theorem ix_rec (b off n c k : Nat) (h : k < n) (w : World) : Sem.run Try.prog (Instr.indexAt 22 (.slice (some ⟨b, off, none⟩) n c) (.int .i64 (k : Int))) w = .ok (.pointer (some ⟨b, off + k * 19, none⟩)) w := by
  have h1 : (0 : Int) ≤ (k : Int) := by omega
  have h2 : (k : Int) < (n : Int) := by omega
  go_simp
/-- do two records differ? (not reducible: the walk leaves it as it is) -/
def diffB (a b : Rec) : Bool := !decide (a = b)
set_option maxHeartbeats 4000000 in
set_option maxRecDepth 100000 in
theorem neq_lit (a1 a2 a3 a4 a5 a6 a7 a8 a9 a10 a13 a14 a15 a16 a17 a18 a19 b1 b2 b3 b4 b5 b6 b7 b8 b9 b10 b13 b14 b15 b16 b17 b18 b19 : Int) (a11 b11 : Bool) (a12 b12 : ByteArray) (w : World) : Sem.run Try.prog (binOp .neq 34 (.agg #[.int .i64 a1, .int .i64 a2, .int .i64 a3, .int .i64 a4, .int .i64 a5, .int .i64 a6, .int .i64 a7, .int .i64 a8, .int .i64 a9, .int .i64 a10, .bool a11, .string a12, .int .i64 a13, .int .i64 a14, .int .i64 a15, .int .i64 a16, .int .i64 a17, .int .i64 a18, .int .i64 a19]) (.agg #[.int .i64 b1, .int .i64 b2, .int .i64 b3, .int .i64 b4, .int .i64 b5, .int .i64 b6, .int .i64 b7, .int .i64 b8, .int .i64 b9, .int .i64 b10, .bool b11, .string b12, .int .i64 b13, .int .i64 b14, .int .i64 b15, .int .i64 b16, .int .i64 b17, .int .i64 b18, .int .i64 b19])) w = .ok (.bool (diffB ⟨a1, ⟨a2, ⟨a3, a4, a5, a6, a7⟩, a8, a9, a10, a11, a12⟩, ⟨a13, a14, a15, a16, a17⟩, a18, a19⟩ ⟨b1, ⟨b2, ⟨b3, b4, b5, b6, b7⟩, b8, b9, b10, b11, b12⟩, ⟨b13, b14, b15, b16, b17⟩, b18, b19⟩)) w := by
  unfold diffB
  go_simp
  by_cases h1 : a1 = b1
  · subst h1
    by_cases h2 : a2 = b2
    · subst h2
      by_cases h3 : a3 = b3
      · subst h3
        by_cases h4 : a4 = b4
        · subst h4
          by_cases h5 : a5 = b5
          · subst h5
            by_cases h6 : a6 = b6
            · subst h6
              by_cases h7 : a7 = b7
              · subst h7
                by_cases h8 : a8 = b8
                · subst h8
                  by_cases h9 : a9 = b9
                  · subst h9
                    by_cases h10 : a10 = b10
                    · subst h10
                      by_cases h11 : a11 = b11
                      · subst h11
                        by_cases h12 : a12 = b12
                        · subst h12
                          by_cases h13 : a13 = b13
                          · subst h13
                            by_cases h14 : a14 = b14
                            · subst h14
                              by_cases h15 : a15 = b15
                              · subst h15
                                by_cases h16 : a16 = b16
                                · subst h16
                                  by_cases h17 : a17 = b17
                                  · subst h17
                                    by_cases h18 : a18 = b18
                                    · subst h18
                                      by_cases h19 : a19 = b19
                                      · subst h19
                                        simp
                                      · simp [h19]
                                    · simp [h18]
                                  · simp [h17]
                                · simp [h16]
                              · simp [h15]
                            · simp [h14]
                          · simp [h13]
                        · have hl : ¬ a12.toList = b12.toList := fun h => h12 (list_inj h)
                          simp [h12, hl]
                      · simp [h11]
                    · simp [h10]
                  · simp [h9]
                · simp [h8]
              · simp [h7]
            · simp [h6]
          · simp [h5]
        · simp [h4]
      · simp [h3]
    · simp [h2]
  · simp [h1]
theorem neq_rec (a b : Rec) (w : World) : Sem.run Try.prog (binOp .neq 34 (.agg (rcL a).toArray) (.agg (rcL b).toArray)) w = .ok (.bool (diffB a b)) w := by
  obtain ⟨a1, ⟨a2, ⟨a3, a4, a5, a6, a7⟩, a8, a9, a10, a11, a12⟩, ⟨a13, a14, a15, a16, a17⟩, a18, a19⟩ := a
  obtain ⟨b1, ⟨b2, ⟨b3, b4, b5, b6, b7⟩, b8, b9, b10, b11, b12⟩, ⟨b13, b14, b15, b16, b17⟩, b18, b19⟩ := b
  exact neq_lit a1 a2 a3 a4 a5 a6 a7 a8 a9 a10 a13 a14 a15 a16 a17 a18 a19 b1 b2 b3 b4 b5 b6 b7 b8 b9 b10 b13 b14 b15 b16 b17 b18 b19 a11 b11 a12 b12 w
theorem take_next {α : Type} {a b : List α} {k : Nat} (h1 : k < a.length) (h2 : k < b.length) (h : a.take k = b.take k) : a[k] = b[k] → a.take (k + 1) = b.take (k + 1) := fun e => by
  rw [List.take_succ_eq_append_getElem h1, List.take_succ_eq_append_getElem h2, h, e]
attribute [local go_sem ↓] neq_rec ix_rec Go.wp_at_zero Go.wp_at_succ
attribute [-simp] Try.isAgg34 Try.sizeOf34 Try.typeInfo34
set_option maxHeartbeats 2000000 in
set_option maxRecDepth 100000 in
theorem sameRec_any (A B : Option Addr) (cA cB : Nat) (a b : List Rec) (w : World) (hA : RecsAt w A a) (hB : RecsAt w B b) (ha : a.length ≤ maxLen) (_hb : b.length ≤ maxLen) :
    Calls Try.prog 17 #[.slice A a.length cA, .slice B b.length cB] w fun e w' => e = .returned (.bool (decide (a = b))) ∧ Below w.heap.size w w' := by
  unfold maxLen at ha
  have HA := Lib.hid hA
  have HB := Lib.hid hB
  clear hA hB
  by_cases hlen : a.length = b.length
  · have HL := Lib.hid hlen
    go_enter Try.func17, Try.ntmps17
    go_wp2
    go_loopw [5] (fun i wr => ∃ k : Nat, k ≤ a.length ∧ i = .int .i64 k ∧ Below w.heap.size w wr ∧ a.take k = b.take k) (fun i _ => a.length - (intOf i).toNat)
    case atStart => exact ⟨0, Nat.zero_le _, rfl, Below.refl _ _, rfl⟩
    case round =>
      obtain ⟨k, hk, rfl, hbw, heq⟩ := hrel
      have HBW := Lib.hid hbw
      have HE := Lib.hid heq
      clear hbw heq
      by_cases hlt : k < a.length
      · obtain ⟨b1, o1, rfl, hr1⟩ := HA.out.one (by omega)
        obtain ⟨b2, o2, rfl, hr2⟩ := HB.out.one (by have := HL.out; omega)
        have hx := range_below (hr1 k _ (List.getElem?_eq_getElem hlt)) HBW.out
        have hlt2 : k < b.length := by have := HL.out; omega
        have hy := range_below (hr2 k _ (List.getElem?_eq_getElem hlt2)) HBW.out
        have hT := take_next hlt hlt2 HE.out
        have hNE : ¬ a[k] = b[k] → ¬ a = b := fun h e => h (by simp [e])
        generalize a[k] = x at hx hT hNE
        generalize b[k] = y at hy hT hNE
        have HT := Lib.hid hT
        have HNE := Lib.hid hNE
        have HDB : Hid (diffB x y = !decide (x = y)) := rfl
        generalize hdb : diffB x y = db at HDB
        have HB2 := Lib.hid hdb
        obtain ⟨N, hN⟩ : ∃ N : Nat, N = 19 := ⟨19, rfl⟩
        have HN19 := Lib.hid hN
        have hag : ∀ w, Sem.run Try.prog (isAgg 34) w = .ok true w := fun w => Try.isAgg34 w
        have hso : ∀ w, Sem.run Try.prog (sizeOf 34) w = .ok N w := fun w => by rw [HN19.out]; exact Try.sizeOf34 w
        have hcx : Sem.run Try.prog (loadCellsFrom ⟨b1, o1 + k * 19, none⟩ 0 N #[]) wr.drew = .ok (rcL x).toArray wr.drew := by rw [HN19.out]; exact loadCells_range (show wr.drew.rangeAt _ _ _ from hx) rfl
        have hcy : Sem.run Try.prog (loadCellsFrom ⟨b2, o2 + k * 19, none⟩ 0 N #[]) wr.drew = .ok (rcL y).toArray wr.drew := by rw [HN19.out]; exact loadCells_range (show wr.drew.rangeAt _ _ _ from hy) rfl
        have HCX := Lib.hid hcx
        have HCY := Lib.hid hcy
        clear hr1 hr2 hx hy hT hNE hdb hN hcx hcy
        go_wp2
        go_region_held3 (fun w' => Sem.run Try.prog (loadCellsFrom ⟨b1, o1 + k * 19, none⟩ 0 N #[]) w' = .ok (rcL x).toArray w' ∧ Sem.run Try.prog (loadCellsFrom ⟨b2, o2 + k * 19, none⟩ 0 N #[]) w' = .ok (rcL y).toArray w') (exact ⟨HCX.out, HCY.out⟩) (fail)
        rw [HB2.out]
        clear hag hso
        cases db
        · have HN := Lib.hid (HT.out (by have h := HDB.out; simpa using h))
          go_wp2
          go_roundw
          case rel => exact ⟨k + 1, by omega, by go_num, HBW.out.drew, HN.out⟩
          case measure => simp [intOf]; omega
        · have HN := Lib.hid (HNE.out (by have h := HDB.out; intro e; rw [e] at h; simp at h))
          go_wp2
          go_ret
          exact ⟨ret_b (by rw [decide_eq_false HN.out]), HBW.out.drew⟩
      · have HK : Hid (k = a.length) := by show k = a.length; omega
        have HF : Hid (a = b) := by
          show a = b
          have h := HE.out
          rw [HK.out, List.take_length] at h
          have hl := HL.out
          rw [h, hl, List.take_length]
        go_wp2
        go_ret
        exact ⟨ret_b (by rw [decide_eq_true HF.out]), HBW.out⟩
  · have HN : Hid (¬ a = b) := fun e => hlen (by rw [e])
    have hne : ((a.length : Int) != (b.length : Int)) = true := by rw [bne_iff_ne]; omega
    clear hlen
    go_enter Try.func17, Try.ntmps17
    go_wp2
    go_ret
    exact ⟨ret_b (by rw [decide_eq_false HN.out]), Below.refl _ _⟩
end Go.Proofs.Ytlknjdfiedkhbaa
