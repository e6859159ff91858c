/- Slices of records in memory: what is known of their cells, and of the loads and stores of whole records. No condition.
SameRecords of the reference, walked. Conditions: the records lie in memory; lengths below the model's greatest.
Great of the reference, walked. Conditions: the records lie in memory; a length below the model's greatest.
A slice of records that came in, as a list of records. No condition. -/
import Derived.Test.YtlknjdfiedkhbaaJoItem
import Derived.Test.YtlknjdfiedkhbaaMem
import Derived.Deep.RegionHeld3
import Derived.Deep.MidRow
import Derived.Deep.DrawnRows
import Derived.Lib.Strings
import Derived.OpenShut
import Derived.Deep.Slices
namespace Go.Proofs.Ytlknjdfiedkhbaa
open Go Go.RowKit
open Jo (RId Itm Rec rcA rcL itA idA)

/-- The first elements of a slice at A are these records. -/
def RecsAt (w : World) (A : Option Addr) (l : List Rec) : Prop := ∀ k r, l[k]? = some r → ∃ b off, A = some ⟨b, off, none⟩ ∧ w.rangeAt b (off + k * 19) (rcL r)
theorem range_below {w w' : World} {b o : Nat} {cs : List Value} (h : w.rangeAt b o cs) (hb : Below w.heap.size w w') : w'.rangeAt b o cs := fun j v hv =>
  (hb.cell (p := ⟨b, o + j, none⟩) (World.block_lt_of_cell? _ _ (h j v hv))).trans (h j v hv)
theorem RecsAt.below {w w' : World} {A : Option Addr} {l : List Rec} (h : RecsAt w A l) (hb : Below w.heap.size w w') : RecsAt w' A l := fun k r hk => by
  obtain ⟨b, off, hA, hr⟩ := h k r hk
  exact ⟨b, off, hA, range_below hr hb⟩
theorem RecsAt.nil (w : World) (A : Option Addr) : RecsAt w A [] := fun k r h => by simp at h
theorem RecsAt.drew {w : World} {A : Option Addr} {l : List Rec} (h : RecsAt w A l) : RecsAt w.drew A l := h
theorem RecsAt.take {w : World} {A : Option Addr} {l : List Rec} (h : RecsAt w A l) (n : Nat) : RecsAt w A (l.take n) := fun k r hk => h k r (by
  rw [List.getElem?_take] at hk
  split at hk
  · exact hk
  · simp at hk)
/-- the address of an element -/
theorem RecsAt.one {w : World} {A : Option Addr} {l : List Rec} (h : RecsAt w A l) (hl : 0 < l.length) : ∃ b off, A = some ⟨b, off, none⟩ ∧ ∀ k r, l[k]? = some r → w.rangeAt b (off + k * 19) (rcL r) := by
  obtain ⟨b, off, hA, _⟩ := h 0 l[0] (List.getElem?_eq_getElem hl)
  refine ⟨b, off, hA, fun k r hk => ?_⟩
  obtain ⟨b', off', hA', hr⟩ := h k r hk
  rw [hA] at hA'
  cases hA'
  exact hr
theorem loadCells_range {P : Program} {w : World} {b o n : Nat} {cs : List Value} (h : w.rangeAt b o cs) (hn : cs.length = n) : (loadCellsFrom ⟨b, o, none⟩ 0 n #[]).run P w = .ok cs.toArray w := by
  have := run_loadCells_list (P := P) w ⟨b, o, none⟩ cs (fun j v hv => by rw [Addr.add_mid]; exact h j v hv)
  rw [hn] at this
  simpa [loadCells] using this
def zRec : Rec := ⟨0, Jo.zIt, Jo.zId, 0, 0⟩
theorem infoRec : (Try.prog.info? 34).map (fun i => (i.zero, i.size)) = some (some (.agg (rcA zRec)), 19) := by kernel_rfl
theorem sizeRec : (Try.prog.info? 34).map (·.size) = some 19 := by kernel_rfl
end Go.Proofs.Ytlknjdfiedkhbaa
namespace Go.Proofs.Ytlknjdfiedkhbaa
open Go Go.RowKit
open Jo (RId Itm Rec wi vId ckI ck zId zIt idA itA rcA rcL idL itL)

theorem list_inj {s t : ByteArray} (h : s.toList = t.toList) : s = t := by
  rw [Go.Lib.toList_data, Go.Lib.toList_data] at h
  cases s; cases t
  simpa using h
theorem ix_rec (b off n c k : Nat) (h : k < n) (w : World) : Sem.run Try.prog (Instr.indexAt 22 (.slice (some ⟨b, off, none⟩) n c) (.int .i64 (k : Int))) w = .ok (.pointer (some ⟨b, off + k * 19, none⟩)) w := by
  have h1 : (0 : Int) ≤ (k : Int) := by omega
  have h2 : (k : Int) < (n : Int) := by omega
  go_simp
/-- do two records differ? (not reducible: the walk leaves it as it is) -/
def diffB (a b : Rec) : Bool := !decide (a = b)
set_option maxHeartbeats 4000000 in
set_option maxRecDepth 100000 in
theorem neq_lit (a1 a2 a3 a4 a5 a6 a7 a8 a9 a10 a13 a14 a15 a16 a17 a18 a19 b1 b2 b3 b4 b5 b6 b7 b8 b9 b10 b13 b14 b15 b16 b17 b18 b19 : Int) (a11 b11 : Bool) (a12 b12 : ByteArray) (w : World) : Sem.run Try.prog (binOp .neq 34 (.agg #[.int .i64 a1, .int .i64 a2, .int .i64 a3, .int .i64 a4, .int .i64 a5, .int .i64 a6, .int .i64 a7, .int .i64 a8, .int .i64 a9, .int .i64 a10, .bool a11, .string a12, .int .i64 a13, .int .i64 a14, .int .i64 a15, .int .i64 a16, .int .i64 a17, .int .i64 a18, .int .i64 a19]) (.agg #[.int .i64 b1, .int .i64 b2, .int .i64 b3, .int .i64 b4, .int .i64 b5, .int .i64 b6, .int .i64 b7, .int .i64 b8, .int .i64 b9, .int .i64 b10, .bool b11, .string b12, .int .i64 b13, .int .i64 b14, .int .i64 b15, .int .i64 b16, .int .i64 b17, .int .i64 b18, .int .i64 b19])) w = .ok (.bool (diffB ⟨a1, ⟨a2, ⟨a3, a4, a5, a6, a7⟩, a8, a9, a10, a11, a12⟩, ⟨a13, a14, a15, a16, a17⟩, a18, a19⟩ ⟨b1, ⟨b2, ⟨b3, b4, b5, b6, b7⟩, b8, b9, b10, b11, b12⟩, ⟨b13, b14, b15, b16, b17⟩, b18, b19⟩)) w := by
  unfold diffB
  go_simp
  by_cases h1 : a1 = b1
  · subst h1
    by_cases h2 : a2 = b2
    · subst h2
      by_cases h3 : a3 = b3
      · subst h3
        by_cases h4 : a4 = b4
        · subst h4
          by_cases h5 : a5 = b5
          · subst h5
            by_cases h6 : a6 = b6
            · subst h6
              by_cases h7 : a7 = b7
              · subst h7
                by_cases h8 : a8 = b8
                · subst h8
                  by_cases h9 : a9 = b9
                  · subst h9
                    by_cases h10 : a10 = b10
                    · subst h10
                      by_cases h11 : a11 = b11
                      · subst h11
                        by_cases h12 : a12 = b12
                        · subst h12
                          by_cases h13 : a13 = b13
                          · subst h13
                            by_cases h14 : a14 = b14
                            · subst h14
                              by_cases h15 : a15 = b15
                              · subst h15
                                by_cases h16 : a16 = b16
                                · subst h16
                                  by_cases h17 : a17 = b17
                                  · subst h17
                                    by_cases h18 : a18 = b18
                                    · subst h18
                                      by_cases h19 : a19 = b19
                                      · subst h19
                                        simp
                                      · simp [h19]
                                    · simp [h18]
                                  · simp [h17]
                                · simp [h16]
                              · simp [h15]
                            · simp [h14]
                          · simp [h13]
                        · have hl : ¬ a12.toList = b12.toList := fun h => h12 (list_inj h)
                          simp [h12, hl]
                      · simp [h11]
                    · simp [h10]
                  · simp [h9]
                · simp [h8]
              · simp [h7]
            · simp [h6]
          · simp [h5]
        · simp [h4]
      · simp [h3]
    · simp [h2]
  · simp [h1]
theorem neq_rec (a b : Rec) (w : World) : Sem.run Try.prog (binOp .neq 34 (.agg (rcL a).toArray) (.agg (rcL b).toArray)) w = .ok (.bool (diffB a b)) w := by
  obtain ⟨a1, ⟨a2, ⟨a3, a4, a5, a6, a7⟩, a8, a9, a10, a11, a12⟩, ⟨a13, a14, a15, a16, a17⟩, a18, a19⟩ := a
  obtain ⟨b1, ⟨b2, ⟨b3, b4, b5, b6, b7⟩, b8, b9, b10, b11, b12⟩, ⟨b13, b14, b15, b16, b17⟩, b18, b19⟩ := b
  exact neq_lit a1 a2 a3 a4 a5 a6 a7 a8 a9 a10 a13 a14 a15 a16 a17 a18 a19 b1 b2 b3 b4 b5 b6 b7 b8 b9 b10 b13 b14 b15 b16 b17 b18 b19 a11 b11 a12 b12 w
theorem take_next {α : Type} {a b : List α} {k : Nat} (h1 : k < a.length) (h2 : k < b.length) (h : a.take k = b.take k) : a[k] = b[k] → a.take (k + 1) = b.take (k + 1) := fun e => by
  rw [List.take_succ_eq_append_getElem h1, List.take_succ_eq_append_getElem h2, h, e]
attribute [local go_sem ↓] neq_rec ix_rec Go.wp_at_zero Go.wp_at_succ
attribute [-simp] Try.isAgg34 Try.sizeOf34 Try.typeInfo34
set_option maxHeartbeats 2000000 in
set_option maxRecDepth 100000 in
theorem sameRec_any (A B : Option Addr) (cA cB : Nat) (a b : List Rec) (w : World) (hA : RecsAt w A a) (hB : RecsAt w B b) (ha : a.length ≤ maxLen) (_hb : b.length ≤ maxLen) :
    Calls Try.prog 17 #[.slice A a.length cA, .slice B b.length cB] w fun e w' => e = .returned (.bool (decide (a = b))) ∧ Below w.heap.size w w' := by
  unfold maxLen at ha
  have HA := Lib.hid hA
  have HB := Lib.hid hB
  clear hA hB
  by_cases hlen : a.length = b.length
  · have HL := Lib.hid hlen
    go_enter Try.func17, Try.ntmps17
    go_wp2
    go_loopw [5] (fun i wr => ∃ k : Nat, k ≤ a.length ∧ i = .int .i64 k ∧ Below w.heap.size w wr ∧ a.take k = b.take k) (fun i _ => a.length - (intOf i).toNat)
    case atStart => exact ⟨0, Nat.zero_le _, rfl, Below.refl _ _, rfl⟩
    case round =>
      obtain ⟨k, hk, rfl, hbw, heq⟩ := hrel
      have HBW := Lib.hid hbw
      have HE := Lib.hid heq
      clear hbw heq
      by_cases hlt : k < a.length
      · obtain ⟨b1, o1, rfl, hr1⟩ := HA.out.one (by omega)
        obtain ⟨b2, o2, rfl, hr2⟩ := HB.out.one (by have := HL.out; omega)
        have hx := range_below (hr1 k _ (List.getElem?_eq_getElem hlt)) HBW.out
        have hlt2 : k < b.length := by have := HL.out; omega
        have hy := range_below (hr2 k _ (List.getElem?_eq_getElem hlt2)) HBW.out
        have hT := take_next hlt hlt2 HE.out
        have hNE : ¬ a[k] = b[k] → ¬ a = b := fun h e => h (by simp [e])
        generalize a[k] = x at hx hT hNE
        generalize b[k] = y at hy hT hNE
        have HT := Lib.hid hT
        have HNE := Lib.hid hNE
        have HDB : Hid (diffB x y = !decide (x = y)) := rfl
        generalize hdb : diffB x y = db at HDB
        have HB2 := Lib.hid hdb
        obtain ⟨N, hN⟩ : ∃ N : Nat, N = 19 := ⟨19, rfl⟩
        have HN19 := Lib.hid hN
        have hag : ∀ w, Sem.run Try.prog (isAgg 34) w = .ok true w := fun w => Try.isAgg34 w
        have hso : ∀ w, Sem.run Try.prog (sizeOf 34) w = .ok N w := fun w => by rw [HN19.out]; exact Try.sizeOf34 w
        have hcx : Sem.run Try.prog (loadCellsFrom ⟨b1, o1 + k * 19, none⟩ 0 N #[]) wr.drew = .ok (rcL x).toArray wr.drew := by rw [HN19.out]; exact loadCells_range (show wr.drew.rangeAt _ _ _ from hx) rfl
        have hcy : Sem.run Try.prog (loadCellsFrom ⟨b2, o2 + k * 19, none⟩ 0 N #[]) wr.drew = .ok (rcL y).toArray wr.drew := by rw [HN19.out]; exact loadCells_range (show wr.drew.rangeAt _ _ _ from hy) rfl
        have HCX := Lib.hid hcx
        have HCY := Lib.hid hcy
        clear hr1 hr2 hx hy hT hNE hdb hN hcx hcy
        go_wp2
        go_region_held3 (fun w' => Sem.run Try.prog (loadCellsFrom ⟨b1, o1 + k * 19, none⟩ 0 N #[]) w' = .ok (rcL x).toArray w' ∧ Sem.run Try.prog (loadCellsFrom ⟨b2, o2 + k * 19, none⟩ 0 N #[]) w' = .ok (rcL y).toArray w') (exact ⟨HCX.out, HCY.out⟩) (fail)
        rw [HB2.out]
        clear hag hso
        cases db
        · have HN := Lib.hid (HT.out (by have h := HDB.out; simpa using h))
          go_wp2
          go_roundw
          case rel => exact ⟨k + 1, by omega, by go_num, HBW.out.drew, HN.out⟩
          case measure => simp [intOf]; omega
        · have HN := Lib.hid (HNE.out (by have h := HDB.out; intro e; rw [e] at h; simp at h))
          go_wp2
          go_ret
          exact ⟨ret_b (by rw [decide_eq_false HN.out]), HBW.out.drew⟩
      · have HK : Hid (k = a.length) := by show k = a.length; omega
        have HF : Hid (a = b) := by
          show a = b
          have h := HE.out
          rw [HK.out, List.take_length] at h
          have hl := HL.out
          rw [h, hl, List.take_length]
        go_wp2
        go_ret
        exact ⟨ret_b (by rw [decide_eq_true HF.out]), HBW.out⟩
  · have HN : Hid (¬ a = b) := fun e => hlen (by rw [e])
    have hne : ((a.length : Int) != (b.length : Int)) = true := by rw [bne_iff_ne]; omega
    clear hlen
    go_enter Try.func17, Try.ntmps17
    go_wp2
    go_ret
    exact ⟨ret_b (by rw [decide_eq_false HN.out]), Below.refl _ _⟩
end Go.Proofs.Ytlknjdfiedkhbaa
namespace Go.Proofs.Ytlknjdfiedkhbaa
open Go Go.RowKit
open Jo (RId Itm Rec rcA rcL)
attribute [-simp] Try.isAgg34 Try.sizeOf34 Try.typeInfo34

def bigRec (r : Rec) : Bool := (decide (300 < r.item.data.size) && decide (r.item.data.size < 65000)) || decide (66000 < r.item.data.size)
/-- what Great answers -/
def greatB (l : List Rec) : Bool := decide (16 < l.length) || l.any bigRec
theorem great_no {l : List Rec} (h : greatB l = false) : l.length ≤ 16 ∧ ∀ r ∈ l, r.item.data.size ≤ 66000 := by
  unfold greatB at h
  rw [Bool.or_eq_false_iff] at h
  refine ⟨by simpa using h.1, fun r hr => ?_⟩
  have h2 := (List.any_eq_false.1 h.2) r hr
  simp [bigRec] at h2
  omega
theorem any_snoc (l : List Rec) (k : Nat) (r : Rec) (h : l[k]? = some r) (h0 : (l.take k).any bigRec = false) : (bigRec r = false → (l.take (k + 1)).any bigRec = false) ∧ (bigRec r = true → l.any bigRec = true) := by
  have hk : k < l.length := (List.getElem?_eq_some_iff.1 h).1
  have e : l[k] = r := (List.getElem?_eq_some_iff.1 h).2
  constructor
  · intro c
    rw [List.take_succ_eq_append_getElem hk, e]
    simp [h0, c]
  · intro c
    rw [List.any_eq_true]
    exact ⟨r, List.mem_of_getElem? h, c⟩

set_option maxHeartbeats 2000000 in
set_option maxRecDepth 100000 in
theorem great_any (A : Option Addr) (cA : Nat) (l : List Rec) (w : World) (hA : RecsAt w A l) (hl : l.length ≤ maxLen) (hd : ∀ r ∈ l, r.item.data.size ≤ maxLen) :
    Calls Try.prog 9 #[.slice A l.length cA] w fun e w' => e = .returned (.bool (greatB l)) ∧ w = w' := by
  unfold maxLen at hl
  have HA := Lib.hid hA
  have HD := Lib.hid hd
  clear hA hd
  by_cases h16 : 16 < l.length
  · have HG : Hid (greatB l = true) := by show greatB l = true; simp [greatB, h16]
    go_enter Try.func9, Try.ntmps9
    go_wp2
    go_ret
    exact ⟨ret_b HG.out.symm, rfl⟩
  · go_enter Try.func9, Try.ntmps9
    go_wp2
    go_loop [3, 4] (fun i _ => ∃ k : Nat, k ≤ l.length ∧ i = .int .i64 k ∧ (l.take k).any bigRec = false) (fun i _ => l.length - (intOf i).toNat)
    case atStart => exact ⟨0, Nat.zero_le _, rfl, rfl⟩
    case round =>
      obtain ⟨k, hk, rfl, hno⟩ := hrel
      have HNO := Lib.hid hno
      clear hno
      by_cases hlt : k < l.length
      · obtain ⟨b, off, rfl, hr⟩ := HA.out.one (by omega)
        obtain ⟨r, hrk⟩ : ∃ r, l[k]? = some r := ⟨_, List.getElem?_eq_getElem hlt⟩
        have HRK := Lib.hid hrk
        have hc : w.cell? ⟨b, off + k * 19 + 11, none⟩ = some (.string r.item.data) := hr k r hrk 11 _ rfl
        have hm := HD.out r (List.mem_of_getElem? hrk)
        unfold maxLen at hm
        have HS := Lib.hid (any_snoc l k r hrk HNO.out)
        clear hr hrk
        generalize hsz : r.item.data.size = sz at hm
        have hb : bigRec r = ((decide (300 < sz) && decide (sz < 65000)) || decide (66000 < sz)) := by unfold bigRec; rw [hsz]
        have HSZ := Lib.hid hsz
        clear hsz
        generalize bigRec r = q at HS hb
        by_cases s1 : 300 < sz
        · by_cases s2 : sz < 65000
          · have HQ : Hid (q = true) := by show q = true; rw [hb]; simp [s1, s2]
            have HG := Lib.hid (HS.out.2 HQ.out)
            clear hb HQ HS
            have s1' : (300 : Int) < (r.item.data.size : Int) := by have := HSZ.out; omega
            have s2' : (r.item.data.size : Int) < 65000 := by have := HSZ.out; omega
            clear s1 s2 hm
            go_wp2_with fail
            simp only [Try.sizeOf34, Result.andThen]
            rw [Oper.upon_value]
            go_wp2
            go_ret
            exact ⟨ret_b (by unfold greatB; rw [HG.out, Bool.or_true]), rfl⟩
          · by_cases s3 : 66000 < sz
            · have HQ : Hid (q = true) := by show q = true; rw [hb]; simp [s3]
              have HG := Lib.hid (HS.out.2 HQ.out)
              clear hb HQ HS
              have s1' : (300 : Int) < (r.item.data.size : Int) := by have := HSZ.out; omega
              have s2' : ¬ (r.item.data.size : Int) < 65000 := by have := HSZ.out; omega
              have s3' : (66000 : Int) < (r.item.data.size : Int) := by have := HSZ.out; omega
              clear s1 s2 s3 hm
              go_wp2_with fail
              simp only [Try.sizeOf34, Result.andThen]
              rw [Oper.upon_value]
              go_wp2
              go_ret
              exact ⟨ret_b (by unfold greatB; rw [HG.out, Bool.or_true]), rfl⟩
            · have HQ : Hid (q = false) := by show q = false; rw [hb]; simp [s2, s3]
              have HG := Lib.hid (HS.out.1 HQ.out)
              clear hb HQ HS
              have s1' : (300 : Int) < (r.item.data.size : Int) := by have := HSZ.out; omega
              have s2' : ¬ (r.item.data.size : Int) < 65000 := by have := HSZ.out; omega
              have s3' : ¬ (66000 : Int) < (r.item.data.size : Int) := by have := HSZ.out; omega
              clear s1 s2 s3 hm
              go_wp2_with fail
              simp only [Try.sizeOf34, Result.andThen]
              rw [Oper.upon_value]
              go_wp2
              go_round
              case rel => exact ⟨k + 1, by omega, by go_num, HG.out⟩
              case measure => simp [intOf]; omega
        · have s3 : ¬ 66000 < sz := by omega
          have HQ : Hid (q = false) := by show q = false; rw [hb]; simp [s1, s3]
          have HG := Lib.hid (HS.out.1 HQ.out)
          clear hb HQ HS
          have s1' : ¬ (300 : Int) < (r.item.data.size : Int) := by have := HSZ.out; omega
          have s3' : ¬ (66000 : Int) < (r.item.data.size : Int) := by have := HSZ.out; omega
          clear s1 s3 hm
          go_wp2_with fail
          simp only [Try.sizeOf34, Result.andThen]
          rw [Oper.upon_value]
          go_wp2
          go_round
          case rel => exact ⟨k + 1, by omega, by go_num, HG.out⟩
          case measure => simp [intOf]; omega
      · have hkl : k = l.length := by omega
        have HG : Hid (greatB l = false) := by
          show greatB l = false
          unfold greatB
          have := HNO.out
          rw [hkl, List.take_length] at this
          rw [this]
          simp [h16]
        go_wp2
        go_ret
        exact ⟨ret_b HG.out.symm, rfl⟩
end Go.Proofs.Ytlknjdfiedkhbaa
namespace Go.Proofs.Ytlknjdfiedkhbaa
open Go Go.RowKit Go.ChangeShapes Go.WideShapes Go.Deep
open Jo (RId Itm Rec rcA rcL itA idA)

section
variable {H : Type} {enc : TypeId × Value → H} {w : World} {base : Nat} {spare : Nat → Bool} {held : Bool}

set_option maxRecDepth 100000 in
theorem open_idc {fuel : Nat} {cs : List Value} {x : DataW H × List MemPlace} (h : DataW.trod enc Try.prog w base spare held fuel 30 cs = some x) : ∃ a : RId, cs = Jo.idL a := by
  obtain ⟨xs, n, _, _, hl, hxs, hf⟩ := DataW.trod_struct Try.underlying30 h
  have hl5 : cs.length = 5 := hl.trans (by kernel_rfl)
  have hc1 : Try.prog.cellsOf 3 = 1 := by kernel_rfl
  match cs, hl5 with
  | [c0, c1, c2, c3, c4], _ =>
    have f0 := hf 0 _ rfl
    have f1 := hf 1 _ rfl
    have f2 := hf 2 _ rfl
    have f3 := hf 3 _ rfl
    have f4 := hf 4 _ rfl
    have hx : xs.length = 5 := hxs
    match xs, hx with
    | [y0, y1, y2, y3, y4], _ =>
      simp [hc1] at f0 f1 f2 f3 f4
      obtain ⟨a0, e0, _, _⟩ := DataW.trod_int Try.underlying3 f0
      obtain ⟨a1, e1, _, _⟩ := DataW.trod_int Try.underlying3 f1
      obtain ⟨a2, e2, _, _⟩ := DataW.trod_int Try.underlying3 f2
      obtain ⟨a3, e3, _, _⟩ := DataW.trod_int Try.underlying3 f3
      obtain ⟨a4, e4, _, _⟩ := DataW.trod_int Try.underlying3 f4
      simp only [List.cons.injEq, and_true] at e0 e1 e2 e3 e4
      exact ⟨⟨a0, a1, a2, a3, a4⟩, by rw [e0, e1, e2, e3, e4]; rfl⟩

set_option maxRecDepth 100000 in
theorem open_itc {fuel : Nat} {cs : List Value} {x : DataW H × List MemPlace} (h : DataW.trod enc Try.prog w base spare held fuel 32 cs = some x) : ∃ a : Itm, cs = Jo.itL a ∧ a.data.size ≤ maxLen := by
  obtain ⟨xs, n, _, _, hl, hxs, hf⟩ := DataW.trod_struct Try.underlying32 h
  have hl5 : cs.length = 11 := hl.trans (by kernel_rfl)
  have hc1 : Try.prog.cellsOf 3 = 1 := by kernel_rfl
  have hc2 : Try.prog.cellsOf 4 = 1 := by kernel_rfl
  have hc3 : Try.prog.cellsOf 9 = 1 := by kernel_rfl
  have hc4 : Try.prog.cellsOf 30 = 5 := by kernel_rfl
  match cs, hl5 with
  | [c0, c1, c2, c3, c4, c5, c6, c7, c8, c9, c10], _ =>
    have f0 := hf 0 _ rfl
    have f1 := hf 1 _ rfl
    have f2 := hf 2 _ rfl
    have f3 := hf 3 _ rfl
    have f4 := hf 4 _ rfl
    have f5 := hf 5 _ rfl
    have f6 := hf 6 _ rfl
    have hx : xs.length = 7 := hxs
    match xs, hx with
    | [y0, y1, y2, y3, y4, y5, y6], _ =>
      simp [hc1, hc2, hc3, hc4] at f0 f1 f2 f3 f4 f5 f6
      obtain ⟨a0, e0, _, _⟩ := DataW.trod_int Try.underlying3 f0
      obtain ⟨a1, e1⟩ := open_idc f1
      obtain ⟨a2, e2, _, _⟩ := DataW.trod_int Try.underlying3 f2
      obtain ⟨a3, e3, _, _⟩ := DataW.trod_int Try.underlying3 f3
      obtain ⟨a4, e4, _, _⟩ := DataW.trod_int Try.underlying3 f4
      obtain ⟨a5, e5, _⟩ := DataW.trod_bool Try.underlying4 f5
      obtain ⟨a6, e6, _, hm⟩ := DataW.trod_string Try.underlying9 f6
      simp only [List.cons.injEq, and_true, Jo.idL] at e0 e1 e2 e3 e4 e5 e6
      obtain ⟨u1, u2, u3, u4, u5⟩ := e1
      exact ⟨⟨a0, a1, a2, a3, a4, a5, a6⟩, by rw [e0, u1, u2, u3, u4, u5, e2, e3, e4, e5, e6]; rfl, hm⟩

set_option maxRecDepth 100000 in
theorem open_rcc {fuel : Nat} {cs : List Value} {x : DataW H × List MemPlace} (h : DataW.trod enc Try.prog w base spare held fuel 34 cs = some x) : ∃ a : Rec, cs = rcL a ∧ a.item.data.size ≤ maxLen := by
  obtain ⟨xs, n, _, _, hl, hxs, hf⟩ := DataW.trod_struct Try.underlying34 h
  have hl5 : cs.length = 19 := hl.trans (by kernel_rfl)
  have hc1 : Try.prog.cellsOf 3 = 1 := by kernel_rfl
  have hc4 : Try.prog.cellsOf 30 = 5 := by kernel_rfl
  have hc5 : Try.prog.cellsOf 32 = 11 := by kernel_rfl
  match cs, hl5 with
  | [c0, c1, c2, c3, c4, c5, c6, c7, c8, c9, c10, c11, c12, c13, c14, c15, c16, c17, c18], _ =>
    have f0 := hf 0 _ rfl
    have f1 := hf 1 _ rfl
    have f2 := hf 2 _ rfl
    have f3 := hf 3 _ rfl
    have f4 := hf 4 _ rfl
    have hx : xs.length = 5 := hxs
    match xs, hx with
    | [y0, y1, y2, y3, y4], _ =>
      simp [hc1, hc4, hc5] at f0 f1 f2 f3 f4
      obtain ⟨a0, e0, _, _⟩ := DataW.trod_int Try.underlying3 f0
      obtain ⟨a1, e1, hm⟩ := open_itc f1
      obtain ⟨a2, e2⟩ := open_idc f2
      obtain ⟨a3, e3, _, _⟩ := DataW.trod_int Try.underlying3 f3
      obtain ⟨a4, e4, _, _⟩ := DataW.trod_int Try.underlying3 f4
      simp only [List.cons.injEq, and_true, Jo.idL, Jo.itL] at e0 e1 e2 e3 e4
      obtain ⟨u1, u2, u3, u4, u5, u6, u7, u8, u9, u10, u11⟩ := e1
      obtain ⟨v1, v2, v3, v4, v5⟩ := e2
      exact ⟨⟨a0, a1, a2, a3, a4⟩, by rw [e0, u1, u2, u3, u4, u5, u6, u7, u8, u9, u10, u11, v1, v2, v3, v4, v5, e3, e4]; rfl, hm⟩

theorem add_plain {a : Addr} {i : Nat} {v : Value} (h0 : a.spot = none) (h : w.cell? (a.add i) = some v) : w.cell? ⟨a.block, a.off + i, none⟩ = some v := by
  obtain ⟨b, off, spot⟩ := a
  have hspot : spot = none := h0
  subst hspot
  unfold Addr.add at h
  split at h
  · rename_i hz; subst hz; exact h
  · exact h

theorem recs_of_arg {fuel : Nat} {cs : List Value} {x : DataW H × List MemPlace} (h : DataW.trod enc Try.prog w base spare held fuel 22 cs = some x) :
    ∃ (A : Option Addr) (l : List Rec) (c : Nat), cs = [.slice A l.length c] ∧ l.length ≤ maxLen ∧ RecsAt w A l ∧ (∀ r ∈ l, r.item.data.size ≤ maxLen) ∧ l.length ≤ c := by
  rcases open_slice Try.underlying22 h with ⟨rfl, _⟩ | ⟨a, len, cap, m, n, D, Pl, rfl, _, hl, hm, hmm, _, hi⟩
  · exact ⟨none, [], 0, rfl, by decide, RecsAt.nil _ _, by simp, Nat.le_refl _⟩
  · have hC : Try.prog.cellsOf 34 = 19 := by kernel_rfl
    have hlm : len ≤ m := by rw [hmm]; split <;> omega
    have one : ∀ i, i < m → ∃ r : Rec, r.item.data.size ≤ maxLen ∧ ∀ j v, (rcL r)[j]? = some v → w.cell? (a.add (i * 19 + j)) = some v := fun i him => by
      obtain ⟨cs', hc, ht⟩ := hi i him
      rw [hC] at hc
      obtain ⟨_, hcl, hat⟩ := World.cells?_some hc
      obtain ⟨r, rfl, hd⟩ := open_rcc ht
      refine ⟨r, hd, fun j v hv => ?_⟩
      have hj : j < 19 := (List.getElem?_eq_some_iff.1 hv).1
      have h1 := hat j hj
      rw [Go.Deep.add_add, hv] at h1
      exact h1
    let F : Nat → Rec := fun i => if h : i < m then Classical.choose (one i h) else zRec
    have hF : ∀ i, i < m → (F i).item.data.size ≤ maxLen ∧ ∀ j v, (rcL (F i))[j]? = some v → w.cell? (a.add (i * 19 + j)) = some v := fun i him => by
      show (if h : i < m then Classical.choose (one i h) else zRec).item.data.size ≤ maxLen ∧ _
      simp only [F, dif_pos him]
      exact Classical.choose_spec (one i him)
    refine ⟨some a, (List.range len).map F, cap, by simp, by simp; omega, fun k r hk => ?_, fun r hr => ?_, by simp; omega⟩
    · have hkl : k < len := by
        have := (List.getElem?_eq_some_iff.1 hk).1
        simpa using this
      rw [List.getElem?_map, List.getElem?_range hkl] at hk
      simp only [Option.map_some, Option.some.injEq] at hk
      subst hk
      have g := (hF k (by omega)).2
      have hs : a.spot = none := by
        have g0 := World.cell?_spot ((hF 0 (by omega)).2 0 _ rfl)
        simpa [Addr.add] using g0
      obtain ⟨b, off, sp⟩ := a
      simp only at hs
      subst hs
      refine ⟨b, off, rfl, fun j v hv => ?_⟩
      have := add_plain rfl (g j v hv)
      rw [Nat.add_assoc]
      exact this
    · obtain ⟨i, hi', rfl⟩ := List.mem_map.1 hr
      exact (hF i (by have := List.mem_range.1 hi'; omega)).1
end
end Go.Proofs.Ytlknjdfiedkhbaa
