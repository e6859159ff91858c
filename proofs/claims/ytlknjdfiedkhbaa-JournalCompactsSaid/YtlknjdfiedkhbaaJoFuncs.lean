/- The two closures of JournalCompacts, and slices.IndexFunc and ContainsFunc over them, walked. Conditions: the records lie in memory; lengths below the model's greatest. -/
import Derived.Test.YtlknjdfiedkhbaaJoEff
import Derived.Test.YtlknjdfiedkhbaaJoAwake
import Derived.Test.YtlknjdfiedkhbaaJoSlice
namespace Go.Proofs.Ytlknjdfiedkhbaa
open Go Go.RowKit
open Jo (RId Itm Rec rcA rcL ck)
attribute [-simp] Try.isAgg34 Try.sizeOf34 Try.typeInfo34

def kindNo (r : Rec) : Bool := (r.kind != 1) && (r.kind != 3)
def errIs (q : Int) (r : Rec) : Bool := ck r == q
theorem any_step {p : Rec → Bool} {l : List Rec} {k : Nat} {r : Rec} (h : l[k]? = some r) (h0 : (l.take k).any p = false) : (p r = false → (l.take (k + 1)).any p = false) ∧ (p r = true → l.any p = true) := by
  have hk : k < l.length := (List.getElem?_eq_some_iff.1 h).1
  have e : l[k] = r := (List.getElem?_eq_some_iff.1 h).2
  constructor
  · intro c
    rw [List.take_succ_eq_append_getElem hk, e]
    simp [h0, c]
  · intro c
    rw [List.any_eq_true]
    exact ⟨r, List.mem_of_getElem? h, c⟩
/-- what IndexFunc answers -/
def IdxPost (w : World) (b : Bool) (e : Ending) (w' : World) : Prop := ∃ z : Int, e = .returned (.int .i64 z) ∧ decide (0 ≤ z) = b ∧ Below w.heap.size w w'

set_option maxHeartbeats 2000000 in
set_option maxRecDepth 100000 in
theorem clos2_any (r : Rec) (w : World) : Calls Try.prog 16 #[.agg (rcA r)] w fun e w' => e = .returned (.bool (kindNo r)) ∧ Below w.heap.size w w' := by
  have hc : (w.alloc (.cells (rcA r) 34)).cell? ⟨w.heap.size, 0, none⟩ = some (.int .i64 r.kind) := (Bk.new w _ _).cell 0
  have HB : Hid (Below w.heap.size w (w.alloc (.cells (rcA r) 34))) := (Below.refl _ _).alloc (Nat.le_refl _) _
  have HK : Hid (kindNo r = ((r.kind != 1) && (r.kind != 3))) := rfl
  generalize kindNo r = q at HK ⊢
  generalize hk : r.kind = k at hc HK
  clear hk
  by_cases h1 : k = 1
  · have e1 : (k != 1) = false := by rw [h1]; rfl
    have HQ : Hid (false = q) := by show false = q; rw [HK.out, e1]; rfl
    clear h1 HK
    go_enter Try.func16, Try.ntmps16
    go_wp2
    go_ret
    exact ⟨ret_b HQ.out, HB.out⟩
  · have e1 : (k != 1) = true := by rw [bne_iff_ne]; exact h1
    have HQ : Hid ((k != 3) = q) := by show (k != 3) = q; rw [HK.out, e1]; rfl
    clear h1 HK
    go_enter Try.func16, Try.ntmps16
    go_wp2
    go_ret
    exact ⟨ret_b HQ.out, HB.out⟩
theorem kT {g ge N : Nat} {D : List Value} {q : Int} {W w' w4 : World} (HLD : Hid (∀ w', Below W.heap.size W w' → Sem.run Try.prog (loadCellsFrom ⟨g, 0, none⟩ 0 N #[]) w' = .ok D.toArray w' ∧ w'.cell? ⟨ge, 0, none⟩ = some (.int .i64 q))) (h : Hid (Below W.heap.size W w')) (hb : Below w'.heap.size w' w4) :
    (Sem.run Try.prog (loadCellsFrom ⟨g, 0, none⟩ 0 N #[]) w4 = .ok D.toArray w4 ∧ w4.cell? ⟨ge, 0, none⟩ = some (.int .i64 q)) ∧ Hid (Below W.heap.size W w4) :=
  ⟨HLD.out _ (h.out.trans (hb.mono h.out.size)), h.out.trans (hb.mono h.out.size)⟩
set_option maxHeartbeats 4000000 in
set_option maxRecDepth 100000 in
theorem clos1_any (r : Rec) (hr : r.item.data.size ≤ maxLen) (ge : Nat) (q : Int) (w : World) (hq : w.cell? ⟨ge, 0, none⟩ = some (.int .i64 q)) :
    Calls Try.prog 13 #[.agg (rcA r), .pointer (some ⟨ge, 0, none⟩)] w fun e w' => e = .returned (.bool (errIs q r)) ∧ Below w.heap.size w w' := by
  have HK := Lib.hid (Bk.new w 34 (rcA r))
  have HB0 : Hid (Below w.heap.size w (w.alloc (.cells (rcA r) 34))) := (Below.refl _ _).alloc (Nat.le_refl _) _
  have HQ : Hid ((w.alloc (.cells (rcA r) 34)).cell? ⟨ge, 0, none⟩ = some (.int .i64 q)) := (HB0.out.cell (p := ⟨ge, 0, none⟩) (World.block_lt_of_cell? _ _ hq)).trans hq
  have HC := Lib.hid (fun w => check_any r hr w)
  have HE : Hid ((ck r == q) = errIs q r) := rfl
  generalize errIs q r = eb at HE ⊢
  generalize ck r = c at HC HE
  clear hq
  go_enter Try.func13, Try.ntmps13
  go_wp2
  generalize w.alloc (.cells (rcA r) 34) = W at HK HB0 HQ ⊢
  generalize hg : w.heap.size = g at HK HB0 ⊢
  obtain ⟨N, hN⟩ : ∃ N : Nat, N = 19 := ⟨19, rfl⟩
  have HN := Lib.hid hN
  clear hN
  have HLD : Hid (∀ w', Below W.heap.size W w' → Sem.run Try.prog (loadCellsFrom ⟨g, 0, none⟩ 0 N #[]) w' = .ok (rcL r).toArray w' ∧ w'.cell? ⟨ge, 0, none⟩ = some (.int .i64 q)) := fun w' hb =>
    ⟨by rw [HN.out]; exact loadCells_bk (HK.out.below hb HK.out.lt) (Jo.rcA_size r), (hb.cell (p := ⟨ge, 0, none⟩) (World.block_lt_of_cell? _ _ HQ.out)).trans HQ.out⟩
  have HS0 : Hid (Below W.heap.size W W.drew) := (Below.refl _ _).drew
  have hag : ∀ w, Sem.run Try.prog (isAgg 34) w = .ok true w := fun w => Try.isAgg34 w
  have hso : ∀ w, Sem.run Try.prog (sizeOf 34) w = .ok N w := fun w => by rw [HN.out]; exact Try.sizeOf34 w
  go_region_held3 (fun w' => (Sem.run Try.prog (loadCellsFrom ⟨g, 0, none⟩ 0 N #[]) w' = .ok (rcL r).toArray w' ∧ w'.cell? ⟨ge, 0, none⟩ = some (.int .i64 q)) ∧ Hid (Below W.heap.size W w')) (((try go_split_ands); first | exact ⟨HLD.out _ HS0.out, HS0⟩ | exact kT HLD (by assumption) hb4))
    ((go_at_call 14; refine (HC.out _).mono ?_; rintro e w4 ⟨rfl, hb4⟩))
  all_goals
    rename_i hHeld
    have HX := hHeld.2
    clear hHeld hag hso
    rw [HE.out]
    go_wp2
    go_ret
    exact ⟨rfl, by have h := HB0.out; (try rw [← hg] at h); (try rw [← hg]); exact h.trans (HX.out.mono h.size)⟩

set_option maxHeartbeats 2000000 in
set_option maxRecDepth 100000 in
theorem index2_any (A : Option Addr) (cA : Nat) (l : List Rec) (w : World) (hA : RecsAt w A l) (hl : l.length ≤ maxLen) (hd : ∀ r ∈ l, r.item.data.size ≤ maxLen) :
    Calls Try.prog 29 #[.slice A l.length cA, .func (.func 16) #[] #[]] w (IdxPost w (l.any kindNo)) := by
  unfold maxLen at hl
  have HA := Lib.hid hA
  have HD := Lib.hid hd
  skip
  clear hA hd
  go_enter Try.func29, Try.ntmps29
  go_wp2
  go_loopw [5, 8] (fun _ i wr => ∃ k : Nat, k ≤ l.length ∧ i = .int .i64 k ∧ Below w.heap.size w wr ∧ (l.take k).any kindNo = false) (fun _ i _ => l.length - (intOf i).toNat)
  case atStart => exact ⟨0, Nat.zero_le _, rfl, Below.refl _ _, rfl⟩
  case round =>
    obtain ⟨k, hk, rfl, hbw, hno⟩ := hrel
    have HB := Lib.hid hbw
    have HNO := Lib.hid hno
    clear hbw hno
    by_cases hlt : k < l.length
    · obtain ⟨b, off, rfl, hr⟩ := HA.out.one (by omega)
      obtain ⟨r, hrk⟩ : ∃ r, l[k]? = some r := ⟨_, List.getElem?_eq_getElem hlt⟩
      have HRK := Lib.hid hrk
      have hlc := loadCells_range (P := Try.prog) (range_below (hr k r hrk) HB.out) (n := 19) rfl
      have HST := Lib.hid (any_step (p := kindNo) hrk HNO.out)
      have HDR := Lib.hid (HD.out r (List.mem_of_getElem? hrk))
      clear hr hrk
      have HCL := Lib.hid (clos2_any r wr)
      generalize hpb : kindNo r = pb at HCL HST
      clear hpb
      go_wp2_with fail
      simp only [Try.sizeOf34, Result.andThen]
      rw [Oper.upon_value]
      go_wp2_with fail
      simp only [Try.isAgg34, Try.sizeOf34, Result.andThen, ↓reduceIte, hlc]
      rw [Oper.upon_value]
      clear hlc
      go_wp2_with fail
      refine HCL.out.mono ?_
      rintro e w2 ⟨rfl, hb2⟩
      have HB2 := Lib.hid (HB.out.trans (hb2.mono HB.out.size))
      clear hb2 HCL
      cases pb with
      | false =>
        have HN := Lib.hid (HST.out.1 rfl)
        go_wp2
        go_roundw
        case rel => exact ⟨k + 1, by omega, by go_num, HB2.out, HN.out⟩
        case measure => simp [intOf]; omega
      | true =>
        have HN := Lib.hid (HST.out.2 rfl)
        go_wp2
        go_ret
        exact ⟨k, rfl, by rw [HN.out]; simp, HB2.out⟩
    · have HN : Hid (l.any kindNo = false) := by
        show l.any _ = false
        have h := HNO.out
        rwa [List.take_of_length_le (by omega)] at h
      go_wp2
      go_ret
      exact ⟨-1, rfl, by rw [HN.out]; decide, HB.out⟩
set_option maxHeartbeats 2000000 in
theorem contains2_any (A : Option Addr) (cA : Nat) (l : List Rec) (w : World) (hA : RecsAt w A l) (hl : l.length ≤ maxLen) (hd : ∀ r ∈ l, r.item.data.size ≤ maxLen) :
    Calls Try.prog 12 #[.slice A l.length cA, .func (.func 16) #[] #[]] w fun e w' => e = .returned (.bool (l.any kindNo)) ∧ Below w.heap.size w w' := by
  have HC := Lib.hid (index2_any A cA l w hA hl hd)
  generalize l.any kindNo = q at HC ⊢
  clear hA hd
  go_enter Try.func12, Try.ntmps12
  go_wp2_with fail
  refine HC.out.mono ?_
  rintro e w2 ⟨z, rfl, hz, hb⟩
  have HZ := Lib.hid hz
  have HB := Lib.hid hb
  clear hz hb HC
  go_wp2
  go_ret
  exact ⟨ret_b HZ.out, HB.out⟩

set_option maxHeartbeats 2000000 in
set_option maxRecDepth 100000 in
theorem index1_any (A : Option Addr) (cA : Nat) (l : List Rec) (ge : Nat) (q : Int) (w : World) (hA : RecsAt w A l) (hl : l.length ≤ maxLen) (hd : ∀ r ∈ l, r.item.data.size ≤ maxLen) (hq : w.cell? ⟨ge, 0, none⟩ = some (.int .i64 q)) :
    Calls Try.prog 29 #[.slice A l.length cA, .func (.func 13) #[] #[.pointer (some ⟨ge, 0, none⟩)]] w (IdxPost w (l.any (errIs q))) := by
  unfold maxLen at hl
  have HA := Lib.hid hA
  have HD := Lib.hid hd
  have HQ := Lib.hid hq
  clear hq
  clear hA hd
  go_enter Try.func29, Try.ntmps29
  go_wp2
  go_loopw [5, 8] (fun _ i wr => ∃ k : Nat, k ≤ l.length ∧ i = .int .i64 k ∧ Below w.heap.size w wr ∧ (l.take k).any (errIs q) = false) (fun _ i _ => l.length - (intOf i).toNat)
  case atStart => exact ⟨0, Nat.zero_le _, rfl, Below.refl _ _, rfl⟩
  case round =>
    obtain ⟨k, hk, rfl, hbw, hno⟩ := hrel
    have HB := Lib.hid hbw
    have HNO := Lib.hid hno
    clear hbw hno
    by_cases hlt : k < l.length
    · obtain ⟨b, off, rfl, hr⟩ := HA.out.one (by omega)
      obtain ⟨r, hrk⟩ : ∃ r, l[k]? = some r := ⟨_, List.getElem?_eq_getElem hlt⟩
      have HRK := Lib.hid hrk
      have hlc := loadCells_range (P := Try.prog) (range_below (hr k r hrk) HB.out) (n := 19) rfl
      have HST := Lib.hid (any_step (p := (errIs q)) hrk HNO.out)
      have HDR := Lib.hid (HD.out r (List.mem_of_getElem? hrk))
      clear hr hrk
      have HCL := Lib.hid (clos1_any r HDR.out ge q wr ((HB.out.cell (p := ⟨ge, 0, none⟩) (World.block_lt_of_cell? _ _ HQ.out)).trans HQ.out))
      generalize hpb : (errIs q) r = pb at HCL HST
      clear hpb
      go_wp2_with fail
      simp only [Try.sizeOf34, Result.andThen]
      rw [Oper.upon_value]
      go_wp2_with fail
      simp only [Try.isAgg34, Try.sizeOf34, Result.andThen, ↓reduceIte, hlc]
      rw [Oper.upon_value]
      clear hlc
      go_wp2_with fail
      refine HCL.out.mono ?_
      rintro e w2 ⟨rfl, hb2⟩
      have HB2 := Lib.hid (HB.out.trans (hb2.mono HB.out.size))
      clear hb2 HCL
      cases pb with
      | false =>
        have HN := Lib.hid (HST.out.1 rfl)
        go_wp2
        go_roundw
        case rel => exact ⟨k + 1, by omega, by go_num, HB2.out, HN.out⟩
        case measure => simp [intOf]; omega
      | true =>
        have HN := Lib.hid (HST.out.2 rfl)
        go_wp2
        go_ret
        exact ⟨k, rfl, by rw [HN.out]; simp, HB2.out⟩
    · have HN : Hid (l.any (errIs q) = false) := by
        show l.any _ = false
        have h := HNO.out
        rwa [List.take_of_length_le (by omega)] at h
      go_wp2
      go_ret
      exact ⟨-1, rfl, by rw [HN.out]; decide, HB.out⟩
set_option maxHeartbeats 2000000 in
theorem contains1_any (A : Option Addr) (cA : Nat) (l : List Rec) (ge : Nat) (q : Int) (w : World) (hA : RecsAt w A l) (hl : l.length ≤ maxLen) (hd : ∀ r ∈ l, r.item.data.size ≤ maxLen) (hq : w.cell? ⟨ge, 0, none⟩ = some (.int .i64 q)) :
    Calls Try.prog 12 #[.slice A l.length cA, .func (.func 13) #[] #[.pointer (some ⟨ge, 0, none⟩)]] w fun e w' => e = .returned (.bool (l.any (errIs q))) ∧ Below w.heap.size w w' := by
  have HC := Lib.hid (index1_any A cA l ge q w hA hl hd hq)
  generalize l.any (errIs q) = q at HC ⊢
  clear hA hd
  go_enter Try.func12, Try.ntmps12
  go_wp2_with fail
  refine HC.out.mono ?_
  rintro e w2 ⟨z, rfl, hz, hb⟩
  have HZ := Lib.hid hz
  have HB := Lib.hid hb
  clear hz hb HC
  go_wp2
  go_ret
  exact ⟨ret_b HZ.out, HB.out⟩
end Go.Proofs.Ytlknjdfiedkhbaa
