/- The reference's parse, walked. Condition: at most 65536 bytes. -/
import Derived.Test.YtlknjdfiedkhbaaJoRefI
import Derived.Test.YtlknjdfiedkhbaaJoRecP
namespace Go.Proofs.Ytlknjdfiedkhbaa
open Go Go.RowKit
open Jo (RId Itm Rec idA idL rcA rcL itA itL zIt zId wi ck)
attribute [-simp] Try.isAgg34 Try.sizeOf34 Try.typeInfo34

attribute [-simp] Try.isAgg32 Try.sizeOf32 Try.typeInfo32
/-- what parse leaves -/
def ParsePost (w : World) (l : List UInt8) (e : Ending) (w' : World) : Prop :=
  ∃ (x : Rec) (ok : Bool), e = .returned (.tuple #[.agg (rcA x), .bool ok]) ∧ Below w.heap.size w w' ∧ x.item.data.size ≤ maxLen ∧ parseL l = (if ok = true then some x else none)
theorem parsePost_no {w w' : World} {l : List UInt8} (h : parseL l = none) (hb : Below w.heap.size w w') : ParsePost w l (.returned (.tuple #[.agg (rcA zRec), .bool false])) w' :=
  ⟨zRec, false, rfl, hb, Nat.zero_le _, h⟩
theorem parsePost_yes {w w' : World} {l : List UInt8} {x : Rec} {ok : Bool} (h : parseL l = (if ok = true then some x else none)) (hd : x.item.data.size ≤ maxLen) (hb : Below w.heap.size w w') : ParsePost w l (.returned (.tuple #[.agg (rcA x), .bool ok])) w' :=
  ⟨x, ok, rfl, hb, hd, h⟩
theorem parse_no2 {l l1 : List UInt8} {ns : List Int} (h : rdN 2 l = (ns, l1, true)) : parseL l = none := by
  unfold parseL
  rw [parse_bad (l := l) (show rdS 2 (l, false) = _ from h)]
  rfl

theorem filt_no {l : List UInt8} (h : parse0 l = none) : parseL l = none := by unfold parseL; rw [h]; rfl
theorem filt_yes {l : List UInt8} {x : Rec} (h : parse0 l = some x) : parseL l = (if (ck x == 0) = true then some x else none) := by
  unfold parseL
  rw [h]
  by_cases c : ck x = 0 <;> simp [Option.filter, c]
theorem parse0_B {l l1 : List UInt8} {n1 : List Int} {k : Int} (h1 : rdN 2 l = (n1, l1, false)) (hk : at_ n1 0 = k) (h13 : ¬ (k = 1 ∨ k = 3)) : parse0 l = parseB k (at_ n1 1) l1 := by
  unfold parse0
  simp only [h1, hk, if_neg h13, Bool.false_eq_true, if_false]
theorem parse_t4 {l l1 : List UInt8} {n1 : List Int} (h1 : rdN 2 l = (n1, l1, false)) (hk : at_ n1 0 = 4) (h : ¬ ((rdN 6 l1).2.2 = false ∧ (rdN 6 l1).2.1 = [])) : parseL l = none :=
  filt_no (by rw [parse0_B h1 hk (by decide)]; unfold parseB; exact if_neg h)
theorem parse_r2 {l l1 : List UInt8} {n1 : List Int} (h1 : rdN 2 l = (n1, l1, false)) (hk : at_ n1 0 = 2) (h : ¬ ((rdN 5 l1).2.2 = false ∧ (rdN 5 l1).2.1 = [])) : parseL l = none :=
  filt_no (by rw [parse0_B h1 hk (by decide)]; unfold parseB; exact if_neg h)
theorem ck_bad {r : Rec} (h : ¬ (r.kind = 1 ∨ r.kind = 2 ∨ r.kind = 3 ∨ r.kind = 4)) : ck r ≠ 0 := fun c => h (ck_ranges c)
theorem parseB_kind {k t : Int} {l : List UInt8} {r : Rec} (h : parseB k t l = some r) : r.kind = k := (parseB_canon h).2.1
theorem parse_inv {l l1 : List UInt8} {n1 : List Int} {k : Int} (h1 : rdN 2 l = (n1, l1, false)) (hk : at_ n1 0 = k) (h : ¬ (k = 1 ∨ k = 2 ∨ k = 3 ∨ k = 4)) : parseL l = none := by
  have e := parse0_B h1 hk (fun c => h (by rcases c with c | c; exact .inl c; exact .inr (.inr (.inl c))))
  cases c : parse0 l with
  | none => exact filt_no c
  | some r =>
    rw [e] at c
    have hr := parseB_kind c
    have e2 : parse0 l = some r := by rw [e]; exact c
    have := ck_bad (r := r) (by rw [hr]; exact h)
    rw [filt_yes e2, if_neg (by simpa using this)]
theorem parse0_A {l l1 : List UInt8} {n1 : List Int} {k : Int} (h1 : rdN 2 l = (n1, l1, false)) (hk : at_ n1 0 = k) (h13 : k = 1 ∨ k = 3) : parse0 l = parseA k (at_ n1 1) l1 := by
  unfold parse0
  simp only [h1, hk, if_pos h13, Bool.false_eq_true, if_false]
theorem parse_A {l l1 l4 x : List UInt8} {n1 n4 : List Int} {k er : Int} {b4 : Bool} {z : Nat} (h1 : rdN 2 l = (n1, l1, false)) (hk : at_ n1 0 = k) (h2 : k ≠ 2) (h4 : k ≠ 4) (h : rdN 10 l1 = (n4, l4, b4)) (ht : Vi.rtext l4 = (x, z, er)) :
    parseL l = if b4 = false ∧ wi (at_ n4 9) 0 1 = true ∧ er = 0 ∧ l4.drop z = [] then
      (if (ck ⟨k, ⟨at_ n4 0, idOf n4 1, at_ n4 6, at_ n4 7, at_ n4 8, decide (at_ n4 9 = 1), str x⟩, zId, 0, at_ n1 1⟩ == 0) = true then some ⟨k, ⟨at_ n4 0, idOf n4 1, at_ n4 6, at_ n4 7, at_ n4 8, decide (at_ n4 9 = 1), str x⟩, zId, 0, at_ n1 1⟩ else none) else none := by
  by_cases h13 : k = 1 ∨ k = 3
  · have e := parse0_A h1 hk h13
    unfold parseA at e
    simp only [h, ht] at e
    cases b4 with
    | true =>
      rw [if_neg (by simp)]
      exact filt_no (by rw [e]; rfl)
    | false =>
      simp only [Bool.false_eq_true, if_false] at e
      by_cases c : wi (at_ n4 9) 0 1 = true ∧ er = 0 ∧ l4.drop z = []
      · rw [if_pos c] at e
        rw [if_pos ⟨rfl, c⟩]
        exact filt_yes e
      · rw [if_neg c] at e
        rw [if_neg (fun d => c d.2)]
        exact filt_no e
  · have hi : ¬ (k = 1 ∨ k = 2 ∨ k = 3 ∨ k = 4) := by omega
    rw [parse_inv h1 hk hi]
    split
    · rw [if_neg]
      intro c
      exact ck_bad (r := ⟨k, ⟨at_ n4 0, idOf n4 1, at_ n4 6, at_ n4 7, at_ n4 8, decide (at_ n4 9 = 1), str x⟩, zId, 0, at_ n1 1⟩) hi (by simpa using c)
    · rfl
theorem infoItm2 : (Try.prog.info? 32).map (fun i => (i.zero, i.size)) = some (some (.agg (itA zIt)), 11) := by kernel_rfl
theorem elem_ints : Try.prog.elem 50 = 3 := by kernel_rfl
theorem slice_ints : Try.prog.underlying 50 = some (.slice (Try.prog.elem 50)) := by kernel_rfl
theorem ints_tail (b off c : Nat) (l : List Int) (hk : 1 < l.length) (hc : l.length ≤ c) :
    ∃ a1 c1, (∀ w, (Instr.slice 50 (.slice (some ⟨b, off, none⟩) l.length c) (some (.int .i64 1)) none none).run Try.prog w = .ok (.slice (some a1) (l.drop 1).length c1) w) ∧ ∀ w, IntsAt w (some ⟨b, off, none⟩) l → IntsAt w (some a1) (l.drop 1) := by
  have e : ∀ w, (Instr.slice 50 (.slice (some ⟨b, off, none⟩) l.length c) (some (.int .i64 1)) none none).run Try.prog w = .ok (sliced (some ⟨b, off, none⟩) 1 l.length c 1) w := fun w => by
    rw [run_slice_l w _ _ _ _ slice_ints .i64 1 (by omega) (by omega), elem_ints, Try.sizeOf3]
    rfl
  refine ⟨⟨b, off + 1, none⟩, c - 1, fun w => ?_, fun w h => ?_⟩
  · rw [e, List.length_drop]
    unfold sliced
    rw [if_neg (by omega)]
    rfl
  · intro j x hj
    rw [List.getElem?_drop] at hj
    obtain ⟨b', off', hA, hr⟩ := h (1 + j) x hj
    cases hA
    exact ⟨b, off + 1, rfl, by rw [show off + 1 + j = off + (1 + j) by omega]; exact hr⟩
theorem idOf_drop (l : List Int) : idOf (l.drop 1) 0 = idOf l 1 := by
  simp [idOf, at_, Nat.add_comm]
theorem grown_setRow (w : World) (b : Nat) (cs : Array Value) : w.grownBy (w.setRow b cs) (some b) := ⟨rfl, rfl, rfl, by simp [World.setRow], fun i _ hne => setRow_other w b i cs (fun e => hne (by rw [e]))⟩
theorem pS {g b N : Nat} {D : List Value} {W w' : World} (HLD : Hid (∀ w', W.grownBy w' (some b) → Sem.run Try.prog (loadCellsFrom ⟨g, 0, none⟩ 0 N #[]) w' = .ok D.toArray w')) (h : W.grownBy w' (some b)) : Sem.run Try.prog (loadCellsFrom ⟨g, 0, none⟩ 0 N #[]) w' = .ok D.toArray w' ∧ Hid (W.grownBy w' (some b)) := ⟨HLD.out _ h, h⟩
theorem pT {g b N : Nat} {D : List Value} {W w' w4 : World} (HLD : Hid (∀ w', W.grownBy w' (some b) → Sem.run Try.prog (loadCellsFrom ⟨g, 0, none⟩ 0 N #[]) w' = .ok D.toArray w')) (h : Hid (W.grownBy w' (some b))) (hb : Below w'.heap.size w' w4) : Sem.run Try.prog (loadCellsFrom ⟨g, 0, none⟩ 0 N #[]) w4 = .ok D.toArray w4 ∧ Hid (W.grownBy w4 (some b)) := pS HLD (h.out.trans (grown_below hb _))
theorem pU {g b N : Nat} {D : List Value} {W w4 : World} {cs : Array Value} (HLD : Hid (∀ w', W.grownBy w' (some b) → Sem.run Try.prog (loadCellsFrom ⟨g, 0, none⟩ 0 N #[]) w' = .ok D.toArray w')) (h : Hid (Below W.heap.size W w4)) : Sem.run Try.prog (loadCellsFrom ⟨g, 0, none⟩ 0 N #[]) (w4.setRow b cs) = .ok D.toArray (w4.setRow b cs) ∧ Hid (W.grownBy (w4.setRow b cs) (some b)) := pS HLD ((grown_below h.out _).trans (grown_setRow _ _ _))

set_option maxHeartbeats 4000000 in
set_option maxRecDepth 100000 in
theorem parse_any (s : ByteArray) (hs : s.size ≤ 65536) (w : World) :
    Calls Try.prog 50 #[.string s] w (ParsePost w s.data.toList) := by
  obtain ⟨n1, l1, b1, h1⟩ : ∃ ns r b, rdN 2 s.data.toList = (ns, r, b) := ⟨_, _, _, rfl⟩
  have hc := ints_any s 2 (by decide) (Nat.le_trans hs (by decide)) (w.alloc (.cells (rcA zRec) 34))
  unfold IntsPost at hc
  rw [h1] at hc
  have HC := Lib.hid hc
  have H1 := Lib.hid h1
  have hz := (zero_of_info infoRec).1
  have HZ := Lib.hid hz
  have HK := Lib.hid (Bk.new w 34 (rcA zRec))
  have HB0 : Hid (Below w.heap.size w (w.alloc (.cells (rcA zRec) 34))) := (Below.refl _ _).alloc (Nat.le_refl _) _
  clear hc h1
  have hso32 : ∀ w, Sem.run Try.prog (sizeOf 32) w = .ok 11 w := fun w => Try.sizeOf32 w
  go_enter Try.func50, Try.ntmps50
  go_wp2_with fail
  generalize w.alloc (.cells (rcA zRec) 34) = W at HC HK HB0 ⊢
  generalize hb0 : w.heap.size = b0 at HK ⊢
  refine HC.out.mono ?_
  rintro e w1 ⟨A1, c1, rfl, hi1, ⟨hc1, _⟩, hb1⟩
  have HK1 := Lib.hid (HK.out.below hb1 HK.out.lt)
  have HB1 := Lib.hid (HB0.out.trans (hb1.mono HB0.out.size))
  have HI1 := Lib.hid hi1
  have HL1 : Hid (l1.length ≤ 65536) := by
    have h := rdN_size 2 s.data.toList
    rw [H1.out] at h
    have h2 : s.data.toList.length = s.size := by simp
    show l1.length ≤ 65536
    simp only at h
    omega
  have HBB := Lib.hid hb0
  clear hb1 hi1 HC HK HB0 hb0
  cases b1 with
  | true =>
    have HN := Lib.hid (parse_no2 H1.out)
    have hsc := storeCells_bk (P := Try.prog) HK1.out (cs := rcA zRec) (by rw [Jo.rcA_size]; exact sizeRec) rfl (Jo.rcA_one _)
    have N1 := Lib.hid (HK1.out.row (rcA zRec))
    go_wp2_with fail
    simp only [Try.sizeOf34, Result.andThen, ↓reduceIte, hsc, Jo.rcA_size]
    rw [Oper.upon_skip]
    clear hsc
    go_wp2
    (try simp only [Exit.inBlock, Exit.then])
    refine bodyPost_ret (v := .tuple #[.agg (rcA zRec), .bool false]) ?_ rfl (parsePost_no HN.out (below_setRow2 HB1.out (by rw [← HBB.out]; exact Nat.le_refl _) _))
    rw [results_cell_tmp rfl]
    have hld := run_loadVar_row (P := Try.prog) _ _ 34 34 (rcA zRec) (0, 0) _ N1.out Try.underlying34 rfl (by rw [Jo.rcA_size]; exact sizeRec)
    simp [asAddr, Result.andThen, hld]
  | false =>
    have HN2 : Hid (n1.length = 2) := by
      have h := (rdN_len 2 s.data.toList).2
      rw [H1.out] at h
      exact h rfl
    obtain ⟨b, off, rfl, hbl, hcell⟩ := HI1.out.opened (by rw [HN2.out]; decide)
    have c0 := hcell 0 (by rw [HN2.out]; decide)
    have c1' := hcell 1 (by rw [HN2.out]; decide)
    have hl0 : 0 < n1.length := by rw [HN2.out]; decide
    have hl1 : (1 : Int) < (n1.length : Int) := by rw [HN2.out]; decide
    have HKE : Hid (elt n1 0 = at_ n1 0 ∧ elt n1 1 = at_ n1 1) := ⟨rfl, rfl⟩
    generalize elt n1 0 = k at c0 HKE
    generalize elt n1 1 = t at c1' HKE
    have HD : Hid (∀ w', Below w1.heap.size w1 w' → w'.cell? ⟨b, off, none⟩ = some (.int .i64 k) ∧ w'.cell? ⟨b, off + 1, none⟩ = some (.int .i64 t)) := fun w' h =>
      ⟨(h.cell (p := ⟨b, off, none⟩) hbl).trans c0, (h.cell (p := ⟨b, off + 1, none⟩) hbl).trans c1'⟩
    have hag : ∀ w, Sem.run Try.prog (isAgg 34) w = .ok true w := fun w => Try.isAgg34 w
    have hso : ∀ w, Sem.run Try.prog (sizeOf 34) w = .ok 19 w := fun w => Try.sizeOf34 w
    have hst : Sem.run Try.prog (storeCells ⟨w1.heap.size, 0, none⟩ (((rcA zRec).toList.set 0 (.int .i64 k)).set 18 (.int .i64 t))) (w1.alloc (.cells (rcA zRec) 34)).drew = .ok () ((w1.alloc (.cells (rcA zRec) 34)).drew.setRow w1.heap.size (rcA ⟨k, zIt, zId, 0, t⟩)) :=
      storeCells_bk (P := Try.prog) (Bk.new w1 34 (rcA zRec)).drew (cs := rcA ⟨k, zIt, zId, 0, t⟩) (by rw [Jo.rcA_size]; exact sizeRec) rfl (Jo.rcA_one _)
    have HBW : Hid (Below w1.heap.size w1 ((w1.alloc (.cells (rcA zRec) 34)).drew.setRow w1.heap.size (rcA ⟨k, zIt, zId, 0, t⟩))) := below_setRow2 ((Below.refl _ _).alloc (Nat.le_refl _) _).drew (Nat.le_refl _) _
    have HK6 : Hid (Bk ((w1.alloc (.cells (rcA zRec) 34)).drew.setRow w1.heap.size (rcA ⟨k, zIt, zId, 0, t⟩)) w1.heap.size 34 (rcA ⟨k, zIt, zId, 0, t⟩)) := Bk.row (Bk.new w1 34 (rcA zRec)).drew _
    clear hcell c0 c1'
    have hne0 : ¬ rcA zRec = #[] := fun h => by have := congrArg Array.size h; rw [Jo.rcA_size] at this; simp at this
    have hsz19 : (rcA zRec).size = 19 := Jo.rcA_size _
    go_wp2_with fail
    go_region_held3 (fun w' => (w'.cell? ⟨b, off, none⟩ = some (.int .i64 k) ∧ w'.cell? ⟨b, off + 1, none⟩ = some (.int .i64 t)) ∧ Hid (Below w1.heap.size w1 w')) (first | exact ⟨HD.out _ (Below.refl _ _).drew, (Below.refl _ _).drew⟩ | exact ⟨HD.out _ ((Below.refl _ _).alloc (Nat.le_refl _) _).drew, ((Below.refl _ _).alloc (Nat.le_refl _) _).drew⟩ | exact ⟨HD.out _ HBW.out, HBW⟩) (fail)
    all_goals
      have HB6 := Lib.hid (HB1.out.trans (HBW.out.mono HB1.out.size))
      have HK0 := Lib.hid (HK1.out.below HBW.out HK1.out.lt)
      generalize (w1.alloc (.cells (rcA zRec) 34)).drew.setRow w1.heap.size (rcA ⟨k, zIt, zId, 0, t⟩) = W6 at HK6 HB6 HK0 ⊢
      have HLT : Hid (b0 < w1.heap.size) := HK1.out.lt
      generalize w1.heap.size = b6 at HK6 HLT ⊢
      clear HBW hst hag hso HD HK1 HB1 hl0 hl1 hc1
      by_cases hk : k = 2
      · have HKK := Lib.hid hk
        subst hk
        have hc2 := fun w => ints_any (str l1) 5 (by decide) (by rw [str_size]; exact Nat.le_trans HL1.out (by decide)) w
        unfold IntsPost at hc2
        obtain ⟨n3, l3, b3, h3⟩ : ∃ ns r b, rdN 5 l1 = (ns, r, b) := ⟨_, _, _, rfl⟩
        rw [str_list, h3] at hc2
        have HC2 := Lib.hid hc2
        have H3 := Lib.hid h3
        have c0 : W6.cell? ⟨b6, 0, none⟩ = some (.int .i64 2) := HK6.out.cell 0
        have HL6 : Hid (b6 < W6.heap.size) := HK6.out.lt
        clear hc2 h3
        go_wp2_with fail
        refine (bit_any false _).mono ?_
        rintro e w7 ⟨rfl, rfl⟩
        go_wp2_with fail
        refine (HC2.out _).mono ?_
        rintro e w7 ⟨A3, c3, rfl, hi3, hc3, hb7⟩
        have HK7 := Lib.hid (HK6.out.below hb7 HK6.out.lt)
        have HKX := Lib.hid (HK0.out.below hb7 HK0.out.lt)
        have HBX := Lib.hid (HB6.out.trans (hb7.mono HB6.out.size))
        have HI3 := Lib.hid hi3
        have HPL := Lib.hid hc3.2
        clear hb7 hi3 HC2 HK6 HK0 HB6 c0
        cases b3 with
        | true =>
          have HN : Hid (parseL s.data.toList = none) := parse_r2 H1.out HKE.out.1.symm (by rw [H3.out]; exact fun h => by simp at h)
          have hsc := storeCells_bk (P := Try.prog) HKX.out (cs := rcA zRec) (by rw [Jo.rcA_size]; exact sizeRec) rfl (Jo.rcA_one _)
          have N1 := Lib.hid (HKX.out.row (rcA zRec))
          have hz := HZ.out
          go_wp2_with fail
          simp only [Try.sizeOf34, Result.andThen, ↓reduceIte, hsc]
          rw [Oper.upon_skip]
          clear hsc
          go_wp2
          (try simp only [Exit.inBlock, Exit.then])
          refine bodyPost_ret (v := .tuple #[.agg (rcA zRec), .bool false]) ?_ rfl (parsePost_no HN.out (below_setRow2 HBX.out (by rw [← HBB.out]; exact Nat.le_refl _) _))
          rw [results_cell_tmp rfl]
          have hld := run_loadVar_row (P := Try.prog) _ _ 34 34 (rcA zRec) (0, 0) _ N1.out Try.underlying34 rfl (by rw [Jo.rcA_size]; exact sizeRec)
          simp [asAddr, Result.andThen, hld]
        | false =>
          by_cases hl3 : l3 = []
          · have HL3 := Lib.hid hl3
            subst hl3
            have HN3 : Hid (n3.length = 5) := by
              have h := (rdN_len 5 l1).2
              rw [H3.out] at h
              exact h rfl
            have hs0 : (str ([] : List UInt8)).toList = [] := by rw [Lib.toList_data, str_list]
            go_wp2_with fail
            refine (idOf_any A3 c3 n3 w7 HI3.out (by rw [HN3.out]; decide)).mono ?_
            rintro e w8 ⟨rfl, hb8⟩
            have HK9 := Lib.hid (HK7.out.below hb8 HK7.out.lt)
            have HK09 := Lib.hid (HKX.out.below hb8 HKX.out.lt)
            have HB9 := Lib.hid (HBX.out.trans (hb8.mono HBX.out.size))
            have HI9 := Lib.hid (HI3.out.below hb8)
            clear hb8 HK7 HKX HBX HI3
            generalize hx : idOf n3 0 = x
            have HX := Lib.hid hx
            clear hx
            have hst5 : Sem.run Try.prog (storeCells ⟨b6, 12, none⟩ (idA x).toList) w8 = .ok () (w8.setRow b6 (rcA ⟨2, zIt, x, 0, t⟩)) :=
              run_storeCells_at (P := Try.prog) b6 12 34 (idA x).toList 0 (rcA ⟨2, zIt, zId, 0, t⟩) w8 HK9.out (by rw [Jo.rcA_size]; exact Nat.le_of_ble_eq_true rfl) (fun v hv => List.all_eq_true.1 (by simpa using Jo.idA_one x) v hv)
            have HK8 : Hid (Bk (w8.setRow b6 (rcA ⟨2, zIt, x, 0, t⟩)) b6 34 (rcA ⟨2, zIt, x, 0, t⟩)) := HK9.out.row _
            have HN6 : Hid (b0 < b6) := HLT.out
            have HKX : Hid (Bk (w8.setRow b6 (rcA ⟨2, zIt, x, 0, t⟩)) b0 34 (rcA zRec)) := (setRow_other w8 b6 b0 _ (by have := HN6.out; omega)).trans HK09.out
            have HBX : Hid (Below w.heap.size w (w8.setRow b6 (rcA ⟨2, zIt, x, 0, t⟩))) := below_setRow2 HB9.out (by rw [HBB.out]; exact Nat.le_of_lt HN6.out) _
            have c0 : (w8.setRow b6 (rcA ⟨2, zIt, x, 0, t⟩)).cell? ⟨b6, 0, none⟩ = some (.int .i64 2) := HK8.out.cell 0
            obtain ⟨Y, hY⟩ : ∃ Y : Rec, Y = ⟨2, zIt, x, 0, t⟩ := ⟨_, rfl⟩
            have HDX : Hid (Y.item.data.size ≤ maxLen) := by rw [hY]; exact Nat.zero_le _
            have HPX : Hid (parseL s.data.toList = (if (ck Y == 0) = true then some Y else none)) := filt_yes (by
              rw [parse0_B H1.out HKE.out.1.symm (by decide)]
              unfold parseB
              simp only [show ¬ ((2 : Int) = 4) by decide, if_false, H3.out, HX.out, ← HKE.out.2, and_self, if_true, hY])
            go_wp2_with fail
            clear c0 hst5 HK9 HK09 HB9
            generalize w8.setRow b6 (rcA ⟨2, zIt, x, 0, t⟩) = W9 at HK8 HKX HBX ⊢
            rw [← hY] at HK8
            clear hY
            obtain ⟨N, hN⟩ : ∃ N : Nat, N = 19 := ⟨19, rfl⟩
            have HN19 := Lib.hid hN
            clear hN
            have HLD : Hid (∀ w', W9.grownBy w' (some b0) → Sem.run Try.prog (loadCellsFrom ⟨b6, 0, none⟩ 0 N #[]) w' = .ok (rcL Y).toArray w') := fun w' hb => by rw [HN19.out]; exact loadCells_bk (HK8.out.grown hb (fun e => by have := HLT.out; simp only [Option.some.injEq] at e; omega)) (Jo.rcA_size Y)
            have HSC : Hid (∀ w', Below W9.heap.size W9 w' → Sem.run Try.prog (storeCells ⟨b0, 0, none⟩ (rcL Y)) w' = .ok () (w'.setRow b0 (rcA Y)) ∧ Bk (w'.setRow b0 (rcA Y)) b0 34 (rcA Y)) := fun w' hb => ⟨storeCells_bk (P := Try.prog) (HKX.out.below hb HKX.out.lt) (cs := rcA Y) (by rw [Jo.rcA_size]; exact sizeRec) rfl (Jo.rcA_one _), (HKX.out.below hb HKX.out.lt).row _⟩
            have HCK := Lib.hid (fun w => checkR_any Y HDX.out w)
            have HCE : Hid (parseL s.data.toList = (if (ck Y == 0) = true then some Y else none)) := HPX.out
            generalize ck Y = q at HCK HCE
            generalize hqb : (q == 0) = qb at HCE
            have hlN : (rcL Y).length = N := by rw [HN19.out]; rfl
            have hag : ∀ w, Sem.run Try.prog (isAgg 34) w = .ok true w := fun w => Try.isAgg34 w
            have hso : ∀ w, Sem.run Try.prog (sizeOf 34) w = .ok N w := fun w => by rw [HN19.out]; exact Try.sizeOf34 w
            (try go_wp2_with fail)
            go_region_held3 (fun w' => Sem.run Try.prog (loadCellsFrom ⟨b6, 0, none⟩ 0 N #[]) w' = .ok (rcL Y).toArray w' ∧ Hid (W9.grownBy w' (some b0))) (((try go_split_ands); first | exact pS HLD (grown_below (Below.refl _ _).drew _) | exact pT HLD (by assumption) hb4 | exact pU HLD HB4))
              ((go_at_call 21
                refine (HCK.out _).mono ?_
                rintro e w4 ⟨rfl, hb4⟩
                have HB4 : Hid (Below W9.heap.size W9 w4) := ((Below.refl W9.heap.size W9).drew).trans (hb4.mono (Nat.le_refl _))
                have hsc4 := (HSC.out w4 HB4.out).1
                have HN4 := Lib.hid (HSC.out w4 HB4.out).2))
            all_goals
              clear hag hso hlN
              go_wp2
              (try simp only [Exit.inBlock, Exit.then])
              refine bodyPost_ret (v := .tuple #[.agg (rcA Y), .bool qb]) ?_ rfl (parsePost_yes HCE.out HDX.out (below_setRow2 (HBX.out.trans (HB4.out.mono HBX.out.size)) (by rw [← HBB.out]; exact Nat.le_refl _) _))
              rw [results_cell_tmp rfl]
              have hld := run_loadVar_row (P := Try.prog) _ _ 34 34 (rcA Y) (0, 0) _ HN4.out Try.underlying34 rfl (by rw [Jo.rcA_size]; exact sizeRec)
              simp [asAddr, Result.andThen, hld]
          · have HN : Hid (parseL s.data.toList = none) := parse_r2 H1.out HKE.out.1.symm (by rw [H3.out]; exact fun h => hl3 h.2)
            have hs0 : (str l3).toList ≠ [] := by rw [Lib.toList_data, str_list]; exact hl3
            have hs1 : (!(str l3).toList.isEmpty) = true := by rw [Lib.toList_data, str_list]; cases l3 <;> simp_all
            have hsc := storeCells_bk (P := Try.prog) HKX.out (cs := rcA zRec) (by rw [Jo.rcA_size]; exact sizeRec) rfl (Jo.rcA_one _)
            have N1 := Lib.hid (HKX.out.row (rcA zRec))
            have hz := HZ.out
            go_wp2_with fail
            simp only [Try.sizeOf34, Result.andThen, ↓reduceIte, hsc]
            rw [Oper.upon_skip]
            clear hsc
            go_wp2
            (try simp only [Exit.inBlock, Exit.then])
            refine bodyPost_ret (v := .tuple #[.agg (rcA zRec), .bool false]) ?_ rfl (parsePost_no HN.out (below_setRow2 HBX.out (by rw [← HBB.out]; exact Nat.le_refl _) _))
            rw [results_cell_tmp rfl]
            have hld := run_loadVar_row (P := Try.prog) _ _ 34 34 (rcA zRec) (0, 0) _ N1.out Try.underlying34 rfl (by rw [Jo.rcA_size]; exact sizeRec)
            simp [asAddr, Result.andThen, hld]
      · by_cases hk4 : k = 4
        · have hk := hk4
          have HKK := Lib.hid hk
          subst hk
          have hc2 := fun w => ints_any (str l1) 6 (by decide) (by rw [str_size]; exact Nat.le_trans HL1.out (by decide)) w
          unfold IntsPost at hc2
          obtain ⟨n3, l3, b3, h3⟩ : ∃ ns r b, rdN 6 l1 = (ns, r, b) := ⟨_, _, _, rfl⟩
          rw [str_list, h3] at hc2
          have HC2 := Lib.hid hc2
          have H3 := Lib.hid h3
          have c0 : W6.cell? ⟨b6, 0, none⟩ = some (.int .i64 4) := HK6.out.cell 0
          have HL6 : Hid (b6 < W6.heap.size) := HK6.out.lt
          clear hc2 h3
          go_wp2_with fail
          refine (bit_any true _).mono ?_
          rintro e w7 ⟨rfl, rfl⟩
          go_wp2_with fail
          refine (HC2.out _).mono ?_
          rintro e w7 ⟨A3, c3, rfl, hi3, hc3, hb7⟩
          have HK7 := Lib.hid (HK6.out.below hb7 HK6.out.lt)
          have HKX := Lib.hid (HK0.out.below hb7 HK0.out.lt)
          have HBX := Lib.hid (HB6.out.trans (hb7.mono HB6.out.size))
          have HI3 := Lib.hid hi3
          have HPL := Lib.hid hc3.2
          clear hb7 hi3 HC2 HK6 HK0 HB6 c0
          cases b3 with
          | true =>
            have HN : Hid (parseL s.data.toList = none) := parse_t4 H1.out HKE.out.1.symm (by rw [H3.out]; exact fun h => by simp at h)
            have hsc := storeCells_bk (P := Try.prog) HKX.out (cs := rcA zRec) (by rw [Jo.rcA_size]; exact sizeRec) rfl (Jo.rcA_one _)
            have N1 := Lib.hid (HKX.out.row (rcA zRec))
            have hz := HZ.out
            go_wp2_with fail
            simp only [Try.sizeOf34, Result.andThen, ↓reduceIte, hsc]
            rw [Oper.upon_skip]
            clear hsc
            go_wp2
            (try simp only [Exit.inBlock, Exit.then])
            refine bodyPost_ret (v := .tuple #[.agg (rcA zRec), .bool false]) ?_ rfl (parsePost_no HN.out (below_setRow2 HBX.out (by rw [← HBB.out]; exact Nat.le_refl _) _))
            rw [results_cell_tmp rfl]
            have hld := run_loadVar_row (P := Try.prog) _ _ 34 34 (rcA zRec) (0, 0) _ N1.out Try.underlying34 rfl (by rw [Jo.rcA_size]; exact sizeRec)
            simp [asAddr, Result.andThen, hld]
          | false =>
            by_cases hl3 : l3 = []
            · have HL3 := Lib.hid hl3
              subst hl3
              have HN3 : Hid (n3.length = 6) := by
                have h := (rdN_len 6 l1).2
                rw [H3.out] at h
                exact h rfl
              have hs0 : (str ([] : List UInt8)).toList = [] := by rw [Lib.toList_data, str_list]
              go_wp2_with fail
              refine (idOf_any A3 c3 n3 w7 HI3.out (by rw [HN3.out]; decide)).mono ?_
              rintro e w8 ⟨rfl, hb8⟩
              have HK9 := Lib.hid (HK7.out.below hb8 HK7.out.lt)
              have HK09 := Lib.hid (HKX.out.below hb8 HKX.out.lt)
              have HB9 := Lib.hid (HBX.out.trans (hb8.mono HBX.out.size))
              have HI9 := Lib.hid (HI3.out.below hb8)
              clear hb8 HK7 HKX HBX HI3
              generalize hx : idOf n3 0 = x
              have HX := Lib.hid hx
              clear hx
              have hst5 : Sem.run Try.prog (storeCells ⟨b6, 12, none⟩ (idA x).toList) w8 = .ok () (w8.setRow b6 (rcA ⟨4, zIt, x, 0, t⟩)) :=
                run_storeCells_at (P := Try.prog) b6 12 34 (idA x).toList 0 (rcA ⟨4, zIt, zId, 0, t⟩) w8 HK9.out (by rw [Jo.rcA_size]; exact Nat.le_of_ble_eq_true rfl) (fun v hv => List.all_eq_true.1 (by simpa using Jo.idA_one x) v hv)
              have HK8 : Hid (Bk (w8.setRow b6 (rcA ⟨4, zIt, x, 0, t⟩)) b6 34 (rcA ⟨4, zIt, x, 0, t⟩)) := HK9.out.row _
              have HN6 : Hid (b0 < b6) := HLT.out
              have HKX : Hid (Bk (w8.setRow b6 (rcA ⟨4, zIt, x, 0, t⟩)) b0 34 (rcA zRec)) := (setRow_other w8 b6 b0 _ (by have := HN6.out; omega)).trans HK09.out
              have HBX : Hid (Below w.heap.size w (w8.setRow b6 (rcA ⟨4, zIt, x, 0, t⟩))) := below_setRow2 HB9.out (by rw [HBB.out]; exact Nat.le_of_lt HN6.out) _
              have c0 : (w8.setRow b6 (rcA ⟨4, zIt, x, 0, t⟩)).cell? ⟨b6, 0, none⟩ = some (.int .i64 4) := HK8.out.cell 0
              obtain ⟨b3, o3, rfl, hb3, hcl3⟩ := HI9.out.opened (by rw [HN3.out]; decide)
              have hl35 : (5 : Int) < (n3.length : Int) := by rw [HN3.out]; decide
              have c5 : (w8.setRow b6 (rcA ⟨4, zIt, x, 0, t⟩)).cell? ⟨b3, o3 + 5, none⟩ = some (.int .i64 (at_ n3 5)) := by
                have h := hcl3 5 (by rw [HN3.out]; decide)
                have hp : W6.heap.size ≤ b3 := HPL.out _ rfl
                rw [World.cell?_of_block (a := ⟨b3, o3 + 5, none⟩) (setRow_other w8 b6 b3 _ (by have := HL6.out; omega))]
                exact h
              have c17 : (w8.setRow b6 (rcA ⟨4, zIt, x, 0, t⟩)).cell? ⟨b6, 17, none⟩ = some (.int .i64 0) := HK8.out.cell 17
              have f17 : (w8.setRow b6 (rcA ⟨4, zIt, x, 0, t⟩)).frozen? ⟨b6, 17, none⟩ = false := HK8.out.free 17
              replace HKX := Lib.hid (HKX.out.other (p := ⟨b6, 17, none⟩) (by have := HN6.out; simp only; omega) (.int .i64 (at_ n3 5)))
              replace HBX := Lib.hid (HBX.out.setCell (p := ⟨b6, 17, none⟩) (by rw [HBB.out]; exact Nat.le_of_lt HN6.out) (.int .i64 (at_ n3 5)))
              have HK8' : Hid (Bk ((w8.setRow b6 (rcA ⟨4, zIt, x, 0, t⟩)).setCell ⟨b6, 17, none⟩ (.int .i64 (at_ n3 5))) b6 34 (rcA ⟨4, zIt, x, at_ n3 5, t⟩)) := HK8.out.put 17 _
              replace HK8 := HK8'
              clear HK8' hcl3
              obtain ⟨Y, hY⟩ : ∃ Y : Rec, Y = ⟨4, zIt, x, at_ n3 5, t⟩ := ⟨_, rfl⟩
              have HDX : Hid (Y.item.data.size ≤ maxLen) := by rw [hY]; exact Nat.zero_le _
              have HPX : Hid (parseL s.data.toList = (if (ck Y == 0) = true then some Y else none)) := filt_yes (by
                rw [parse0_B H1.out HKE.out.1.symm (by decide)]
                unfold parseB
                simp only [if_true, H3.out, HX.out, ← HKE.out.2, and_self, if_true, hY])
              go_wp2_with fail
              clear c0 hst5 HK9 HK09 HB9
              generalize (w8.setRow b6 (rcA ⟨4, zIt, x, 0, t⟩)).setCell ⟨b6, 17, none⟩ (.int .i64 (at_ n3 5)) = W9 at HK8 HKX HBX ⊢
              rw [← hY] at HK8
              clear hY
              obtain ⟨N, hN⟩ : ∃ N : Nat, N = 19 := ⟨19, rfl⟩
              have HN19 := Lib.hid hN
              clear hN
              have HLD : Hid (∀ w', W9.grownBy w' (some b0) → Sem.run Try.prog (loadCellsFrom ⟨b6, 0, none⟩ 0 N #[]) w' = .ok (rcL Y).toArray w') := fun w' hb => by rw [HN19.out]; exact loadCells_bk (HK8.out.grown hb (fun e => by have := HLT.out; simp only [Option.some.injEq] at e; omega)) (Jo.rcA_size Y)
              have HSC : Hid (∀ w', Below W9.heap.size W9 w' → Sem.run Try.prog (storeCells ⟨b0, 0, none⟩ (rcL Y)) w' = .ok () (w'.setRow b0 (rcA Y)) ∧ Bk (w'.setRow b0 (rcA Y)) b0 34 (rcA Y)) := fun w' hb => ⟨storeCells_bk (P := Try.prog) (HKX.out.below hb HKX.out.lt) (cs := rcA Y) (by rw [Jo.rcA_size]; exact sizeRec) rfl (Jo.rcA_one _), (HKX.out.below hb HKX.out.lt).row _⟩
              have HCK := Lib.hid (fun w => checkR_any Y HDX.out w)
              have HCE : Hid (parseL s.data.toList = (if (ck Y == 0) = true then some Y else none)) := HPX.out
              generalize ck Y = q at HCK HCE
              generalize hqb : (q == 0) = qb at HCE
              have hlN : (rcL Y).length = N := by rw [HN19.out]; rfl
              have hag : ∀ w, Sem.run Try.prog (isAgg 34) w = .ok true w := fun w => Try.isAgg34 w
              have hso : ∀ w, Sem.run Try.prog (sizeOf 34) w = .ok N w := fun w => by rw [HN19.out]; exact Try.sizeOf34 w
              (try go_wp2_with fail)
              go_region_held3 (fun w' => Sem.run Try.prog (loadCellsFrom ⟨b6, 0, none⟩ 0 N #[]) w' = .ok (rcL Y).toArray w' ∧ Hid (W9.grownBy w' (some b0))) (((try go_split_ands); first | exact pS HLD (grown_below (Below.refl _ _).drew _) | exact pT HLD (by assumption) hb4 | exact pU HLD HB4))
                ((go_at_call 21
                  refine (HCK.out _).mono ?_
                  rintro e w4 ⟨rfl, hb4⟩
                  have HB4 : Hid (Below W9.heap.size W9 w4) := ((Below.refl W9.heap.size W9).drew).trans (hb4.mono (Nat.le_refl _))
                  have hsc4 := (HSC.out w4 HB4.out).1
                  have HN4 := Lib.hid (HSC.out w4 HB4.out).2))
              all_goals
                clear hag hso hlN
                go_wp2
                (try simp only [Exit.inBlock, Exit.then])
                refine bodyPost_ret (v := .tuple #[.agg (rcA Y), .bool qb]) ?_ rfl (parsePost_yes HCE.out HDX.out (below_setRow2 (HBX.out.trans (HB4.out.mono HBX.out.size)) (by rw [← HBB.out]; exact Nat.le_refl _) _))
                rw [results_cell_tmp rfl]
                have hld := run_loadVar_row (P := Try.prog) _ _ 34 34 (rcA Y) (0, 0) _ HN4.out Try.underlying34 rfl (by rw [Jo.rcA_size]; exact sizeRec)
                simp [asAddr, Result.andThen, hld]
            · have HN : Hid (parseL s.data.toList = none) := parse_t4 H1.out HKE.out.1.symm (by rw [H3.out]; exact fun h => hl3 h.2)
              have hs0 : (str l3).toList ≠ [] := by rw [Lib.toList_data, str_list]; exact hl3
              have hs1 : (!(str l3).toList.isEmpty) = true := by rw [Lib.toList_data, str_list]; cases l3 <;> simp_all
              have hsc := storeCells_bk (P := Try.prog) HKX.out (cs := rcA zRec) (by rw [Jo.rcA_size]; exact sizeRec) rfl (Jo.rcA_one _)
              have N1 := Lib.hid (HKX.out.row (rcA zRec))
              have hz := HZ.out
              go_wp2_with fail
              simp only [Try.sizeOf34, Result.andThen, ↓reduceIte, hsc]
              rw [Oper.upon_skip]
              clear hsc
              go_wp2
              (try simp only [Exit.inBlock, Exit.then])
              refine bodyPost_ret (v := .tuple #[.agg (rcA zRec), .bool false]) ?_ rfl (parsePost_no HN.out (below_setRow2 HBX.out (by rw [← HBB.out]; exact Nat.le_refl _) _))
              rw [results_cell_tmp rfl]
              have hld := run_loadVar_row (P := Try.prog) _ _ 34 34 (rcA zRec) (0, 0) _ N1.out Try.underlying34 rfl (by rw [Jo.rcA_size]; exact sizeRec)
              simp [asAddr, Result.andThen, hld]
        · have e2 : (k == 2) = false := by rw [beq_eq_false_iff_ne]; exact hk
          have e4 : (k == 4) = false := by rw [beq_eq_false_iff_ne]; exact hk4
          have hc2 := fun w => ints_any (str l1) 10 (by decide) (by rw [str_size]; exact Nat.le_trans HL1.out (by decide)) w
          unfold IntsPost at hc2
          obtain ⟨n4, l4, b4, h3⟩ : ∃ ns r b, rdN 10 l1 = (ns, r, b) := ⟨_, _, _, rfl⟩
          obtain ⟨xt, z, er, hrt⟩ : ∃ x z e, Vi.rtext l4 = (x, z, e) := ⟨_, _, _, rfl⟩
          rw [str_list, h3] at hc2
          have HC2 := Lib.hid hc2
          have H3 := Lib.hid h3
          have HPA := Lib.hid (parse_A H1.out HKE.out.1.symm hk hk4 h3 hrt)
          have HL4 : Hid (l4.length ≤ 65536) := by
            have h := rdN_size 10 l1
            rw [h3] at h
            show l4.length ≤ 65536
            exact Nat.le_trans h HL1.out
          have HTX := Lib.hid (rtext_small hrt)
          have HRT := Lib.hid hrt
          have c0 : W6.cell? ⟨b6, 0, none⟩ = some (.int .i64 k) := HK6.out.cell 0
          have HL6 : Hid (b6 < W6.heap.size) := HK6.out.lt
          clear hc2 h3 hrt hk hk4
          go_wp2_with fail
          refine (HC2.out _).mono ?_
          rintro e w7 ⟨A3, c3, rfl, hi3, hc3, hb7⟩
          have HK7 := Lib.hid (HK6.out.below hb7 HK6.out.lt)
          have HKX := Lib.hid (HK0.out.below hb7 HK0.out.lt)
          have HBX := Lib.hid (HB6.out.trans (hb7.mono HB6.out.size))
          have HI3 := Lib.hid hi3
          have HPL := Lib.hid hc3.2
          have HCP := Lib.hid hc3.1
          clear hb7 hi3 HC2 HK6 HK0 HB6 c0
          cases b4 with
          | true =>
            have HN : Hid (parseL s.data.toList = none) := by show parseL _ = none; rw [HPA.out]; exact if_neg (by simp)
            have hsc := storeCells_bk (P := Try.prog) HKX.out (cs := rcA zRec) (by rw [Jo.rcA_size]; exact sizeRec) rfl (Jo.rcA_one _)
            have N1 := Lib.hid (HKX.out.row (rcA zRec))
            have hz := HZ.out
            go_wp2_with fail
            simp only [Try.sizeOf34, Result.andThen, ↓reduceIte, hsc]
            rw [Oper.upon_skip]
            clear hsc
            go_wp2
            (try simp only [Exit.inBlock, Exit.then])
            refine bodyPost_ret (v := .tuple #[.agg (rcA zRec), .bool false]) ?_ rfl (parsePost_no HN.out (below_setRow2 HBX.out (by rw [← HBB.out]; exact Nat.le_refl _) _))
            rw [results_cell_tmp rfl]
            have hld := run_loadVar_row (P := Try.prog) _ _ 34 34 (rcA zRec) (0, 0) _ N1.out Try.underlying34 rfl (by rw [Jo.rcA_size]; exact sizeRec)
            simp [asAddr, Result.andThen, hld]
          | false =>
            have HN3 : Hid (n4.length = 10) := by
              have h := (rdN_len 10 l1).2
              rw [H3.out] at h
              exact h rfl
            obtain ⟨b3, o3, rfl, hb3, hcl3⟩ := HI3.out.opened (by rw [HN3.out]; decide)
            have HCL := Lib.hid hcl3
            have hl9 : (9 : Int) < (n4.length : Int) := by rw [HN3.out]; decide
            have c9 : w7.cell? ⟨b3, o3 + 9, none⟩ = some (.int .i64 (at_ n4 9)) := hcl3 9 (by rw [HN3.out]; decide)
            clear hcl3
            generalize hcu : at_ n4 9 = cu at c9
            have HCU := Lib.hid hcu
            clear hcu
            go_wp2_with fail
            refine (in_any cu 0 1 _).mono ?_
            rintro e w8 ⟨rfl, rfl⟩
            cases hwi : wi cu 0 1 with
            | false =>
              have HN : Hid (parseL s.data.toList = none) := by show parseL _ = none; rw [HPA.out]; exact if_neg (fun c => by rw [HCU.out, hwi] at c; simp at c)
              clear hwi
              have hsc := storeCells_bk (P := Try.prog) HKX.out (cs := rcA zRec) (by rw [Jo.rcA_size]; exact sizeRec) rfl (Jo.rcA_one _)
              have N1 := Lib.hid (HKX.out.row (rcA zRec))
              have hz := HZ.out
              go_wp2_with fail
              simp only [Try.sizeOf34, Result.andThen, ↓reduceIte, hsc]
              rw [Oper.upon_skip]
              clear hsc
              go_wp2
              (try simp only [Exit.inBlock, Exit.then])
              refine bodyPost_ret (v := .tuple #[.agg (rcA zRec), .bool false]) ?_ rfl (parsePost_no HN.out (below_setRow2 HBX.out (by rw [← HBB.out]; exact Nat.le_refl _) _))
              rw [results_cell_tmp rfl]
              have hld := run_loadVar_row (P := Try.prog) _ _ 34 34 (rcA zRec) (0, 0) _ N1.out Try.underlying34 rfl (by rw [Jo.rcA_size]; exact sizeRec)
              simp [asAddr, Result.andThen, hld]
            | true =>
              have HWI := Lib.hid hwi
              clear hwi
              have hct := fun w => readTextR_any (str l4) (by rw [str_size]; exact Nat.le_trans HL4.out (by decide)) w
              unfold RetText at hct
              rw [str_list, HRT.out] at hct
              have HCT := Lib.hid hct
              clear hct
              go_wp2_with fail
              refine (HCT.out _).mono ?_
              rintro e w8 ⟨rfl, hb8⟩
              have HCW : Hid (∀ w', Below w8.heap.size w8 w' → ∀ j, j < 10 → w'.cell? ⟨b3, o3 + j, none⟩ = some (.int .i64 (at_ n4 j))) := fun w' h j hj => by
                have h1 := HCL.out j (by rw [HN3.out]; exact hj)
                have h2 := (hb8.cell (p := ⟨b3, o3 + j, none⟩) hb3).trans h1
                exact (h.cell (p := ⟨b3, o3 + j, none⟩) (World.block_lt_of_cell? _ _ h2)).trans h2
              have HI8 := Lib.hid (HI3.out.below hb8)
              have HK8' := Lib.hid (HK7.out.below hb8 HK7.out.lt)
              have HKY := Lib.hid (HKX.out.below hb8 HKX.out.lt)
              have HBY := Lib.hid (HBX.out.trans (hb8.mono HBX.out.size))
              clear HKX HBX HK7 HCL hb8 HCT HI3 c9
              by_cases he : er = 0
              · by_cases hzl : z = l4.length
                · have hzb : ((z : Int) != ((str l4).size : Int)) = false := by rw [str_size, hzl]; simp
                  have HPX0 : Hid (parseL s.data.toList = (if (ck ⟨k, ⟨at_ n4 0, idOf n4 1, at_ n4 6, at_ n4 7, at_ n4 8, decide (at_ n4 9 = 1), str xt⟩, zId, 0, t⟩ == 0) = true then some ⟨k, ⟨at_ n4 0, idOf n4 1, at_ n4 6, at_ n4 7, at_ n4 8, decide (at_ n4 9 = 1), str xt⟩, zId, 0, t⟩ else none)) := by
                    show parseL _ = _
                    rw [HPA.out, if_pos ⟨by trivial, by rw [HCU.out]; exact HWI.out, he, by rw [hzl, List.drop_length]⟩, ← HKE.out.2]
                  subst he
                  clear hzl HPA
                  obtain ⟨a1, d1, hr1, hi1⟩ := ints_tail b3 o3 c3 n4 (by rw [HN3.out]; decide) HCP.out
                  have HI1' := Lib.hid hi1
                  have HLD1 : Hid (5 ≤ (n4.drop 1).length) := by show 5 ≤ _; rw [List.length_drop, HN3.out]; decide
                  have HIDX : Hid (idA (idOf (n4.drop 1) 0) = idA (idOf n4 1)) := by show _ = _; rw [idOf_drop]
                  clear hi1
                  have hl0 : 0 < n4.length := by rw [HN3.out]; decide
                  have hl6 : (6 : Int) < (n4.length : Int) := by rw [HN3.out]; decide
                  have hl7 : (7 : Int) < (n4.length : Int) := by rw [HN3.out]; decide
                  have hl8 : (8 : Int) < (n4.length : Int) := by rw [HN3.out]; decide
                  generalize hL5 : n4.drop 1 = L5 at hr1 HI1' HLD1 HIDX
                  have HFA : Hid (∀ w', Below w8.heap.size w8 w' → w'.cell? ⟨b3, o3, none⟩ = some (.int .i64 (at_ n4 0)) ∧ w'.cell? ⟨b3, o3 + 6, none⟩ = some (.int .i64 (at_ n4 6)) ∧ w'.cell? ⟨b3, o3 + 7, none⟩ = some (.int .i64 (at_ n4 7)) ∧ w'.cell? ⟨b3, o3 + 8, none⟩ = some (.int .i64 (at_ n4 8)) ∧ w'.cell? ⟨b3, o3 + 9, none⟩ = some (.int .i64 cu)) := fun w' h =>
                    ⟨HCW.out w' h 0 (by decide), HCW.out w' h 6 (by decide), HCW.out w' h 7 (by decide), HCW.out w' h 8 (by decide), by rw [← HCU.out]; exact HCW.out w' h 9 (by decide)⟩
                  obtain ⟨cb, hcb⟩ : ∃ cb : Bool, (cu == 1) = cb := ⟨_, rfl⟩
                  have HCB : Hid (decide (at_ n4 9 = 1) = cb) := by show _ = _; rw [HCU.out, ← hcb]; rfl
                  rw [HCB.out] at HPX0
                  generalize at_ n4 0 = x0 at HFA HPX0
                  generalize at_ n4 6 = x6 at HFA HPX0
                  generalize at_ n4 7 = x7 at HFA HPX0
                  generalize at_ n4 8 = x8 at HFA HPX0
                  generalize idOf n4 1 = xi at HIDX HPX0
                  have HIDC : Hid (∀ w, IntsAt w (some a1) L5 → Calls Try.prog 63 #[.slice (some a1) L5.length d1] w fun e w' => e = .returned (.agg #[.int .i64 xi.src, .int .i64 xi.cre, .int .i64 xi.seq, .int .i64 xi.off, .int .i64 xi.tot]) ∧ Below w.heap.size w w') := fun w h => by
                    have := idOf_any (some a1) d1 L5 w h HLD1.out
                    rw [HIDX.out] at this
                    exact this
                  have hzi : ∀ w, Sem.run Try.prog (zeroValue 32) w = .ok (.agg (itA zIt)) w := (zero_of_info infoItm2).1
                  have hb36 : b3 ≠ b6 := by have h1 : W6.heap.size ≤ b3 := HPL.out _ rfl; have := HL6.out; omega
                  have HFB : Hid (∀ w', w8.grownBy w' (some b6) → w'.cell? ⟨b3, o3, none⟩ = some (.int .i64 x0) ∧ w'.cell? ⟨b3, o3 + 6, none⟩ = some (.int .i64 x6) ∧ w'.cell? ⟨b3, o3 + 7, none⟩ = some (.int .i64 x7) ∧ w'.cell? ⟨b3, o3 + 8, none⟩ = some (.int .i64 x8) ∧ w'.cell? ⟨b3, o3 + 9, none⟩ = some (.int .i64 cu)) := fun w' h => by
                    have hf := HFA.out w8 (Below.refl _ _)
                    have hb := h.block b3 (World.block_lt_of_cell? _ _ hf.1) (fun e => hb36 (by simpa using e))
                    exact ⟨(World.cell?_of_block (a := ⟨b3, o3, none⟩) hb).trans hf.1, (World.cell?_of_block (a := ⟨b3, o3 + 6, none⟩) hb).trans hf.2.1, (World.cell?_of_block (a := ⟨b3, o3 + 7, none⟩) hb).trans hf.2.2.1, (World.cell?_of_block (a := ⟨b3, o3 + 8, none⟩) hb).trans hf.2.2.2.1, (World.cell?_of_block (a := ⟨b3, o3 + 9, none⟩) hb).trans hf.2.2.2.2⟩
                  have HB36 := Lib.hid hb36
                  clear hb36
                  have hneI : ¬ itA zIt = #[] := fun h => by have := congrArg Array.size h; rw [Jo.itA_size] at this; simp at this
                  have hszI : (itA zIt).size = 11 := Jo.itA_size _
                  go_wp2_with fail
                  go_region_held3 (fun w' => (w'.cell? ⟨b3, o3, none⟩ = some (.int .i64 x0) ∧ w'.cell? ⟨b3, o3 + 6, none⟩ = some (.int .i64 x6) ∧ w'.cell? ⟨b3, o3 + 7, none⟩ = some (.int .i64 x7) ∧ w'.cell? ⟨b3, o3 + 8, none⟩ = some (.int .i64 x8) ∧ w'.cell? ⟨b3, o3 + 9, none⟩ = some (.int .i64 cu)) ∧ Hid (w8.grownBy w' (some b6))) (((try go_split_ands); first | exact ⟨HFB.out _ (grown_below (Below.refl _ _).drew _), grown_below (Below.refl _ _).drew _⟩ | exact ⟨HFB.out _ (grown_below HB9.out _), grown_below HB9.out _⟩ | exact ⟨HFB.out _ ((grown_below HB9.out _).trans (grown_setRow _ _ _)), (grown_below HB9.out _).trans (grown_setRow _ _ _)⟩))
                    ((go_at_call 63
                      refine (HIDC.out _ (HI1'.out _ (HI8.out.below (Below.refl _ _).drew))).mono ?_
                      rintro e w9 ⟨rfl, hb9⟩
                      have HB9 : Hid (Below w8.heap.size w8 w9) := (Below.refl w8.heap.size w8).drew.trans (hb9.mono (Nat.le_refl _))
                      have HK9 : Hid (Bk w9 b6 34 (rcA ⟨k, zIt, zId, 0, t⟩)) := HK8'.out.below HB9.out HK8'.out.lt
                      have hstI : Sem.run Try.prog (storeCells ⟨b6, 1, none⟩ ((((((((((((itA zIt).toList.set 0 (Value.int IntKind.i64 x0)).set 1 (Value.int IntKind.i64 xi.src)).set 2 (Value.int IntKind.i64 xi.cre)).set 3 (Value.int IntKind.i64 xi.seq)).set 4 (Value.int IntKind.i64 xi.off)).set 5 (Value.int IntKind.i64 xi.tot)).set 6 (Value.int IntKind.i64 x6)).set 7 (Value.int IntKind.i64 x7)).set 8 (Value.int IntKind.i64 x8)).set 9 (Value.bool cb)).set 10 (Value.string (str xt)))) w9 = .ok () (w9.setRow b6 (rcA ⟨k, ⟨x0, xi, x6, x7, x8, cb, str xt⟩, zId, 0, t⟩)) :=
                        run_storeCells_at (P := Try.prog) b6 1 34 (itA ⟨x0, xi, x6, x7, x8, cb, str xt⟩).toList 0 (rcA ⟨k, zIt, zId, 0, t⟩) w9 HK9.out (by rw [Jo.rcA_size]; exact Nat.le_of_ble_eq_true rfl) (fun v hv => List.all_eq_true.1 (by simpa using Jo.itA_one ⟨x0, xi, x6, x7, x8, cb, str xt⟩) v hv)))
                  all_goals
                    obtain ⟨Y, hY⟩ : ∃ Y : Rec, Y = ⟨k, ⟨x0, xi, x6, x7, x8, cb, str xt⟩, zId, 0, t⟩ := ⟨_, rfl⟩
                    have HDX : Hid (Y.item.data.size ≤ maxLen) := by rw [hY]; show (str xt).size ≤ maxLen; rw [str_size]; exact Nat.le_trans HTX.out (by decide)
                    have HPX : Hid (parseL s.data.toList = (if (ck Y == 0) = true then some Y else none)) := by rw [hY]; exact HPX0
                    have HK8 : Hid (Bk (w9.setRow b6 (rcA Y)) b6 34 (rcA Y)) := HK9.out.row _
                    have HK09 : Hid (Bk w9 b0 34 (rcA zRec)) := HKY.out.below HB9.out HKY.out.lt
                    have HKX : Hid (Bk (w9.setRow b6 (rcA Y)) b0 34 (rcA zRec)) := (setRow_other w9 b6 b0 _ (by have := HLT.out; omega)).trans HK09.out
                    have HBX : Hid (Below w.heap.size w (w9.setRow b6 (rcA Y))) := below_setRow2 (HBY.out.trans (HB9.out.mono HBY.out.size)) (by have := HLT.out; rw [HBB.out]; omega) _
                    rw [← hY]
                    clear hstI HK9 HK09 HB9 hl0 hl6 hl7 hl8 hl9 hzi hr1 hcb hzb hneI hszI
                    generalize w9.setRow b6 (rcA Y) = W9 at HK8 HKX HBX ⊢
                    clear hY
                    obtain ⟨N, hN⟩ : ∃ N : Nat, N = 19 := ⟨19, rfl⟩
                    have HN19 := Lib.hid hN
                    clear hN
                    have HLD : Hid (∀ w', W9.grownBy w' (some b0) → Sem.run Try.prog (loadCellsFrom ⟨b6, 0, none⟩ 0 N #[]) w' = .ok (rcL Y).toArray w') := fun w' hb => by rw [HN19.out]; exact loadCells_bk (HK8.out.grown hb (fun e => by have := HLT.out; simp only [Option.some.injEq] at e; omega)) (Jo.rcA_size Y)
                    have HSC : Hid (∀ w', Below W9.heap.size W9 w' → Sem.run Try.prog (storeCells ⟨b0, 0, none⟩ (rcL Y)) w' = .ok () (w'.setRow b0 (rcA Y)) ∧ Bk (w'.setRow b0 (rcA Y)) b0 34 (rcA Y)) := fun w' hb => ⟨storeCells_bk (P := Try.prog) (HKX.out.below hb HKX.out.lt) (cs := rcA Y) (by rw [Jo.rcA_size]; exact sizeRec) rfl (Jo.rcA_one _), (HKX.out.below hb HKX.out.lt).row _⟩
                    have HCK := Lib.hid (fun w => checkR_any Y HDX.out w)
                    have HCE : Hid (parseL s.data.toList = (if (ck Y == 0) = true then some Y else none)) := HPX.out
                    generalize ck Y = q at HCK HCE
                    generalize hqb : (q == 0) = qb at HCE
                    have hlN : (rcL Y).length = N := by rw [HN19.out]; rfl
                    have hag : ∀ w, Sem.run Try.prog (isAgg 34) w = .ok true w := fun w => Try.isAgg34 w
                    have hso : ∀ w, Sem.run Try.prog (sizeOf 34) w = .ok N w := fun w => by rw [HN19.out]; exact Try.sizeOf34 w
                    (try go_wp2_with fail)
                    go_region_held3 (fun w' => Sem.run Try.prog (loadCellsFrom ⟨b6, 0, none⟩ 0 N #[]) w' = .ok (rcL Y).toArray w' ∧ Hid (W9.grownBy w' (some b0))) (((try go_split_ands); first | exact pS HLD (grown_below (Below.refl _ _).drew _) | exact pT HLD (by assumption) hb4 | exact pU HLD HB4))
                      ((go_at_call 21
                        refine (HCK.out _).mono ?_
                        rintro e w4 ⟨rfl, hb4⟩
                        have HB4 : Hid (Below W9.heap.size W9 w4) := ((Below.refl W9.heap.size W9).drew).trans (hb4.mono (Nat.le_refl _))
                        have hsc4 := (HSC.out w4 HB4.out).1
                        have HN4 := Lib.hid (HSC.out w4 HB4.out).2))
                    all_goals
                      clear hag hso hlN
                      go_wp2
                      (try simp only [Exit.inBlock, Exit.then])
                      refine bodyPost_ret (v := .tuple #[.agg (rcA Y), .bool qb]) ?_ rfl (parsePost_yes HCE.out HDX.out (below_setRow2 (HBX.out.trans (HB4.out.mono HBX.out.size)) (by rw [← HBB.out]; exact Nat.le_refl _) _))
                      rw [results_cell_tmp rfl]
                      have hld := run_loadVar_row (P := Try.prog) _ _ 34 34 (rcA Y) (0, 0) _ HN4.out Try.underlying34 rfl (by rw [Jo.rcA_size]; exact sizeRec)
                      simp [asAddr, Result.andThen, hld]
                · have hzb : ((z : Int) != ((str l4).size : Int)) = true := by rw [str_size, bne_iff_ne]; omega
                  have HN : Hid (parseL s.data.toList = none) := by
                    show parseL _ = none
                    rw [HPA.out]
                    subst he
                    refine if_neg (fun c => hzl ?_)
                    have h1 := (Vi.rtext_canon HRT.out).2.2.1
                    have h2 := congrArg List.length c.2.2.2
                    rw [List.length_drop] at h2
                    simp only [List.length_nil] at h2
                    omega
                  have HKX := Lib.hid HKY.out
                  have HBX := Lib.hid HBY.out
                  subst he
                  have hsc := storeCells_bk (P := Try.prog) HKX.out (cs := rcA zRec) (by rw [Jo.rcA_size]; exact sizeRec) rfl (Jo.rcA_one _)
                  have N1 := Lib.hid (HKX.out.row (rcA zRec))
                  have hz := HZ.out
                  go_wp2_with fail
                  simp only [Try.sizeOf34, Result.andThen, ↓reduceIte, hsc]
                  rw [Oper.upon_skip]
                  clear hsc
                  go_wp2
                  (try simp only [Exit.inBlock, Exit.then])
                  refine bodyPost_ret (v := .tuple #[.agg (rcA zRec), .bool false]) ?_ rfl (parsePost_no HN.out (below_setRow2 HBX.out (by rw [← HBB.out]; exact Nat.le_refl _) _))
                  rw [results_cell_tmp rfl]
                  have hld := run_loadVar_row (P := Try.prog) _ _ 34 34 (rcA zRec) (0, 0) _ N1.out Try.underlying34 rfl (by rw [Jo.rcA_size]; exact sizeRec)
                  simp [asAddr, Result.andThen, hld]
              · have heb : (er != 0) = true := by rw [bne_iff_ne]; exact he
                have HN : Hid (parseL s.data.toList = none) := by
                  show parseL _ = none
                  rw [HPA.out]
                  exact if_neg (fun c => he c.2.2.1)
                have HKX := Lib.hid HKY.out
                have HBX := Lib.hid HBY.out
                have hsc := storeCells_bk (P := Try.prog) HKX.out (cs := rcA zRec) (by rw [Jo.rcA_size]; exact sizeRec) rfl (Jo.rcA_one _)
                have N1 := Lib.hid (HKX.out.row (rcA zRec))
                have hz := HZ.out
                go_wp2_with fail
                simp only [Try.sizeOf34, Result.andThen, ↓reduceIte, hsc]
                rw [Oper.upon_skip]
                clear hsc
                go_wp2
                (try simp only [Exit.inBlock, Exit.then])
                refine bodyPost_ret (v := .tuple #[.agg (rcA zRec), .bool false]) ?_ rfl (parsePost_no HN.out (below_setRow2 HBX.out (by rw [← HBB.out]; exact Nat.le_refl _) _))
                rw [results_cell_tmp rfl]
                have hld := run_loadVar_row (P := Try.prog) _ _ 34 34 (rcA zRec) (0, 0) _ N1.out Try.underlying34 rfl (by rw [Jo.rcA_size]; exact sizeRec)
                simp [asAddr, Result.andThen, hld]
end Go.Proofs.Ytlknjdfiedkhbaa
