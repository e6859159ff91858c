/- The reference's Compact, walked. Conditions: at most 16 records that lie in memory; lengths below the model's greatest. -/
import Derived.Test.YtlknjdfiedkhbaaJoEff
import Derived.Test.YtlknjdfiedkhbaaJoSlice
import Derived.Deep.QuietTactic
import Derived.BigQuiet
namespace Go.Proofs.Ytlknjdfiedkhbaa
open Go Go.RowKit
open Jo (RId Itm Rec rcA rcL itA itL idA idL ck)
attribute [-simp] Try.isAgg34 Try.sizeOf34 Try.typeInfo34

theorem effL_take (l : List Rec) (k : Nat) : ∀ n, n ≤ k → effL (l.take k) n = effL l n
  | 0, _ => rfl
  | n + 1, h => by
    have e : (l.take k)[n]? = l[n]? := by rw [List.getElem?_take, if_pos (by omega)]
    simp only [effL, e, effL_take l k n (by omega)]
theorem recs1 (w : World) : (w.alloc (.cells #[] 34)).ownsRow w.heap.size 34 19 (.slice (some ⟨w.heap.size, 0, none⟩) 0 0) 0 [] :=
  ⟨rfl, .inr ⟨w.heap.size, 0, #[], rfl, Nat.le_refl _, heap_alloc_new w _, Nat.le_refl _, by unfold maxLen; omega, rfl, rfl⟩⟩
/-- what Compact answers -/
def CmpPost (w : World) (l : List Rec) (e : Ending) (w' : World) : Prop :=
  ∃ A' c', e = .returned (.tuple #[.slice A' (cmpL l).length c', .int .i64 (errK l)]) ∧ RecsAt w' A' (cmpL l) ∧ Below w.heap.size w w'
theorem cmpPost_of {w w' : World} {l M : List Rec} {q : Int} (h : cmpL l = M) (he : errK l = q) {A : Option Addr} {c n : Nat} (hn : n = M.length) (hR : RecsAt w' A M) (hb : Below w.heap.size w w') :
    CmpPost w l (.returned (.tuple #[.slice A n c, .int .i64 q])) w' := by
  subst hn; subst h; subst he
  exact ⟨A, c, rfl, hR, hb⟩
/-- what the second loop keeps -/
def RfInv (l : List Rec) (w wr : World) (v : Value) (k : Nat) : Prop :=
  Below w.heap.size w wr ∧ wr.ownsRow w.heap.size 34 19 v (refC l k).length ((refC l k).flatMap rcL)
theorem RfInv.next {l : List Rec} {w W W' : World} {v : Value} {k : Nat} (h : RfInv l w W v k) (hb : Below W.heap.size W W') : RfInv l w W' v k :=
  ⟨h.1.trans (hb.mono h.1.size), h.2.kept (grown_below hb none) (by
    cases hv : v.ownBlock with
    | none => exact Or.inl rfl
    | some g => exact Or.inr (by simp))⟩
theorem RfInv.skip {l : List Rec} {w W : World} {v : Value} {k : Nat} (h : RfInv l w W v k) (hs : refC l (k + 1) = refC l k) : RfInv l w W v (k + 1) := by
  unfold RfInv at h ⊢
  rw [hs]
  exact h
theorem RfInv.push {l : List Rec} {w w4 : World} {v' : Value} {k : Nat} {r2 : Rec} (hb : Below w.heap.size w w4) (hown : w4.ownsRow w.heap.size 34 19 v' ((refC l k).length + 1) ((refC l k).flatMap rcL ++ rcL r2))
    (hs : refC l (k + 1) = refC l k ++ [r2]) : RfInv l w w4 v' (k + 1) := by
  refine ⟨hb, ?_⟩
  rw [hs]
  simpa using hown
theorem pick2 {l : List Rec} {k : Nat} {r : Rec} (h : r.kind = 2 ∨ r.kind = 4) : refPick l k r = [] := by
  unfold refPick
  rw [if_neg (by omega), if_neg (by omega)]
theorem pick3 {l : List Rec} {k : Nat} {r : Rec} (h : r.kind = 3) : refPick l k r = if fidx (effL l k).2 r.item.id = none then [r] else [] := by
  unfold refPick
  rw [if_pos h]
theorem pick1n {l : List Rec} {k : Nat} {r : Rec} (h : r.kind = 1) (hn : ¬ fidx (effL l k).1 r.item.id = none) : refPick l k r = [] := by
  unfold refPick
  rw [if_neg (by omega), if_pos h, if_neg hn]
theorem pick1y {l : List Rec} {k : Nat} {r : Rec} (h : r.kind = 1) (hn : fidx (effL l k).1 r.item.id = none) {b : Bool} {t : Int} (hr : remT l r.item.id k r.item.tick (l.length - (k + 1)) = (b, t)) : refPick l k r = if b = true then [tickC r t] else [] := by
  unfold refPick
  rw [if_neg (by omega), if_pos h, if_pos hn, hr]
theorem fa_rec0 (b o : Nat) (w : World) : Sem.run Try.prog (Instr.fieldAt 34 (.pointer (some ⟨b, o, none⟩)) 0) w = .ok (.pointer (some ⟨b, o, none⟩)) w := by kernel_rfl
theorem fa_rec1 (b o : Nat) (w : World) : Sem.run Try.prog (Instr.fieldAt 34 (.pointer (some ⟨b, o, none⟩)) 1) w = .ok (.pointer (some ⟨b, o + 1, none⟩)) w := by kernel_rfl
theorem fa_rec2 (b o : Nat) (w : World) : Sem.run Try.prog (Instr.fieldAt 34 (.pointer (some ⟨b, o, none⟩)) 2) w = .ok (.pointer (some ⟨b, o + 12, none⟩)) w := by kernel_rfl
theorem fa_rec3 (b o : Nat) (w : World) : Sem.run Try.prog (Instr.fieldAt 34 (.pointer (some ⟨b, o, none⟩)) 3) w = .ok (.pointer (some ⟨b, o + 17, none⟩)) w := by kernel_rfl
theorem bs0_recF (w : World) : Sem.run Try.prog (Instr.buildSlice 22 0 #[]) w = .ok (.slice (some ⟨w.heap.size, 0, none⟩) 0 0) (w.alloc (.cells #[] 34)) := by kernel_rfl
theorem jbelow_drewN {B : Nat} {a w : World} (h : Below B a w) (n : Nat) : Below B a (w.drewN n) := ⟨h.os, h.tape, h.output, h.size, h.block⟩
theorem cell_heap {w w' : World} {a : Addr} (h : w'.heap = w.heap) : w'.cell? a = w.cell? a := by unfold World.cell?; rw [h]
theorem range_heap {w w' : World} {b o : Nat} {cs : List Value} (h : w'.heap = w.heap) (hr : w.rangeAt b o cs) : w'.rangeAt b o cs := fun j v hv => (cell_heap h).trans (hr j v hv)
theorem bk_heap {w w' : World} {g : Nat} {t : TypeId} {cs : Array Value} (h : w'.heap = w.heap) (hb : Bk w g t cs) : Bk w' g t cs := by unfold Bk at hb ⊢; rw [h]; exact hb
attribute [local go_sem ↓] eql_id ix_rec fa_item fa_rec0 fa_rec1 fa_rec2 fa_rec3 Go.wp_at_zero Go.wp_at_succ
attribute [-simp] Try.isAgg30 Try.sizeOf30 Try.typeInfo30
attribute [-simp] Try.isAgg32 Try.sizeOf32 Try.typeInfo32

set_option maxHeartbeats 4000000 in
set_option maxRecDepth 100000 in
theorem compactR_any (A : Option Addr) (cA : Nat) (l : List Rec) (w : World) (hl : l.length ≤ 16) (hca : l.length ≤ cA) (hd : ∀ r ∈ l, r.item.data.size ≤ maxLen) (hA : RecsAt w A l) :
    Calls Try.prog 26 #[.slice A l.length cA] w (CmpPost w l) := by
  have HA := Lib.hid hA
  have HD := Lib.hid hd
  have hz := (zero_of_info infoRec).1
  have HZ := Lib.hid hz
  have HCA := Lib.hid hca
  clear hA hd hz hca
  obtain ⟨i0, hi0, hz0, hz1, hz2⟩ := info_parts infoRecB
  have HI := Lib.hid (And.intro hi0 (And.intro hz0 (And.intro hz1 hz2)))
  clear hi0 hz0 hz1 hz2
  have HB0 : Hid (Below w.heap.size w (w.alloc (.cells #[] 34))) := (Below.refl _ _).alloc (Nat.le_refl _) _
  have HO0 : Hid ((w.alloc (.cells #[] 34)).ownsRow w.heap.size 34 19 (.slice (some ⟨w.heap.size, 0, none⟩) 0 0) 0 []) := recs1 w
  go_enter Try.func26, Try.ntmps26
  go_wp2
  simp only [Try.sizeOf34, Result.andThen]
  rw [Oper.upon_value]
  go_wp2
  generalize w.alloc (.cells #[] 34) = W0 at HB0 HO0 ⊢
  generalize hv0 : Value.slice (some ⟨w.heap.size, 0, none⟩) 0 0 = v0 at HO0 ⊢
  clear hv0
  go_loopw [5, 6] (fun i _ wr => ∃ k : Nat, k ≤ l.length ∧ i = .int .i64 k ∧ Below w.heap.size w wr ∧ wr.ownsRow w.heap.size 34 19 v0 0 [] ∧ errK (l.take k) = 0) (fun i _ _ => l.length - (intOf i).toNat)
  case atStart => exact ⟨0, Nat.zero_le _, rfl, HB0.out, HO0.out, rfl⟩
  case round =>
    clear HB0 HO0
    obtain ⟨k, hk, rfl, hbw, hov, hek⟩ := hrel
    have HB := Lib.hid hbw
    have HO := Lib.hid hov
    have HE := Lib.hid hek
    clear hbw hov hek
    by_cases hlt : k < l.length
    · obtain ⟨b, off, rfl, hr⟩ := HA.out.one (by omega)
      obtain ⟨r, hrk⟩ : ∃ r, l[k]? = some r := ⟨_, List.getElem?_eq_getElem hlt⟩
      have HRK := Lib.hid hrk
      have hlc := loadCells_range (P := Try.prog) (range_below (hr k r hrk) HB.out) (n := 19) rfl
      have HN := Lib.hid (fun w => checkR_any r (HD.out r (List.mem_of_getElem? HRK.out)) w)
      have HSP := Lib.hid (errK_split l k r HRK.out HE.out)
      clear hr hrk
      generalize ck r = q at HN HSP
      go_wp2_with fail
      simp only [Try.isAgg34, Try.sizeOf34, Result.andThen, ↓reduceIte, hlc]
      rw [Oper.upon_value]
      clear hlc
      go_wp2_with fail
      refine (HN.out _).mono ?_
      rintro e w1 ⟨rfl, hb1⟩
      have HB1 := Lib.hid (HB.out.trans (hb1.mono HB.out.size))
      have HO1 : Hid (w1.ownsRow w.heap.size 34 19 v0 0 []) := HO.out.kept (grown_below hb1 none) (by
        cases hv : v0.ownBlock with
        | none => exact Or.inl rfl
        | some g => exact Or.inr (by simp))
      clear hb1 HB HO HN
      by_cases hq : q = 0
      · subst hq
        have HE1 := Lib.hid (HSP.out.1 rfl)
        clear HSP HE
        go_wp2
        go_roundw
        case rel => exact ⟨k + 1, by omega, by go_num, HB1.out, HO1.out, HE1.out⟩
        case measure => simp [intOf]; omega
      · have HE1 := Lib.hid (HSP.out.2 hq)
        have HQ := Lib.hid hq
        have hqb : (q != 0) = true := by rw [bne_iff_ne]; exact hq
        clear hq HSP HE
        go_wp2
        simp only [Try.sizeOf34, Result.andThen]
        rw [Oper.upon_value]
        go_wp2
        go_ret2
        exact cmpPost_of (by unfold cmpL; rw [if_neg (fun h => HQ.out (by rw [← HE1.out]; exact h))]) HE1.out rfl (RecsAt.nil _ _) (HB1.out.alloc HB1.out.size _)
    · have HKE : Hid (errK l = 0) := by
        have h := HE.out
        rw [show k = l.length by omega, List.take_length] at h
        exact h
      have HI0 : Hid (RfInv l w wr v0 0) := ⟨HB.out, HO.out⟩
      have HCK : Hid (∀ r ∈ l, ck r = 0) := errK_mem HKE.out
      clear HE HB HO
      go_wp2
      generalize hwo : wr = wo at HI0 ⊢
      clear hwo
      go_loopw [4, 7, 8, 9, 10, 11, 12] (fun v i _ _ _ _ _ wr => ∃ k : Nat, k ≤ l.length ∧ i = .int .i64 k ∧ RfInv l w wr v k) (fun _ i _ _ _ _ _ _ => l.length - (intOf i).toNat)
      case atStart => exact ⟨0, Nat.zero_le _, rfl, HI0.out⟩
      case round =>
        clear HI0
        obtain ⟨k, hk, rfl, hinv⟩ := hrel
        have HX := Lib.hid hinv
        clear hinv
        by_cases hlt : k < l.length
        · obtain ⟨wq, rfl⟩ : ∃ wo : World, wo = wr := ⟨_, rfl⟩
          obtain ⟨b, off, rfl, hr⟩ := HA.out.one (by omega)
          obtain ⟨r, hrk⟩ : ∃ r, l[k]? = some r := ⟨_, List.getElem?_eq_getElem hlt⟩
          have HRK := Lib.hid hrk
          have HRG : Hid (∀ j q, l[j]? = some q → w.rangeAt b (off + j * 19) (rcL q)) := hr
          have hlc := loadCells_range (P := Try.prog) (range_below (hr k r hrk) HX.out.1) (n := 19) rfl
          have hsc : Sem.run Try.prog (storeCells ⟨wq.heap.size, 0, none⟩ (rcL r)) (wq.alloc (.cells (rcA zRec) 34)) = .ok () (wq.alloc (.cells (rcA r) 34)) := run_storeCells_new (P := Try.prog) wq 34 (rcA zRec) (rcA r) sizeRec rfl (Jo.rcA_one r)
          obtain ⟨A1, hr1, hh1⟩ := recs_head (some ⟨b, off, none⟩) cA l k (Nat.le_of_lt hlt) HCA.out
          have HH1 := Lib.hid hh1
          have HL1 : Hid ((l.take k).length = k) := by show _ = _; rw [List.length_take]; omega
          have HE1 := Lib.hid (effL_take l k k (Nat.le_refl _))
          have HKD : Hid (∀ r ∈ l.take k, r.kind = 1 ∨ r.kind = 2 ∨ r.kind = 3 ∨ r.kind = 4) := fun r h => ck_ranges (HCK.out r (List.mem_of_mem_take h))
          have HST := Lib.hid (refC_step l k r HRK.out)
          have hkd := ck_ranges (HCK.out r (List.mem_of_getElem? HRK.out))
          have HKQ := Lib.hid hkd
          have hz := HZ.out
          have hlen : (rcL r).length = 19 := rfl
          clear hr hrk hh1 hkd
          generalize hT : l.take k = T at hr1 HH1 HL1 HE1 HKD
          clear hT
          go_wp2_with fail
          simp only [Try.isAgg34, Try.sizeOf34, Result.andThen, ↓reduceIte, hlc]
          rw [Oper.upon_value]
          clear hlc
          go_wp2_with fail
          simp only [Try.sizeOf34, Result.andThen, ↓reduceIte, hsc]
          rw [Oper.upon_skip]
          clear hsc hz hlen
          have HX1 : Hid (RfInv l w (wq.alloc (.cells (rcA r) 34)) u4 k) := HX.out.next ((Below.refl _ _).alloc (Nat.le_refl _) _)
          have HBK : Hid (Bk (wq.alloc (.cells (rcA r) 34)) wq.heap.size 34 (rcA r)) := Bk.new wq _ _
          have HBP : Hid (Below wq.heap.size wq (wq.alloc (.cells (rcA r) 34))) := (Below.refl _ _).alloc (Nat.le_refl _) _
          generalize wq.alloc (.cells (rcA r) 34) = W1 at HX1 HBK HBP ⊢
          generalize hp : wq.heap.size = p at HBK HBP ⊢
          have HP := Lib.hid hp
          clear hp
          go_wp2_with fail
          refine (effect_any A1 cA T _ (by have := HL1.out; omega) ((HH1.out _ (HA.out.below HX1.out.1))) HKD.out).mono ?_
          rintro e w2 ⟨a2, b2, c2, d2, rfl, g1, g2, g3, g4, g5⟩
          rw [HL1.out, HE1.out] at g1 g2 g3 g4 ⊢
          have HX2 : Hid (RfInv l w w2 u4 k) := HX1.out.next g5
          have HBK2 := Lib.hid (HBK.out.below g5 HBK.out.lt)
          have HBP2 : Hid (Below p wq w2) := HBP.out.trans (g5.mono (by have h1 := HBP.out.size; have h2 := HP.out; omega))
          have HI1 := Lib.hid g1
          have HI2 := Lib.hid g2
          have HLE := Lib.hid (effL_len l k)
          clear g1 g2 g5 HX1 HBK HBP HH1 HE1 HKD hr1 HL1
          generalize hLL : (effL l k).1 = L at HI1 g3 HLE
          generalize hMM : (effL l k).2 = M at HI2 g4 HLE
          have HLL := Lib.hid hLL
          have HMM := Lib.hid hMM
          clear hLL hMM
          have c0 : w2.cell? ⟨p, 0, none⟩ = some (.int .i64 r.kind) := HBK2.out.cell 0
          obtain ⟨N5, hN5⟩ : ∃ N : Nat, N = 5 := ⟨5, rfl⟩
          have H5 := Lib.hid hN5
          have hn5 : ¬ N5 = 0 := by omega
          have hag5 : ∀ w, Sem.run Try.prog (isAgg 30) w = .ok true w := fun w => Try.isAgg30 w
          have hso5 : ∀ w, Sem.run Try.prog (sizeOf 30) w = .ok N5 w := fun w => by rw [H5.out]; exact Try.sizeOf30 w
          obtain ⟨N11, hN11⟩ : ∃ N : Nat, N = 11 := ⟨11, rfl⟩
          have H11 := Lib.hid hN11
          have hn11 : ¬ N11 = 0 := by omega
          have hag11 : ∀ w, Sem.run Try.prog (isAgg 32) w = .ok true w := fun w => Try.isAgg32 w
          have hso11 : ∀ w, Sem.run Try.prog (sizeOf 32) w = .ok N11 w := fun w => by rw [H11.out]; exact Try.sizeOf32 w
          clear hN5 hN11
          have hkq := HKQ.out
          generalize hkk : r.kind = kk at c0 hkq
          have HKK := Lib.hid hkk
          clear hkk HKQ
          rcases hkq with rfl | rfl | rfl | rfl
          · have hlc := bk_part HBK2.out 2 5 N5 (rc_iid r) rfl H5.out
            go_wp2_with fail
            refine (findR_any (some a2) c2 L r.item.id _ HI1.out (by have := HLE.out; unfold maxLen; omega)).mono ?_
            rintro e w3 ⟨rfl, hb3⟩
            have HX3 : Hid (RfInv l w w3 u4 k) := HX2.out.next hb3
            have HBK3 := Lib.hid (HBK2.out.below hb3 HBK2.out.lt)
            have HBP3 : Hid (Below p wq w3) := HBP2.out.trans (hb3.mono (by have h1 := HBP2.out.size; have h2 := HP.out; omega))
            clear hlc hb3 HX2 HBK2 HBP2 c0
            cases hf : fidx L r.item.id with
            | some i =>
              have hi0 : (0 : Int) ≤ (i : Int) := by omega
              have HPK : Hid (refPick l k r = []) := by show _ = _; rw [pick1n HKK.out (by rw [HLL.out, hf]; exact fun h => by cases h)]
              rw [findZ_some hf]
              clear hf
              have HS : Hid (refC l (k + 1) = refC l k) := by show _ = _; rw [HST.out, HPK.out, List.append_nil]
              go_wp2
              go_roundw
              case rel => exact ⟨k + 1, by omega, by go_num, HX3.out.skip HS.out⟩
              case measure => simp [intOf]; omega
            | none =>
              have HPK := Lib.hid (fun b t => @pick1y l k r HKK.out (by rw [HLL.out]; exact hf) b t)
              rw [findZ_none hf]
              clear hf
              go_wp2
              have hti : tickC r r.item.tick = r := rfl
              have HXO : Hid (RfInv l w wq u4 k) := HX.out
              go_loopw [11, 12] (fun m j wi => ∃ d : Nat, k + 1 + d ≤ l.length ∧ j = .int .i64 ((k + 1 + d : Nat) : Int) ∧ m = .bool (remT l r.item.id k r.item.tick d).1 ∧ Below p wq wi ∧ Bk wi p 34 (rcA (tickC r (remT l r.item.id k r.item.tick d).2))) (fun _ j _ => l.length - (intOf j).toNat)
              case atStart => exact ⟨0, by omega, by go_num, rfl, HBP3.out, HBK3.out⟩
              case round =>
                clear HBP3 HBK3 HX3
                obtain ⟨d, hd, rfl, rfl, hbi, hki⟩ := hrel
                have HBI := Lib.hid hbi
                have HXI : Hid (RfInv l w wr u4 k) := HXO.out.next (by rw [HP.out]; exact hbi)
                have HRS := Lib.hid (fun q => remT_step l r.item.id k r.item.tick d q)
                have HPK2 := Lib.hid (fun h : l.length - (k + 1) = d => HPK.out (remT l r.item.id k r.item.tick d).1 (remT l r.item.id k r.item.tick d).2 (by rw [h]))
                generalize (remT l r.item.id k r.item.tick d).1 = bm at HRS HPK2 hki
                generalize (remT l r.item.id k r.item.tick d).2 = tm at HRS HPK2 hki
                have HKI := Lib.hid hki
                clear hbi hki hti
                generalize hj : k + 1 + d = j at hd
                have HJ := Lib.hid hj
                have hkj : k + 1 ≤ j := by omega
                clear hj
                by_cases hlt2 : j < l.length
                · obtain ⟨q, hq⟩ : ∃ q, l[j]? = some q := ⟨_, List.getElem?_eq_getElem hlt2⟩
                  have hrg := range_below (HRG.out j q hq) HXI.out.1
                  have HREM := Lib.hid (HRS.out q (by rw [HJ.out]; exact hq))
                  have HRGI := Lib.hid hrg
                  have cq0 : wr.cell? ⟨b, off + j * 19, none⟩ = some (.int .i64 q.kind) := hrg 0 _ rfl
                  clear hq hrg HRS
                  generalize hkk2 : q.kind = kq at cq0 HREM
                  clear hkk2
                  by_cases hq2 : kq = 2
                  · subst hq2
                    have HDB : Hid (sameI q.id r.item.id = decide (q.id = r.item.id)) := rfl
                    generalize hdb : sameI q.id r.item.id = db at HDB
                    have HB2 := Lib.hid hdb
                    have HSS : Hid (∀ w', w'.heap = wr.heap → w'.cell? ⟨b, off + j * 19, none⟩ = some (.int .i64 2) ∧ Sem.run Try.prog (loadCellsFrom ⟨b, off + j * 19 + 12, none⟩ 0 N5 #[]) w' = .ok (idL q.id).toArray w' ∧ Sem.run Try.prog (loadCellsFrom ⟨p, 2, none⟩ 0 N5 #[]) w' = .ok (idL r.item.id).toArray w') := fun w' h =>
                      ⟨(cell_heap h).trans cq0, by rw [H5.out]; exact loadCells_range (range_part (p := 12) (n := 5) (range_heap h HRGI.out)) rfl, bk_part (r := tickC r tm) (bk_heap h HKI.out) 2 5 N5 rfl rfl H5.out⟩
                    clear hdb
                    go_wp2
                    go_region_held3 (fun w' => w'.cell? ⟨b, off + j * 19, none⟩ = some (.int .i64 2) ∧ Sem.run Try.prog (loadCellsFrom ⟨b, off + j * 19 + 12, none⟩ 0 N5 #[]) w' = .ok (idL q.id).toArray w' ∧ Sem.run Try.prog (loadCellsFrom ⟨p, 2, none⟩ 0 N5 #[]) w' = .ok (idL r.item.id).toArray w') (exact HSS.out _ rfl) (fail)
                    rw [HB2.out]
                    cases db with
                    | true =>
                      have HR2 : Hid (remT l r.item.id k r.item.tick (d + 1) = (false, tm)) := by
                        show _ = _
                        rw [HREM.out, if_pos ⟨by trivial, by have h := HDB.out; simpa using h⟩, if_neg (fun h => absurd h.1 (by decide))]
                      go_wp2
                      go_quiet (fail)
                      go_wp2
                      go_roundw
                      case rel => exact ⟨d + 1, by have := HJ.out; omega, by rw [← HJ.out]; go_num, by rw [HR2.out], jbelow_drewN HBI.out _, by rw [HR2.out]; exact HKI.out⟩
                      case measure => simp [intOf]; omega
                    | false =>
                      have HR2 : Hid (remT l r.item.id k r.item.tick (d + 1) = (bm, tm)) := by
                        show _ = _
                        rw [HREM.out, if_neg (fun h => by have h1 := HDB.out; rw [decide_eq_true h.2] at h1; cases h1), if_neg (fun h => absurd h.1 (by decide))]
                      go_wp2
                      go_quiet (fail)
                      go_wp2
                      go_roundw
                      case rel => exact ⟨d + 1, by have := HJ.out; omega, by rw [← HJ.out]; go_num, by rw [HR2.out], jbelow_drewN HBI.out _, by rw [HR2.out]; exact HKI.out⟩
                      case measure => simp [intOf]; omega
                  · by_cases hq4 : kq = 4
                    · subst hq4
                      clear hq2
                      have HDB : Hid (sameI q.id r.item.id = decide (q.id = r.item.id)) := rfl
                      generalize hdb : sameI q.id r.item.id = db at HDB
                      have HB2 := Lib.hid hdb
                      have HSS : Hid (∀ w', w'.heap = wr.heap → w'.cell? ⟨b, off + j * 19, none⟩ = some (.int .i64 4) ∧ Sem.run Try.prog (loadCellsFrom ⟨b, off + j * 19 + 12, none⟩ 0 N5 #[]) w' = .ok (idL q.id).toArray w' ∧ Sem.run Try.prog (loadCellsFrom ⟨p, 2, none⟩ 0 N5 #[]) w' = .ok (idL r.item.id).toArray w') := fun w' h =>
                        ⟨(cell_heap h).trans cq0, by rw [H5.out]; exact loadCells_range (range_part (p := 12) (n := 5) (range_heap h HRGI.out)) rfl, bk_part (r := tickC r tm) (bk_heap h HKI.out) 2 5 N5 rfl rfl H5.out⟩
                      clear hdb
                      have c1 : wr.cell? ⟨p, 1, none⟩ = some (.int .i64 tm) := HKI.out.cell 1
                      have f1 : wr.frozen? ⟨p, 1, none⟩ = false := HKI.out.free 1
                      have cq17 : wr.cell? ⟨b, off + j * 19 + 17, none⟩ = some (.int .i64 q.tick) := HRGI.out 17 _ rfl
                      go_wp2
                      go_quiet (fail)
                      go_wp2
                      go_region_held3 (fun w' => w'.cell? ⟨b, off + j * 19, none⟩ = some (.int .i64 4) ∧ Sem.run Try.prog (loadCellsFrom ⟨b, off + j * 19 + 12, none⟩ 0 N5 #[]) w' = .ok (idL q.id).toArray w' ∧ Sem.run Try.prog (loadCellsFrom ⟨p, 2, none⟩ 0 N5 #[]) w' = .ok (idL r.item.id).toArray w') (exact HSS.out _ rfl) (fail)
                      rw [HB2.out]
                      cases db with
                      | true =>
                        have HR2 : Hid (remT l r.item.id k r.item.tick (d + 1) = (bm, q.tick)) := by
                          show _ = _
                          rw [HREM.out, if_neg (fun h => absurd h.1 (by decide)), if_pos ⟨by trivial, by have h := HDB.out; simpa using h⟩]
                        go_wp2
                        go_roundw
                        case rel => exact ⟨d + 1, by have := HJ.out; omega, by rw [← HJ.out]; go_num, by rw [HR2.out], (jbelow_drewN HBI.out _).setCell (p := ⟨p, 1, none⟩) (Nat.le_refl _) _, by rw [HR2.out]; exact (bk_heap (w := wr) rfl HKI.out).put 1 _⟩
                        case measure => simp [intOf]; omega
                      | false =>
                        have HR2 : Hid (remT l r.item.id k r.item.tick (d + 1) = (bm, tm)) := by
                          show _ = _
                          rw [HREM.out, if_neg (fun h => absurd h.1 (by decide)), if_neg (fun h => by have h1 := HDB.out; rw [decide_eq_true h.2] at h1; cases h1)]
                        go_wp2
                        go_roundw
                        case rel => exact ⟨d + 1, by have := HJ.out; omega, by rw [← HJ.out]; go_num, by rw [HR2.out], jbelow_drewN HBI.out _, by rw [HR2.out]; exact HKI.out⟩
                        case measure => simp [intOf]; omega
                    · have d2 : decide (kq = 2) = false := by simpa using hq2
                      have d4 : decide (kq = 4) = false := by simpa using hq4
                      have e2 : (kq == 2) = false := by simpa using hq2
                      have e4 : (kq == 4) = false := by simpa using hq4
                      have HR2 : Hid (remT l r.item.id k r.item.tick (d + 1) = (bm, tm)) := by
                        show _ = _
                        rw [HREM.out, if_neg (fun h => hq2 h.1), if_neg (fun h => hq4 h.1)]
                      clear hq2 hq4 HREM
                      go_wp2
                      go_quiet (fail)
                      go_wp2
                      go_quiet (fail)
                      go_wp2
                      go_roundw
                      case rel => exact ⟨d + 1, by have := HJ.out; omega, by rw [← HJ.out]; go_num, by rw [HR2.out], jbelow_drewN HBI.out _, by rw [HR2.out]; exact HKI.out⟩
                      case measure => simp [intOf]; omega
                · have HJE : Hid (j = l.length) := by show _ = _; omega
                  have HPK3 := Lib.hid (HPK2.out (by have h1 := HJE.out; have h2 := HJ.out; omega))
                  clear HPK2 HRS
                  cases bm with
                  | true =>
                    have HO : Hid (refC l (k + 1) = refC l k ++ [tickC r tm]) := by show _ = _; rw [HST.out, HPK3.out]; rfl
                    go_wp2_with fail
                    have hlc := loadCells_bk (P := Try.prog) HKI.out (Jo.rcA_size _)
                    generalize tickC r tm = r2 at hlc HO
                    have hlen : (rcL r2).length = 19 := rfl
                    go_wp2_with fail
                    simp only [Try.isAgg34, Try.sizeOf34, Result.andThen, ↓reduceIte, hlc]
                    rw [Oper.upon_value]
                    clear hlc
                    go_wp2_with fail
                    refine upon_as (Result.ok (.value (.slice (some ⟨wr.heap.size, 0, none⟩) 1 1)) (wr.alloc (.cells (rcA r2) 34))) (by kernel_rfl) ?_
                    rw [Oper.upon_value]
                    obtain ⟨hi0, hz0, hz1, hz2⟩ := HI.out
                    have hrl := refC_len l k
                    go_wp2_with (at_builtin; refine wpList_append_own_at _ rfl _ _ 22 rfl w.heap.size 34 i0 (.agg (rcA zRec)) 19 160 Try.underlying22 hi0 hz0 hz1 hz2 rfl (by decide) _ _ _ rfl (HXI.out.2.alloc _) ⟨wr.heap.size, 0, none⟩ 1 1 (rcL r2) rfl rfl ?f1 ?f2 ?f3 ?f4 ?f5 ?_)
                    case f1 => exact fun j u hu => by rw [Addr.add_mid, Nat.zero_add, World.cell?_alloc_new]; simpa [rcA] using hu
                    case f2 => exact fun u hu => List.all_eq_true.1 (by simpa [rcA] using Jo.rcA_one r2) u hu
                    case f3 => unfold maxLen; omega
                    case f4 => omega
                    case f5 => have := HXI.out.1.size; simp; omega
                    intro v' w4 hown' hg' _ _
                    have HB4 : Hid (Below w.heap.size w w4) := (HXI.out.1.alloc HXI.out.1.size _).grown hg' (by have := HXI.out.1.size; simp; omega) (fun j hj => (HXI.out.2.lt j hj).1)
                    have HN : Hid (RfInv l w w4 v' (k + 1)) := RfInv.push HB4.out hown' HO.out
                    clear hown' hg' hi0 hz0 hz1 hz2 hrl
                    go_wp2
                    go_roundw
                    case rel => exact ⟨k + 1, by omega, by go_num, HN.out⟩
                    case measure => simp [intOf]; omega
                  | false =>
                    have HS : Hid (refC l (k + 1) = refC l k) := by show _ = _; rw [HST.out, HPK3.out, if_neg (by decide), List.append_nil]
                    go_wp2
                    go_roundw
                    case rel => exact ⟨k + 1, by omega, by go_num, HXI.out.skip HS.out⟩
                    case measure => simp [intOf]; omega
          · have HS : Hid (refC l (k + 1) = refC l k) := by show _ = _; rw [HST.out, pick2 (by rw [HKK.out]; decide), List.append_nil]
            go_wp2
            go_roundw
            case rel => exact ⟨k + 1, by omega, by go_num, HX2.out.skip HS.out⟩
            case measure => simp [intOf]; omega
          · have hlc := bk_part HBK2.out 2 5 N5 (rc_iid r) rfl H5.out
            go_wp2_with fail
            refine (findR_any (some b2) d2 M r.item.id _ HI2.out (by have := HLE.out; unfold maxLen; omega)).mono ?_
            rintro e w3 ⟨rfl, hb3⟩
            have HX3 : Hid (RfInv l w w3 u4 k) := HX2.out.next hb3
            have HBK3 := Lib.hid (HBK2.out.below hb3 HBK2.out.lt)
            have HBP3 : Hid (Below p wq w3) := HBP2.out.trans (hb3.mono (by have h1 := HBP2.out.size; have h2 := HP.out; omega))
            clear hlc hb3 HX2 HBK2 HBP2 c0
            cases hf : fidx M r.item.id with
            | none =>
              have HO : Hid (refC l (k + 1) = refC l k ++ [r]) := by show _ = _; rw [HST.out, pick3 HKK.out, HMM.out, if_pos hf]
              rw [findZ_none hf]
              clear hf
              have hlc := loadCells_bk (P := Try.prog) HBK3.out (Jo.rcA_size _)
              generalize r = r2 at hlc HO
              have hlen : (rcL r2).length = 19 := rfl
              go_wp2_with fail
              simp only [Try.isAgg34, Try.sizeOf34, Result.andThen, ↓reduceIte, hlc]
              rw [Oper.upon_value]
              clear hlc
              go_wp2_with fail
              refine upon_as (Result.ok (.value (.slice (some ⟨w3.heap.size, 0, none⟩) 1 1)) (w3.alloc (.cells (rcA r2) 34))) (by kernel_rfl) ?_
              rw [Oper.upon_value]
              obtain ⟨hi0, hz0, hz1, hz2⟩ := HI.out
              have hrl := refC_len l k
              go_wp2_with (at_builtin; refine wpList_append_own_at _ rfl _ _ 22 rfl w.heap.size 34 i0 (.agg (rcA zRec)) 19 160 Try.underlying22 hi0 hz0 hz1 hz2 rfl (by decide) _ _ _ rfl (HX3.out.2.alloc _) ⟨w3.heap.size, 0, none⟩ 1 1 (rcL r2) rfl rfl ?e1 ?e2 ?e3 ?e4 ?e5 ?_)
              case e1 => exact fun j u hu => by rw [Addr.add_mid, Nat.zero_add, World.cell?_alloc_new]; simpa [rcA] using hu
              case e2 => exact fun u hu => List.all_eq_true.1 (by simpa [rcA] using Jo.rcA_one r2) u hu
              case e3 => unfold maxLen; omega
              case e4 => omega
              case e5 => have := HX3.out.1.size; simp; omega
              intro v' w4 hown' hg' _ _
              have HB4 : Hid (Below w.heap.size w w4) := (HX3.out.1.alloc HX3.out.1.size _).grown hg' (by have := HX3.out.1.size; simp; omega) (fun j hj => (HX3.out.2.lt j hj).1)
              have HN : Hid (RfInv l w w4 v' (k + 1)) := RfInv.push HB4.out hown' HO.out
              clear hown' hg' hi0 hz0 hz1 hz2 hrl
              go_wp2
              go_roundw
              case rel => exact ⟨k + 1, by omega, by go_num, HN.out⟩
              case measure => simp [intOf]; omega
            | some i =>
              have hi0 : ¬ (i : Int) < 0 := by omega
              have HPK : Hid (refPick l k r = []) := by show _ = _; rw [pick3 HKK.out, HMM.out, if_neg (by rw [hf]; exact fun h => by cases h)]
              rw [findZ_some hf]
              clear hf
              have HS : Hid (refC l (k + 1) = refC l k) := by show _ = _; rw [HST.out, HPK.out, List.append_nil]
              go_wp2
              go_roundw
              case rel => exact ⟨k + 1, by omega, by go_num, HX3.out.skip HS.out⟩
              case measure => simp [intOf]; omega
          · have HS : Hid (refC l (k + 1) = refC l k) := by show _ = _; rw [HST.out, pick2 (by rw [HKK.out]; decide), List.append_nil]
            go_wp2
            go_roundw
            case rel => exact ⟨k + 1, by omega, by go_num, HX2.out.skip HS.out⟩
            case measure => simp [intOf]; omega
        · obtain ⟨A', c', rfl, hR⟩ := recs_of_row HX.out.2
          have HRA := Lib.hid hR
          have HBX := Lib.hid HX.out.1
          have HKK : Hid (k = l.length) := by show k = l.length; omega
          clear hR HX
          go_wp2
          go_ret2
          exact cmpPost_of (by unfold cmpL; rw [if_pos HKE.out, ← refC_all, ← HKK.out]) HKE.out rfl HRA.out HBX.out
end Go.Proofs.Ytlknjdfiedkhbaa
