/- Append of the program and of the reference, walked. Conditions: at most 16 records that lie in memory; a string of at most 70000 bytes; lengths below the model's greatest. -/
import Derived.Test.YtlknjdfiedkhbaaJoRecs2
import Derived.Test.YtlknjdfiedkhbaaJoEncR
namespace Go.Proofs.Ytlknjdfiedkhbaa
open Go Go.RowKit
open Jo (RId Itm Rec wi vId ckI ck zId zIt idA itA rcA rcL)
attribute [-simp] Try.isAgg34 Try.sizeOf34 Try.typeInfo34

def catL (l : List Rec) : List UInt8 := (l.map recL).flatten
def errL : List Rec → Int
  | [] => 0
  | r :: l => if recE r = 0 then errL l else recE r
/-- what Append answers -/
def appL (s : List UInt8) (l : List Rec) : List UInt8 := if errL l = 0 ∧ (s ++ catL l).length ≤ 65536 then s ++ catL l else []
def appE (s : List UInt8) (l : List Rec) : Int := if errL l = 0 then (if (s ++ catL l).length ≤ 65536 then 0 else 4) else errL l
theorem seal_len13 (l : List UInt8) : (sealL l).length ≤ 65549 := by
  by_cases h : l.length ≤ 65536
  · have := seal_len h; omega
  · unfold sealL; rw [if_neg h]; simp
theorem rec_len (r : Rec) : (recL r).length ≤ 65549 := by
  unfold recL
  split
  · exact seal_len13 _
  · simp
theorem cat_len : ∀ l : List Rec, (catL l).length ≤ 65549 * l.length
  | [] => by simp [catL]
  | r :: l => by
    have h := cat_len l
    have hr := rec_len r
    simp only [catL, List.map_cons, List.flatten_cons, List.length_append, List.length_cons] at h ⊢
    omega
theorem cat_snoc (l : List Rec) (k : Nat) (r : Rec) (h : l[k]? = some r) : catL (l.take (k + 1)) = catL (l.take k) ++ recL r := by
  have hk : k < l.length := (List.getElem?_eq_some_iff.1 h).1
  have e : l[k] = r := (List.getElem?_eq_some_iff.1 h).2
  rw [List.take_succ_eq_append_getElem hk, e]
  simp [catL]
theorem err_append : ∀ (a b : List Rec), errL a = 0 → errL (a ++ b) = errL b
  | [], _, _ => rfl
  | r :: a, b, h => by
    by_cases c : recE r = 0
    · simp only [errL, c, if_true, List.cons_append] at h ⊢
      exact err_append a b h
    · simp only [errL, c, if_false] at h
theorem err_split (l : List Rec) (k : Nat) (r : Rec) (h : l[k]? = some r) (h0 : errL (l.take k) = 0) : (recE r = 0 → errL (l.take (k + 1)) = 0) ∧ (recE r ≠ 0 → errL l = recE r) := by
  have hk : k < l.length := (List.getElem?_eq_some_iff.1 h).1
  have e : l[k] = r := (List.getElem?_eq_some_iff.1 h).2
  constructor
  · intro c
    rw [List.take_succ_eq_append_getElem hk, err_append _ _ h0, e]
    simp [errL, c]
  · intro c
    have hs : l = l.take k ++ r :: l.drop (k + 1) := by rw [← e, List.getElem_cons_drop, List.take_append_drop]
    rw [hs, err_append _ _ h0]
    simp [errL, c]
/-- what the loop keeps -/
def AppInv (s : List UInt8) (l : List Rec) (w wr : World) (k : Nat) : Prop := Bld w.heap.size w.heap.size (s ++ catL (l.take k)) wr ∧ Below w.heap.size w wr ∧ errL (l.take k) = 0

set_option maxHeartbeats 2000000 in
set_option maxRecDepth 100000 in
theorem append_any (s : ByteArray) (A : Option Addr) (cA : Nat) (l : List Rec) (w : World) (hs : s.size ≤ 70000) (hl : l.length ≤ 65536) (hd : ∀ r ∈ l, r.item.data.size ≤ maxLen) (hA : RecsAt w A l) :
    Calls Try.prog 22 #[.string s, .slice A l.length cA] w fun e w' => e = .returned (.tuple #[.string (str (appL s.data.toList l)), .int .i64 (appE s.data.toList l)]) ∧ Below w.heap.size w w' := by
  have HA := Lib.hid hA
  have HD := Lib.hid hd
  have hz := (zero_of_info infoRec).1
  have HZ := Lib.hid hz
  clear hA hd hz
  have hsl : s.data.toList.length = s.size := by simp
  have HSL := Lib.hid hsl
  clear hsl
  have B0 := bld_new w
  have HB0 : Hid (Below w.heap.size w (w.alloc (.cells #[.pointer none, .slice none 0 0] 72))) := (Below.refl _ _).alloc (Nat.le_refl _) _
  go_enter Try.func22, Try.ntmps22
  go_wp2_with fail
  refine (bld_write w.heap.size w.heap.size [] s _ B0 (by simp; omega) HB0.out.size).mono ?_
  rintro e w1 ⟨⟨v, rfl⟩, h1, hb1⟩
  have HI0 : Hid (AppInv s.data.toList l w w1 0) := ⟨by simpa [catL] using h1, HB0.out.trans hb1, rfl⟩
  clear B0 HB0 h1 hb1
  go_wp2
  go_loopw [8, 9, 10, 15] (fun _ _ _ i wr => ∃ k : Nat, k ≤ l.length ∧ i = .int .i64 k ∧ AppInv s.data.toList l w wr k) (fun _ _ _ i _ => l.length - (intOf i).toNat)
  case atStart => exact ⟨0, Nat.zero_le _, rfl, HI0.out⟩
  case round =>
    clear HI0
    obtain ⟨k, hk, rfl, hinv⟩ := hrel
    have HX := Lib.hid hinv
    clear hinv
    by_cases hlt : k < l.length
    · obtain ⟨b, off, rfl, hr⟩ := HA.out.one (by omega)
      obtain ⟨r, hrk⟩ : ∃ r, l[k]? = some r := ⟨_, List.getElem?_eq_getElem hlt⟩
      have HRK := Lib.hid hrk
      have hrg := range_below (hr k r hrk) (HX.out.2.1.mono (Nat.le_refl _))
      have HRG := Lib.hid hrg
      have hlc := loadCells_range (P := Try.prog) hrg (n := 19) rfl
      clear hr hrk hrg
      have hsc : Sem.run Try.prog (storeCells ⟨wr.heap.size, 0, none⟩ (rcL r)) (wr.alloc (.cells (rcA zRec) 34)) = .ok () (wr.alloc (.cells (rcA r) 34)) := run_storeCells_new (P := Try.prog) wr 34 (rcA zRec) (rcA r) sizeRec rfl (Jo.rcA_one r)
      have hlc2 := loadCells_bk (P := Try.prog) (Bk.new wr 34 (rcA r)) (Jo.rcA_size r)
      have hz := HZ.out
      have hlen : (rcL r).length = 19 := rfl
      have HN := Lib.hid (encode_any r (HD.out r (List.mem_of_getElem? HRK.out)))
      have hlr := rec_len r
      rw [← str_size] at hlr
      have HSP := Lib.hid (err_split l k r HRK.out HX.out.2.2)
      have HCS := Lib.hid (cat_snoc l k r HRK.out)
      have HLE := Lib.hid (cat_len (l.take k))
      generalize hRL : str (recL r) = RL at HN hlr
      have HRL := Lib.hid hRL
      have HLR := Lib.hid hlr
      clear hRL hlr
      generalize recE r = q at HN HSP
      go_wp2_with fail
      simp only [Try.sizeOf34, Result.andThen]
      rw [Oper.upon_value]
      go_wp2_with fail
      simp only [Try.isAgg34, Try.sizeOf34, Result.andThen, ↓reduceIte, hlc]
      rw [Oper.upon_value]
      clear hlc
      go_wp2_with fail
      simp only [Try.sizeOf34, Result.andThen, ↓reduceIte, hsc]
      rw [Oper.upon_skip]
      clear hsc hz hlen
      go_wp2_with fail
      simp only [Try.isAgg34, Try.sizeOf34, Result.andThen, ↓reduceIte, hlc2]
      rw [Oper.upon_value]
      clear hlc2
      go_wp2_with fail
      refine (HN.out _).mono ?_
      rintro e w1 ⟨rfl, hb1⟩
      replace hb1 := below_box1 hb1
      have HX1 : Hid (AppInv s.data.toList l w w1 k) := ⟨HX.out.1.below hb1, HX.out.2.1.trans (hb1.mono HX.out.2.1.size), HX.out.2.2⟩
      clear hb1
      by_cases hq : q = 0
      · subst hq
        have HE := Lib.hid (HSP.out.1 rfl)
        clear HSP
        go_wp2_with fail
        refine (bld_write w.heap.size w.heap.size (s.data.toList ++ catL (l.take k)) RL w1 HX1.out.1 (by have h1 := HLE.out; have h2 := HLR.out; have h3 := HSL.out; rw [List.length_take] at h1; rw [List.length_append]; omega) HX1.out.2.1.size).mono ?_
        rintro e w2 ⟨⟨v2, rfl⟩, h2, hb2⟩
        have HX2 : Hid (AppInv s.data.toList l w w2 (k + 1)) := ⟨by rw [HCS.out, ← List.append_assoc]; rw [← HRL.out, str_list] at h2; exact h2, HX1.out.2.1.trans hb2, HE.out⟩
        clear h2 hb2
        go_wp2
        go_roundw
        case rel => exact ⟨k + 1, by omega, by go_num, HX2.out⟩
        case measure => simp [intOf]; omega
      · have HE := Lib.hid (HSP.out.2 hq)
        have hqb : (q != 0) = true := by rw [bne_iff_ne]; exact hq
        have HQ := Lib.hid hq
        clear hq HSP
        go_wp2
        go_ret2
        exact ⟨two_e (by unfold appL; rw [HE.out, if_neg (fun h => HQ.out h.1)]; rfl) (by unfold appE; rw [HE.out, if_neg HQ.out]), HX1.out.2.1⟩
    · have HK : Hid (k = l.length) := by show k = l.length; omega
      have HF : Hid (Bld w.heap.size w.heap.size (s.data.toList ++ catL l) wr ∧ errL l = 0) := by
        have h := HX.out
        unfold AppInv at h
        rw [HK.out, List.take_length] at h
        exact ⟨h.1, h.2.2⟩
      go_wp2_with fail
      refine (bld_len w.heap.size w.heap.size (s.data.toList ++ catL l) wr HF.out.1).mono ?_
      rintro e w1 ⟨rfl, rfl⟩
      have HB := Lib.hid HX.out.2.1
      clear HX
      by_cases hm : (s.data.toList ++ catL l).length ≤ 65536
      · have hm2 : ¬ (65536 : Int) < ((s.data.toList ++ catL l).length : Int) := by omega
        have HM := Lib.hid hm
        clear hm
        generalize hML : (s.data.toList ++ catL l).length = ML at hm2 ⊢
        have HML := Lib.hid hML
        clear hML
        go_wp2_with fail
        refine (bld_string w.heap.size w.heap.size (s.data.toList ++ catL l) wr HF.out.1 HB.out.size).mono ?_
        rintro e w1 ⟨rfl, hb1⟩
        have HB1 := Lib.hid (HB.out.trans hb1)
        clear hb1
        go_wp2
        go_ret2
        exact ⟨two_e (by unfold appL; rw [if_pos ⟨HF.out.2, HM.out⟩]) (by unfold appE; rw [if_pos HF.out.2, if_pos HM.out]), HB1.out⟩
      · have hm2 : (65536 : Int) < ((s.data.toList ++ catL l).length : Int) := by omega
        have HM := Lib.hid hm
        clear hm
        generalize hML : (s.data.toList ++ catL l).length = ML at hm2 ⊢
        clear hML
        go_wp2
        go_ret2
        exact ⟨two_e (by unfold appL; rw [if_neg (fun h => HM.out h.2)]; rfl) (by unfold appE; rw [if_pos HF.out.2, if_neg HM.out]), HB.out⟩

set_option maxHeartbeats 2000000 in
set_option maxRecDepth 100000 in
theorem appendR_any (s : ByteArray) (A : Option Addr) (cA : Nat) (l : List Rec) (w : World) (hs : s.size ≤ 70000) (hl : l.length ≤ 16) (hd : ∀ r ∈ l, r.item.data.size ≤ maxLen) (hA : RecsAt w A l) :
    Calls Try.prog 23 #[.string s, .slice A l.length cA] w fun e w' => e = .returned (.tuple #[.string (str (appL s.data.toList l)), .int .i64 (appE s.data.toList l)]) ∧ Below w.heap.size w w' := by
  have HA := Lib.hid hA
  have HD := Lib.hid hd
  clear hA hd
  have hsl : s.data.toList.length = s.size := by simp
  have HSL := Lib.hid hsl
  clear hsl
  have H0 : Hid (s = str (s.data.toList ++ catL (l.take 0))) := by show s = _; simp [catL]; rfl
  go_enter Try.func23, Try.ntmps23
  go_wp2
  go_loopw [0, 6] (fun o i wr => ∃ k : Nat, k ≤ l.length ∧ i = .int .i64 k ∧ o = .string (str (s.data.toList ++ catL (l.take k))) ∧ Below w.heap.size w wr ∧ errL (l.take k) = 0) (fun _ i _ => l.length - (intOf i).toNat)
  case atStart => exact ⟨0, Nat.zero_le _, rfl, by rw [← H0.out], Below.refl _ _, rfl⟩
  case round =>
    obtain ⟨k, hk, rfl, rfl, hbw, her⟩ := hrel
    have HB := Lib.hid hbw
    have HER := Lib.hid her
    have HLE := Lib.hid (cat_len (l.take k))
    clear hbw her
    by_cases hlt : k < l.length
    · obtain ⟨b, off, rfl, hr⟩ := HA.out.one (by omega)
      obtain ⟨r, hrk⟩ : ∃ r, l[k]? = some r := ⟨_, List.getElem?_eq_getElem hlt⟩
      have HRK := Lib.hid hrk
      have hlc := loadCells_range (P := Try.prog) (range_below (hr k r hrk) HB.out) (n := 19) rfl
      clear hr hrk
      have HN := Lib.hid (encodeR_any r (HD.out r (List.mem_of_getElem? HRK.out)))
      have hlr := rec_len r
      rw [← str_size] at hlr
      have HSP := Lib.hid (err_split l k r HRK.out HER.out)
      have HCS : Hid (str (s.data.toList ++ catL (l.take (k + 1))) = str (s.data.toList ++ catL (l.take k)) ++ str (recL r)) := by
        show _ = _
        rw [cat_snoc l k r HRK.out, str_append, List.append_assoc]
      have hol : (str (s.data.toList ++ catL (l.take k))).size ≤ 2000000 := by
        have h1 := HLE.out; have h3 := HSL.out; rw [List.length_take] at h1; rw [str_size, List.length_append]; omega
      generalize str (recL r) = RL at HN hlr HCS
      generalize str (s.data.toList ++ catL (l.take k)) = O at HCS hol
      have hsz : O.size + RL.size ≤ 3000000 := by omega
      clear hlr hol
      generalize recE r = q at HN HSP
      go_wp2_with fail
      simp only [Try.sizeOf34, Result.andThen]
      rw [Oper.upon_value]
      go_wp2_with fail
      simp only [Try.isAgg34, Try.sizeOf34, Result.andThen, ↓reduceIte, hlc]
      rw [Oper.upon_value]
      clear hlc
      go_wp2_with fail
      refine (HN.out _).mono ?_
      rintro e w1 ⟨rfl, hb1⟩
      replace HB := Lib.hid (HB.out.trans (hb1.mono HB.out.size))
      clear hb1
      by_cases hq : q = 0
      · subst hq
        have HE := Lib.hid (HSP.out.1 rfl)
        clear HSP
        go_wp2
        go_roundw
        case rel => exact ⟨k + 1, by omega, by go_num, by rw [HCS.out], HB.out, HE.out⟩
        case measure => simp [intOf]; omega
      · have HE := Lib.hid (HSP.out.2 hq)
        have hqb : (q != 0) = true := by rw [bne_iff_ne]; exact hq
        have HQ := Lib.hid hq
        clear hq HSP
        go_wp2
        go_ret2
        exact ⟨two_e (by unfold appL; rw [HE.out, if_neg (fun h => HQ.out h.1)]; rfl) (by unfold appE; rw [HE.out, if_neg HQ.out]), HB.out⟩
    · have HK : Hid (k = l.length) := by show k = l.length; omega
      have HF : Hid (errL l = 0) := by
        have h := HER.out
        rw [HK.out, List.take_length] at h
        exact h
      have HL : Hid (catL (l.take k) = catL l) := by show _ = _; rw [HK.out, List.take_length]
      rw [HL.out]
      clear HL HER HLE
      have hss : (str (s.data.toList ++ catL l)).size = (s.data.toList ++ catL l).length := str_size _
      by_cases hm : (s.data.toList ++ catL l).length ≤ 65536
      · have HM := Lib.hid hm
        have hm2 : ¬ (65536 : Int) < ((str (s.data.toList ++ catL l)).size : Int) := by omega
        clear hm hss
        have HV : Hid (str (appL s.data.toList l) = str (s.data.toList ++ catL l)) := by show _ = _; unfold appL; rw [if_pos ⟨HF.out, HM.out⟩]
        generalize str (s.data.toList ++ catL l) = O at hm2 HV ⊢
        go_wp2
        go_ret2
        exact ⟨two_e HV.out.symm (by unfold appE; rw [if_pos HF.out, if_pos HM.out]), HB.out⟩
      · have HM := Lib.hid hm
        have hm2 : (65536 : Int) < ((str (s.data.toList ++ catL l)).size : Int) := by omega
        clear hm hss
        have HV : Hid (str (appL s.data.toList l) = ⟨#[]⟩) := by show _ = _; unfold appL; rw [if_neg (fun h => HM.out h.2)]; rfl
        generalize str (s.data.toList ++ catL l) = O at hm2 ⊢
        go_wp2
        go_ret2
        exact ⟨two_e HV.out.symm (by unfold appE; rw [if_pos HF.out, if_neg HM.out]), HB.out⟩
end Go.Proofs.Ytlknjdfiedkhbaa
