/- The journal's reader: reading numbers through pointers, walked. What lies behind the pointers is left to the caller. Conditions: the reader lies in one block, the pointers in another; the length below the model's greatest. -/
import Derived.Test.YtlknjdfiedkhbaaJoDec
import Derived.Test.YtlknjdfiedkhbaaViRd
namespace Go.Proofs.Ytlknjdfiedkhbaa
open Go Go.RowKit
open Jo (RId Itm Rec)

/-- block g is a reader with this rest -/
def Jrd (w : World) (g : Nat) (l : List UInt8) (b : Bool) : Prop := Bk w g 93 #[.string (str l), .bool b]
theorem Jrd.c0 {w : World} {g : Nat} {l : List UInt8} {b : Bool} (h : Jrd w g l b) : w.cell? ⟨g, 0, none⟩ = some (.string (str l)) := Bk.cell h 0
theorem Jrd.c1 {w : World} {g : Nat} {l : List UInt8} {b : Bool} (h : Jrd w g l b) : w.cell? ⟨g, 1, none⟩ = some (.bool b) := Bk.cell h 1
theorem Jrd.fail {w : World} {g : Nat} {l : List UInt8} {b : Bool} (h : Jrd w g l b) : Jrd (w.setCell ⟨g, 1, none⟩ (.bool true)) g l true := Bk.put h 1 _
theorem Jrd.go {w : World} {g : Nat} {l : List UInt8} {b : Bool} (h : Jrd w g l b) (k : List UInt8) : Jrd (w.setCell ⟨g, 0, none⟩ (.string (str k))) g k b := Bk.put h 0 _
/-- the pointers -/
def PtrsAt (w : World) (ba : Nat) (ps : List Addr) : Prop := ∀ k p, ps[k]? = some p → w.cell? ⟨ba, k, none⟩ = some (.pointer (some p))
/-- what lies behind the pointers: M ns tells the memory when the numbers ns have been written -/
structure Sink (g : Nat) (ps : List Addr) (M : List Int → World → Prop) : Prop where
  put : ∀ ns n wr, M ns wr → ∀ p, ps[ns.length]? = some p → p.block ≠ g ∧ p.spot = none ∧ (∃ v, wr.cell? p = some v) ∧ wr.frozen? p = false ∧ M (ns ++ [n]) (wr.setCell p (.int .i64 n))
  keep : ∀ ns wr wr', M ns wr → wr.grownBy wr' (some g) → M ns wr'
/-- what reading leaves -/
def JoRd (g : Nat) (n : Nat) (l : List UInt8) (b : Bool) (M : List Int → World → Prop) (e : Ending) (w' : World) : Prop :=
  e = .returned (.tuple #[]) ∧ M (rdS n (l, b)).1 w' ∧ Jrd w' g (rdS n (l, b)).2.1 (rdS n (l, b)).2.2
theorem joRd_of {g n : Nat} {l : List UInt8} {b : Bool} {M : List Int → World → Prop} {w' : World} {xs : List Int} {r : List UInt8} {c : Bool} (h : rdS n (l, b) = (xs, r, c)) (h1 : M xs w') (h2 : Jrd w' g r c) : JoRd g n l b M (.returned (.tuple #[])) w' := by
  unfold JoRd
  rw [h]
  exact ⟨rfl, h1, h2⟩
theorem rdN_err {n : Nat} {l : List UInt8} (h : (Vi.rd l).2.2 ≠ 0) : rdN (n + 1) l = ([], l, true) := by rw [rdN, if_neg h]
theorem rdN_one {l : List UInt8} (h : (Vi.rd l).2.2 = 0) : rdN 1 l = ([(Vi.rd l).1], l.drop (Vi.rd l).2.1, false) := by rw [rdN, if_pos h]; rfl
theorem rdN_next {k : Nat} {l : List UInt8} {ns : List Int} {r : List UInt8} {n : Int} {j : Nat} (h : rdN k l = (ns, r, false)) (hr : Vi.rd r = (n, j, 0)) : rdN (k + 1) l = (ns ++ [n], r.drop j, false) := by
  rw [rdN_add k 1 l (by rw [h]), h, rdN_one (by rw [hr])]
  simp [hr]
theorem rdN_stop {k m : Nat} {l : List UInt8} {ns : List Int} {r : List UInt8} {n : Int} {j : Nat} {e : Int} (h : rdN k l = (ns, r, false)) (hr : Vi.rd r = (n, j, e)) (he : e ≠ 0) (hm : k < m) : rdN m l = (ns, r, true) := by
  obtain ⟨d, rfl⟩ : ∃ d, m = k + (d + 1) := ⟨m - k - 1, by omega⟩
  rw [rdN_add k (d + 1) l (by rw [h]), h, rdN_err (by rw [hr]; exact he)]
  simp
theorem PtrsAt.keep {w w' : World} {ba : Nat} {ps : List Addr} {row : Option Nat} (h : PtrsAt w ba ps) (hg : w.grownBy w' row) (hne : some ba ≠ row) : PtrsAt w' ba ps := fun k p hk => by
  have hlt := World.block_lt_of_cell? _ _ (h k p hk)
  have e := hg.block ba hlt hne
  have := h k p hk
  unfold World.cell? at this ⊢
  simp only at this ⊢
  rw [e]
  exact this

set_option maxHeartbeats 4000000 in
set_option maxRecDepth 100000 in
theorem jread_any (g ba cap : Nat) (ps : List Addr) (l : List UInt8) (b : Bool) (M : List Int → World → Prop) (w : World) (hl : l.length ≤ maxLen) (hR : Jrd w g l b) (hP : PtrsAt w ba ps) (hS : Sink g ps M) (hM : M [] w)
    (hn : 0 < ps.length) (hn2 : ps.length ≤ 100) (hbg : ba ≠ g) (hbp : ∀ p ∈ ps, p.block ≠ ba) :
    Calls Try.prog 72 #[.pointer (some ⟨g, 0, none⟩), .slice (some ⟨ba, 0, none⟩) ps.length cap] w (JoRd g ps.length l b M) := by
  have HR := Lib.hid hR
  have HP := Lib.hid hP
  have HS := Lib.hid hS
  have HM := Lib.hid hM
  have HBP := Lib.hid hbp
  have HL := Lib.hid hl
  clear hR hP hS hM hbp hl
  go_enter Try.func72, Try.ntmps72
  go_wp2
  go_loopw [5, 6, 7, 8, 11] (fun _ _ _ _ i wr => ∃ (k : Nat) (ns : List Int) (r : List UInt8), i = .int .i64 k ∧ k ≤ ps.length ∧ Jrd wr g r b ∧ M ns wr ∧ PtrsAt wr ba ps ∧ ns.length = k ∧ r.length ≤ l.length ∧ rdN k l = (ns, r, false) ∧ (b = true → k = 0)) (fun _ _ _ _ i _ => ps.length - (intOf i).toNat)
  case atStart => exact ⟨0, [], l, rfl, Nat.zero_le _, HR.out, HM.out, HP.out, rfl, Nat.le_refl _, rfl, fun _ => rfl⟩
  case round =>
    clear HR HM HP
    obtain ⟨k, ns, r, rfl, hk, hJ, hM, hP, hns, hrl, hrd, hb0⟩ := hrel
    have HJ := Lib.hid hJ
    have HM := Lib.hid hM
    have HP := Lib.hid hP
    have HNS := Lib.hid hns
    have HRL := Lib.hid hrl
    have HRD := Lib.hid hrd
    have HB0 := Lib.hid hb0
    clear hJ hM hP hns hrl hrd hb0
    by_cases hlt : k < ps.length
    · obtain ⟨p, hp⟩ : ∃ p, ps[k]? = some p := ⟨_, List.getElem?_eq_getElem hlt⟩
      have HPK := Lib.hid hp
      have hc := HP.out k p hp
      have HNB := Lib.hid (HBP.out p (List.mem_of_getElem? hp))
      clear hp
      have c0 := HJ.out.c0
      have hsz : (str r).size ≤ maxLen := by rw [str_size]; exact Nat.le_trans HRL.out HL.out
      obtain ⟨n, j, er, hrr⟩ : ∃ n j e, Vi.rd r = (n, j, e) := ⟨_, _, _, rfl⟩
      have HC := Lib.hid (fun w => readInt_any (str r) hsz w)
      have h3 := rd3_of (l := (str r).data.toList) hrr
      rw [h3] at HC
      have HRR := Lib.hid hrr
      have hjle : er = 0 → j ≤ (str r).size := fun e => by subst e; have := (Vi.rd_canon HRR.out).2.2.1; rw [str_size]; exact this
      unfold maxLen at hsz
      have HSZ := Lib.hid hsz
      clear hrr h3 hsz
      have HJL := Lib.hid hjle
      clear hjle
      go_wp2_with fail
      refine (HC.out _).mono ?_
      rintro e w1 ⟨rfl, hb1⟩
      have HG1 := Lib.hid (grown_below hb1 (some g))
      have HJ1 := Lib.hid (Bk.below HJ.out hb1 (Bk.lt HJ.out))
      have HM1 := Lib.hid (HS.out.keep ns _ _ HM.out HG1.out)
      have HP1 := Lib.hid (HP.out.keep (grown_below hb1 none) (by simp))
      clear hb1 HG1 HM HJ HP hc c0 HC
      have HJ2 : Hid (Jrd w1 g r b) := HJ1.out
      clear HJ1
      have c1 := HJ2.out.c1
      have c0 := HJ2.out.c0
      have f1 : w1.frozen? ⟨g, 1, none⟩ = false := Bk.free HJ2.out 1
      have HF0 : Hid (w1.frozen? ⟨g, 0, none⟩ = false) := Bk.free HJ2.out 0
      cases b with
      | true =>
        have HX : Hid (rdS ps.length (l, true) = ([], l, true)) := rfl
        obtain rfl : k = 0 := HB0.out rfl
        have HE : Hid (ns = [] ∧ r = l) := by
          have h := HRD.out
          simp only [rdN, Prod.mk.injEq] at h
          exact ⟨h.1.symm, h.2.1.symm⟩
        go_wp2
        go_end0
        refine joRd_of HX.out ?_ ?_
        · have := HS.out.keep ns _ _ HM1.out (grown_put _ g 1 (.bool true))
          rwa [HE.out.1] at this
        · have := HJ2.out.fail
          rwa [HE.out.2] at this
      | false =>
        by_cases he : er = 0
        · subst he
          have hj := HJL.out rfl
          have HS2 : Hid (rdN (k + 1) l = (ns ++ [n], r.drop j, false)) := rdN_next HRD.out HRR.out
          obtain ⟨q1, q2, q3, q4, q5⟩ := HS.out.put ns n w1 HM1.out p (by rw [HNS.out]; exact HPK.out)
          obtain ⟨pb, po, psp⟩ := p
          simp only at q1 q2
          subst q2
          obtain ⟨v, hv⟩ := q3
          have Q5 := Lib.hid q5
          have Q1 := Lib.hid q1
          have hsl : (str r).extract j (str r).size = str (r.drop j) := by
            have := ex_str (str r) j (str r).size
            rw [this, str_list, List.take_of_length_le (by rw [List.length_drop, str_size]; exact Nat.le_refl _)]
          have c0' : (w1.setCell ⟨pb, po, none⟩ (.int .i64 n)).cell? ⟨g, 0, none⟩ = some (.string (str r)) := (World.cell?_setCell_other _ _ _ _ (fun e => Q1.out (by cases e; rfl))).trans c0
          have f0' : (w1.setCell ⟨pb, po, none⟩ (.int .i64 n)).frozen? ⟨g, 0, none⟩ = false := by
            have h2 : Jrd (w1.setCell ⟨pb, po, none⟩ (.int .i64 n)) g r false := Bk.other HJ2.out (p := ⟨pb, po, none⟩) (fun e => Q1.out e.symm) _
            exact Bk.free h2 0
          clear q5 q1 c0
          have hsz2 := HSZ.out
          have HC2 := Lib.hid hsl
          clear hsl
          go_wp2
          rw [HC2.out]
          have HJ3 : Hid (Jrd ((w1.setCell ⟨pb, po, none⟩ (.int .i64 n)).setCell ⟨g, 0, none⟩ (.string (str (r.drop j)))) g (r.drop j) false) :=
            Jrd.go (Bk.other HJ2.out (p := ⟨pb, po, none⟩) (fun e => Q1.out e.symm) _) _
          have HM3 : Hid (M (ns ++ [n]) ((w1.setCell ⟨pb, po, none⟩ (.int .i64 n)).setCell ⟨g, 0, none⟩ (.string (str (r.drop j))))) := HS.out.keep _ _ _ Q5.out (grown_put _ g 0 _)
          have HP3 : Hid (PtrsAt ((w1.setCell ⟨pb, po, none⟩ (.int .i64 n)).setCell ⟨g, 0, none⟩ (.string (str (r.drop j)))) ba ps) :=
            (HP1.out.keep (row := some pb) (grown_put _ pb po _) (fun e => HNB.out (by cases e; rfl))).keep (grown_put _ g 0 _) (fun e => hbg (by cases e; rfl))
          go_roundw
          case rel => exact ⟨k + 1, ns ++ [n], r.drop j, by go_num, by omega, HJ3.out, HM3.out, HP3.out, by simp [HNS.out], by rw [List.length_drop]; have := HRL.out; omega, HS2.out, fun h => absurd h (by decide)⟩
          case measure => simp [intOf]; omega
        · have HE := Lib.hid (rdN_stop HRD.out HRR.out he hlt)
          have heb : (er != 0) = true := by rw [bne_iff_ne]; exact he
          clear he c0
          go_wp2
          go_end0
          exact joRd_of (by unfold rdS; exact HE.out) (HS.out.keep ns _ _ HM1.out (grown_put _ g 1 (.bool true))) HJ2.out.fail
    · have HK : Hid (k = ps.length) := by show _ = _; omega
      go_wp2
      go_end0
      exact joRd_of (b := b) (by
        cases b with
        | false => unfold rdS; rw [← HK.out]; exact HRD.out
        | true => exact absurd (HB0.out rfl) (by omega)) HM.out (by
        cases b with
        | false => exact HJ.out
        | true => exact absurd (HB0.out rfl) (by omega))
end Go.Proofs.Ytlknjdfiedkhbaa
