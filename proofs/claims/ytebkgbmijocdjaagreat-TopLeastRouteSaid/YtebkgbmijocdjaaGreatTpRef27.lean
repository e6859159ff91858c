/- The reference's checks of bookings, walked: what their OK tells. Condition: the plan and the bookings lie in memory.
The reference's Check of bookings, walked: what its OK tells. Condition: the plan and the bookings lie in memory.
The reference's words on holds, walked: Valid, Less, Stored, fits. Condition: the plan and the holds lie in memory.
The reference's Stored and fits, walked; what fits tells. Condition: the plan and the holds lie in memory.
The reference's fits and Check of holds, walked: what its OK tells. Condition: the plan and the holds lie in memory.
The reference's checks of tables and requests, walked: what their OK tells. Condition: they lie in memory. -/
import Derived.Test.YtebkgbmijocdjaaGreatTpRef22
namespace Go.Proofs.YtebkgbmijocdjaaGreat.Tp
open Go Go.RowKit

/-- a truth value; true tells P -/
def RefBool (P : Prop) (w : World) (e : Ending) (w' : World) : Prop := ∃ v : Bool, e = .returned (.bool v) ∧ (v = true → P) ∧ Below w.heap.size w w'
theorem refBool_no {P : Prop} {w w' : World} (hb : Below w.heap.size w w') : RefBool P w (.returned (.bool false)) w' := ⟨false, rfl, (fun h => by cases h), hb⟩
theorem refBool_of {P : Prop} {w w' : World} {v : Bool} (h : v = true → P) (hb : Below w.heap.size w w') : RefBool P w (.returned (.bool v)) w' := ⟨v, rfl, h, hb⟩
/-- the four cells of a booking's box -/
abbrev bkA (b : Bkg) : Array Value := #[.int .i64 b.ct, .int .i64 b.beg, .int .i64 b.fin, .int .i64 b.tick]

set_option maxHeartbeats 4000000 in
set_option maxRecDepth 100000 in
theorem ref27valid_any (Aq : Option Addr) (cq : Nat) (Ac : Option Addr) (cc : Nat) (p : Pln) (b : Bkg) (w : World) (hp : PlnAt w Aq cq Ac cc p) :
    Calls Tryz.prog 130 #[.agg #[.slice Aq p.q.length cq, .slice Ac p.c.length cc], .agg #[.int .i64 b.ct, .int .i64 b.beg, .int .i64 b.fin, .int .i64 b.tick]] w (RefBool (BkgOK p b) w) := by
  have HP := Lib.hid hp
  have HM : Hid (p.c.length ≤ 9223372036854775807) := hp.cm
  have HO : Hid (BkgOK p b ↔ (0 ≤ b.tick ∧ b.tick ≤ 1152921504606846976) ∧ 0 ≤ b.ct ∧ ∃ c, p.c[b.ct.toNat]? = some c ∧ c.beg ≤ b.beg ∧ b.beg < b.fin ∧ b.fin ≤ c.fin) := Iff.rfl
  generalize BkgOK p b = Q at HO ⊢
  obtain ⟨b1, b2, b3, b4⟩ := b
  simp only at HO ⊢
  have HB0 : Hid (Below w.heap.size w ((w.alloc (.cells #[.slice Aq p.q.length cq, .slice Ac p.c.length cc] 25)).alloc (.cells #[.int .i64 b1, .int .i64 b2, .int .i64 b3, .int .i64 b4] 95))) := ((Below.refl _ _).alloc (Nat.le_refl _) _).alloc (by simp) _
  have hm := HM.out
  clear hp
  by_cases h1 : b1 < 0
  · go_enter Tryz.func130, Tryz.ntmps130
    go_wp2
    go_ret
    exact refBool_no HB0.out
  · obtain ⟨k, rfl⟩ : ∃ k : Nat, b1 = (k : Int) := ⟨b1.toNat, by omega⟩
    by_cases h2 : p.c.length ≤ k
    · have d1 : decide ((k : Int) ≥ (p.c.length : Int)) = true := by simp; omega
      go_enter Tryz.func130, Tryz.ntmps130
      go_wp2
      go_ret
      exact refBool_no HB0.out
    · have d1 : decide ((k : Int) ≥ (p.c.length : Int)) = false := by simp; omega
      have hk : k < p.c.length := by omega
      by_cases h3 : b4 < 0
      · go_enter Tryz.func130, Tryz.ntmps130
        go_wp2
        go_ret
        exact refBool_no HB0.out
      · by_cases h4 : 1152921504606846976 < b4
        · go_enter Tryz.func130, Tryz.ntmps130
          go_wp2
          go_ret
          exact refBool_no HB0.out
        · have HT : Hid (0 ≤ b4 ∧ b4 ≤ 1152921504606846976) := ⟨by omega, by omega⟩
          obtain ⟨b, off, rfl, hr⟩ := HP.out.c.one (by omega)
          obtain ⟨r, hrk⟩ : ∃ r, p.c[k]? = some r := ⟨_, List.getElem?_eq_getElem hk⟩
          have HRK := Lib.hid hrk
          have hrg : ((w.alloc (.cells #[.slice Aq p.q.length cq, .slice (some ⟨b, off, none⟩) p.c.length cc] 25)).alloc (.cells #[.int .i64 (k : Int), .int .i64 b2, .int .i64 b3, .int .i64 b4] 95)).rangeAt b (off + k * 7) (ctE.f r) := range_below (hr k r hrk) HB0.out
          have c0 : ((w.alloc (.cells #[.slice Aq p.q.length cq, .slice (some ⟨b, off, none⟩) p.c.length cc] 25)).alloc (.cells #[.int .i64 (k : Int), .int .i64 b2, .int .i64 b3, .int .i64 b4] 95)).cell? ⟨b, off + k * 7, none⟩ = some (.int .i64 r.src) := hrg 0 _ rfl
          have c1 : ((w.alloc (.cells #[.slice Aq p.q.length cq, .slice (some ⟨b, off, none⟩) p.c.length cc] 25)).alloc (.cells #[.int .i64 (k : Int), .int .i64 b2, .int .i64 b3, .int .i64 b4] 95)).cell? ⟨b, off + k * 7 + 1, none⟩ = some (.int .i64 r.dst) := hrg 1 _ rfl
          have c2 : ((w.alloc (.cells #[.slice Aq p.q.length cq, .slice (some ⟨b, off, none⟩) p.c.length cc] 25)).alloc (.cells #[.int .i64 (k : Int), .int .i64 b2, .int .i64 b3, .int .i64 b4] 95)).cell? ⟨b, off + k * 7 + 2, none⟩ = some (.int .i64 r.beg) := hrg 2 _ rfl
          have c3 : ((w.alloc (.cells #[.slice Aq p.q.length cq, .slice (some ⟨b, off, none⟩) p.c.length cc] 25)).alloc (.cells #[.int .i64 (k : Int), .int .i64 b2, .int .i64 b3, .int .i64 b4] 95)).cell? ⟨b, off + k * 7 + 3, none⟩ = some (.int .i64 r.fin) := hrg 3 _ rfl
          have c4 : ((w.alloc (.cells #[.slice Aq p.q.length cq, .slice (some ⟨b, off, none⟩) p.c.length cc] 25)).alloc (.cells #[.int .i64 (k : Int), .int .i64 b2, .int .i64 b3, .int .i64 b4] 95)).cell? ⟨b, off + k * 7 + 4, none⟩ = some (.int .i64 r.rate) := hrg 4 _ rfl
          have c5 : ((w.alloc (.cells #[.slice Aq p.q.length cq, .slice (some ⟨b, off, none⟩) p.c.length cc] 25)).alloc (.cells #[.int .i64 (k : Int), .int .i64 b2, .int .i64 b3, .int .i64 b4] 95)).cell? ⟨b, off + k * 7 + 5, none⟩ = some (.int .i64 r.rng) := hrg 5 _ rfl
          have c6 : ((w.alloc (.cells #[.slice Aq p.q.length cq, .slice (some ⟨b, off, none⟩) p.c.length cc] 25)).alloc (.cells #[.int .i64 (k : Int), .int .i64 b2, .int .i64 b3, .int .i64 b4] 95)).cell? ⟨b, off + k * 7 + 6, none⟩ = some (.int .i64 r.loss) := hrg 6 _ rfl
          have HQ : Hid (r.beg ≤ b2 → b2 < b3 → b3 ≤ r.fin → Q) := fun x1 x2 x3 => HO.out.2 ⟨HT.out, Int.natCast_nonneg _, r, by simpa using hrk, x1, x2, x3⟩
          have hb23 : b2 < b3 ∨ b3 ≤ b2 := by omega
          clear hr hrk hrg h2 HO
          by_cases h5 : r.beg ≤ b2
          · by_cases h6 : b2 < b3
            · by_cases h7 : b3 ≤ r.fin
              · have HF := Lib.hid (HQ.out h5 h6 h7)
                clear HQ hb23
                go_enter Tryz.func130, Tryz.ntmps130
                go_wp2
                go_ret
                exact refBool_of (fun _ => HF.out) (HB0.out.alloc (by simp; omega) _)
              · clear HQ hb23
                go_enter Tryz.func130, Tryz.ntmps130
                go_wp2
                go_ret
                exact refBool_of (fun h => by (simp at h) <;> omega) (HB0.out.alloc (by simp; omega) _)
            · have d6 : decide (b2 < b3) = false := by simpa using h6
              clear HQ hb23
              go_enter Tryz.func130, Tryz.ntmps130
              go_wp2
              go_ret
              exact refBool_of (fun h => by (simp at h) <;> omega) (HB0.out.alloc (by simp; omega) _)
          · have d5 : decide (r.beg ≤ b2) = false := by simpa using h5
            clear HQ hb23
            go_enter Tryz.func130, Tryz.ntmps130
            go_wp2
            go_ret
            exact refBool_of (fun h => by (simp at h) <;> omega) (HB0.out.alloc (by simp; omega) _)
theorem bkLt_trans {a b c : Bkg} (h : bkLt a b) (h' : bkLt b c) : bkLt a c := by
  unfold bkLt at *
  omega
theorem bks_snoc {L : List Bkg} {x r : Bkg} (h : (L ++ [x]).Pairwise bkLt) (hx : bkLt x r) : (L ++ [x] ++ [r]).Pairwise bkLt := by
  rw [List.pairwise_append]
  refine ⟨h, by simp, fun a ha b hb => ?_⟩
  rw [List.mem_singleton.1 hb]
  rcases List.mem_append.1 ha with h1 | h1
  · rw [List.pairwise_append] at h
    exact bkLt_trans (h.2.2 a h1 x (by simp)) hx
  · rw [List.mem_singleton.1 h1]; exact hx
theorem all_snoc {α : Type} {P : α → Prop} {l : List α} {k : Nat} {r : α} (hk : l[k]? = some r) (h : ∀ x ∈ l.take k, P x) (hr : P r) : ∀ x ∈ l.take (k + 1), P x := by
  intro x hx
  rw [take_snoc hk] at hx
  rcases List.mem_append.1 hx with h1 | h1
  · exact h x h1
  · rw [List.mem_singleton.1 h1]; exact hr

end Go.Proofs.YtebkgbmijocdjaaGreat.Tp
namespace Go.Proofs.YtebkgbmijocdjaaGreat.Tp
open Go Go.RowKit

set_option maxHeartbeats 4000000 in
set_option maxRecDepth 100000 in
theorem ref27Check_any (Aq : Option Addr) (cq : Nat) (Ac : Option Addr) (cc : Nat) (p : Pln) (B : Option Addr) (cb : Nat) (l : List Bkg) (w : World) (hp : PlnAt w Aq cq Ac cc p) (hl : SlAt bkE w B l) (hlm : l.length ≤ maxLen) :
    Calls Tryz.prog 60 #[.agg #[.slice Aq p.q.length cq, .slice Ac p.c.length cc], .slice B l.length cb] w (RefErr (PlnOK p ∧ BksOK p l) w) := by
  have HP := Lib.hid hp
  have HL := Lib.hid hl
  have HB0 : Hid (Below w.heap.size w (w.alloc (.cells #[.slice Aq p.q.length cq, .slice Ac p.c.length cc] 25))) := (Below.refl _ _).alloc (Nat.le_refl _) _
  have HK := Lib.hid (Bk.new w 25 #[.slice Aq p.q.length cq, .slice Ac p.c.length cc])
  have HC := Lib.hid (fun w h => ref22Check_any Aq cq Ac cc p w h)
  clear hp hl
  unfold maxLen at hlm
  go_enter Tryz.func60, Tryz.ntmps60
  go_wp2_with fail
  generalize w.alloc (.cells #[.slice Aq p.q.length cq, .slice Ac p.c.length cc] 25) = W at HB0 HK ⊢
  generalize w.heap.size = g0 at HK ⊢
  refine (HC.out _ (HP.out.below HB0.out)).mono ?_
  rintro e w1 ⟨q, rfl, hq, hb1⟩
  have HQ := Lib.hid hq
  have HB1 := Lib.hid (below_next HB0.out hb1)
  have HK1 := Lib.hid (HK.out.below hb1 HK.out.lt)
  clear hq hb1 HB0 HK HC
  by_cases h0 : q = 0
  · subst h0
    have HPO := Lib.hid (HQ.out rfl)
    clear HQ
    by_cases h1 : (512 : Int) < (l.length : Int)
    · go_wp2
      go_ret
      exact refErr_no (by decide) HB1.out
    · have HLN : Hid (l.length ≤ 512) := by show _ ≤ _; omega
      go_wp2
      generalize hw1 : w1 = W1 at HB1 HK1 ⊢
      clear hw1
      go_loopw [5] (fun i wr => ∃ k : Nat, k ≤ l.length ∧ i = .int .i64 k ∧ Below W1.heap.size W1 wr ∧ (∀ b ∈ l.take k, BkgOK p b) ∧ (l.take k).Pairwise bkLt) (fun i _ => l.length - (intOf i).toNat)
      case atStart => exact ⟨0, Nat.zero_le _, rfl, Below.refl _ _, by simp, by simp⟩
      case round =>
        obtain ⟨k, hk, rfl, hbw, hok, hpw⟩ := hrel
        have HB := Lib.hid hbw
        have HOK := Lib.hid hok
        have HPW := Lib.hid hpw
        clear hbw hok hpw
        by_cases hlt : k < l.length
        · have HLA := Lib.hid (HL.out.below (below_next HB1.out HB.out))
          obtain ⟨b, off, rfl, hr⟩ := HLA.out.one (by omega)
          obtain ⟨r, hrk⟩ : ∃ r, l[k]? = some r := ⟨_, List.getElem?_eq_getElem hlt⟩
          have HRK := Lib.hid hrk
          have HRA := Lib.hid hr
          have HRG : Hid (wr.rangeAt b (off + k * 4) (bkE.f r)) := hr k r hrk
          have HV := Lib.hid (fun w h => ref27valid_any Aq cq Ac cc p r w h)
          clear hr hrk
          have HD : Hid (∀ w', Below wr.heap.size wr w' → (w'.cell? ⟨g0, 0, none⟩ = some (.slice Aq p.q.length cq) ∧ w'.cell? ⟨g0, 1, none⟩ = some (.slice Ac p.c.length cc)) ∧ w'.cell? ⟨b, off + k * 4, none⟩ = some (.int .i64 r.ct) ∧ w'.cell? ⟨b, off + k * 4 + 1, none⟩ = some (.int .i64 r.beg) ∧ w'.cell? ⟨b, off + k * 4 + 2, none⟩ = some (.int .i64 r.fin) ∧ w'.cell? ⟨b, off + k * 4 + 3, none⟩ = some (.int .i64 r.tick)) := fun w' hb' => by
            have h2 := HK1.out.below (below_next HB.out hb') HK1.out.lt
            have h4 := range_below HRG.out hb'
            exact ⟨⟨h2.cell 0, h2.cell 1⟩, h4 0 _ rfl, h4 1 _ rfl, h4 2 _ rfl, h4 3 _ rfl⟩
          have HPW2 : Hid (∀ w', Below wr.heap.size wr w' → PlnAt w' Aq cq Ac cc p) := fun w' hb' => HP.out.below (below_next (below_next HB1.out HB.out) hb')
          go_wp2_with fail
          go_region_held3 (fun w' => ((w'.cell? ⟨g0, 0, none⟩ = some (.slice Aq p.q.length cq) ∧ w'.cell? ⟨g0, 1, none⟩ = some (.slice Ac p.c.length cc)) ∧ w'.cell? ⟨b, off + k * 4, none⟩ = some (.int .i64 r.ct) ∧ w'.cell? ⟨b, off + k * 4 + 1, none⟩ = some (.int .i64 r.beg) ∧ w'.cell? ⟨b, off + k * 4 + 2, none⟩ = some (.int .i64 r.fin) ∧ w'.cell? ⟨b, off + k * 4 + 3, none⟩ = some (.int .i64 r.tick)) ∧ Hid (Below wr.heap.size wr w')) (((try go_split_ands); first | exact held_start HD (Below.refl _ _).drew | exact held_step HD (by assumption) hb4))
            ((go_at_call 130
              refine (HV.out _ (HPW2.out _ (Hid.out (by (try go_split_ands); assumption)))).mono ?_
              rintro e w4 ⟨v, rfl, hv, hb4⟩
              have HVV := Lib.hid hv
              clear hv))
          have HBF : Hid (Below wr.heap.size wr w4) := by (try go_split_ands); assumption
          cases v with
          | false =>
            go_wp2
            go_ret
            exact refErr_no (by decide) (below_next HB1.out (below_next HB.out HBF.out))
          | true =>
            have HN1 := Lib.hid (all_snoc HRK.out HOK.out (HVV.out rfl))
            have HBW := Lib.hid (below_next HB.out HBF.out)
            have HRX := Lib.hid (fun i y h => range_below (HRA.out i y h) HBF.out)
            clear HB HBF HD HV HPW2 HVV
            cases k with
            | zero =>
              have HN2 : Hid ((l.take (0 + 1)).Pairwise bkLt) := by
                show List.Pairwise _ _
                rw [take_snoc HRK.out]
                simp
              rw [show ((0 : Nat) : Int) = 0 from rfl]
              go_wp2
              go_quiet (fail)
              go_wp2
              go_roundw
              case rel => exact ⟨0 + 1, by omega, by go_num, (by first | exact below_drawN HBW.out _ | exact below_drawN (below_drawN HBW.out _) _ | exact below_drawN (below_drawN (below_drawN HBW.out _) _) _), HN1.out, HN2.out⟩
              case measure => simp [intOf]; omega
            | succ j =>
              obtain ⟨x, hx⟩ : ∃ x, l[j]? = some x := ⟨_, List.getElem?_eq_getElem (by omega)⟩
              have HX := Lib.hid hx
              have hxr := HRX.out j x hx
              have hrr := HRX.out (j + 1) r HRK.out
              have x0 : w4.cell? ⟨b, off + j * 4, none⟩ = some (.int .i64 x.ct) := hxr 0 _ rfl
              have x1 : w4.cell? ⟨b, off + j * 4 + 1, none⟩ = some (.int .i64 x.beg) := hxr 1 _ rfl
              have x2 : w4.cell? ⟨b, off + j * 4 + 2, none⟩ = some (.int .i64 x.fin) := hxr 2 _ rfl
              have r0 : w4.cell? ⟨b, off + (j + 1) * 4, none⟩ = some (.int .i64 r.ct) := hrr 0 _ rfl
              have r1 : w4.cell? ⟨b, off + (j + 1) * 4 + 1, none⟩ = some (.int .i64 r.beg) := hrr 1 _ rfl
              have hjl : (j : Int) < (l.length : Int) := by omega
              have hjl1 : (j : Int) + 1 < (l.length : Int) := by omega
              have hj0 : (0 : Int) ≤ (j : Int) := by omega
              have hj1 : (0 : Int) ≤ (j : Int) + 1 := by omega
              have hjt : ((j : Int) + 1).toNat = j + 1 := by omega
              have hjb : (((j : Int) + 1) == 0) = false := by rw [beq_eq_false_iff_ne]; omega
              have hjw : IntKind.i64.wrap ((j : Int) + 1 - 1) = (j : Int) := by rw [IntWalk.i64_in _ (by omega)]; omega
              rw [show ((j + 1 : Nat) : Int) = (j : Int) + 1 by omega]
              clear hx hxr hrr
              have HSN : Hid (bkLt x r → (l.take (j + 1 + 1)).Pairwise bkLt) := by
                intro hxr
                rw [take_snoc HRK.out, take_snoc HX.out]
                refine bks_snoc ?_ hxr
                rw [← take_snoc HX.out]
                exact HPW.out
              by_cases hc1 : x.ct < r.ct
              · have HN2 := Lib.hid (HSN.out (.inl hc1))
                clear HSN
                go_wp2
                go_quiet (fail)
                go_wp2
                go_roundw
                case rel => exact ⟨j + 1 + 1, by omega, by go_num, (by first | exact below_drawN HBW.out _ | exact below_drawN (below_drawN HBW.out _) _ | exact below_drawN (below_drawN (below_drawN HBW.out _) _) _), HN1.out, HN2.out⟩
                case measure => simp [intOf]; omega
              · have d1 : decide (r.ct > x.ct) = false := by simpa using hc1
                by_cases hc2 : r.ct < x.ct
                · go_wp2
                  go_quiet (fail)
                  go_wp2
                  go_quiet (fail)
                  go_wp2
                  go_ret
                  exact refErr_no (by decide) (below_next HB1.out ((by first | exact below_drawN HBW.out _ | exact below_drawN (below_drawN HBW.out _) _ | exact below_drawN (below_drawN (below_drawN HBW.out _) _) _)))
                · have d2 : decide (r.ct < x.ct) = false := by simpa using hc2
                  by_cases hc3 : r.beg ≤ x.beg
                  · clear hc1 hc2
                    go_wp2
                    go_quiet (fail)
                    go_wp2
                    go_quiet (fail)
                    go_wp2
                    go_ret
                    exact refErr_no (by decide) (below_next HB1.out ((by first | exact below_drawN HBW.out _ | exact below_drawN (below_drawN HBW.out _) _ | exact below_drawN (below_drawN (below_drawN HBW.out _) _) _)))
                  · have d3 : decide (r.beg ≤ x.beg) = false := by simpa using hc3
                    by_cases hc4 : r.beg < x.fin
                    · clear hc1 hc2 hc3
                      go_wp2
                      go_quiet (fail)
                      go_wp2
                      go_quiet (fail)
                      go_wp2
                      go_quiet (fail)
                      go_wp2
                      go_ret
                      exact refErr_no (by decide) (below_next HB1.out ((by first | exact below_drawN HBW.out _ | exact below_drawN (below_drawN HBW.out _) _ | exact below_drawN (below_drawN (below_drawN HBW.out _) _) _)))
                    · have HN2 := Lib.hid (HSN.out (.inr ⟨by omega, by omega, by omega⟩))
                      have d4 : decide (r.beg < x.fin) = false := by simpa using hc4
                      clear HSN hc1 hc2 hc3 hc4
                      go_wp2
                      go_quiet (fail)
                      go_wp2
                      go_quiet (fail)
                      go_wp2
                      go_quiet (fail)
                      go_wp2
                      go_roundw
                      case rel => exact ⟨j + 1 + 1, by omega, by go_num, (by first | exact below_drawN HBW.out _ | exact below_drawN (below_drawN HBW.out _) _ | exact below_drawN (below_drawN (below_drawN HBW.out _) _) _), HN1.out, HN2.out⟩
                      case measure => simp [intOf]; omega
        · have HF : Hid (PlnOK p ∧ BksOK p l) := by
            refine ⟨HPO.out, HLN.out, ?_, ?_⟩
            · intro b hb
              refine HOK.out b ?_
              rw [List.take_of_length_le (by omega)]
              exact hb
            · have h := HPW.out
              rwa [List.take_of_length_le (by omega)] at h
          go_wp2
          go_ret
          exact refErr_yes HF.out (below_next HB1.out HB.out)
  · have hqb : (q != 0) = true := by rw [bne_iff_ne]; exact h0
    clear h0
    go_wp2
    go_ret
    exact refErr_no (by decide) HB1.out
end Go.Proofs.YtebkgbmijocdjaaGreat.Tp
namespace Go.Proofs.YtebkgbmijocdjaaGreat.Tp
open Go Go.RowKit

/-- the five cells of a hold's box -/
abbrev hdA (h : Hld) : Array Value := #[.int .i64 h.node, .int .i64 h.frm, .int .i64 h.til, .int .i64 h.size, .int .i64 h.tick]
theorem hdLe_iff {a b : Hld} : hdLe a b ↔ (a.node < b.node ∨ a.node = b.node ∧ (a.frm < b.frm ∨ a.frm = b.frm ∧ (a.til < b.til ∨ a.til = b.til ∧ (a.tick < b.tick ∨ a.tick = b.tick ∧ a.size ≤ b.size)))) := by
  have h1 : ∀ (x y : Int) (l m : List Int), cmpL (x :: l) (y :: m) ≤ 0 ↔ x < y ∨ x = y ∧ cmpL l m ≤ 0 := by
    intro x y l m
    have hc : cmpL (x :: l) (y :: m) = if x < y then -1 else if y < x then 1 else cmpL l m := by rw [cmpL]
    rw [hc]
    split
    · exact ⟨fun _ => .inl (by assumption), fun _ => by decide⟩
    · split
      · exact ⟨fun h => absurd h (by decide), fun h => by omega⟩
      · exact ⟨fun h => .inr ⟨by omega, h⟩, fun h => by rcases h with h | h; exact absurd h (by assumption); exact h.2⟩
  have h0 : cmpL ([] : List Int) [] ≤ 0 := by decide
  unfold hdLe hdKey
  rw [h1, h1, h1, h1, h1]
  constructor
  · intro h
    rcases h with h | ⟨e1, h | ⟨e2, h | ⟨e3, h | ⟨e4, h | ⟨e5, _⟩⟩⟩⟩⟩ <;> omega
  · intro h
    rcases h with h | ⟨e1, h | ⟨e2, h | ⟨e3, h | ⟨e4, h⟩⟩⟩⟩
    · exact .inl h
    · exact .inr ⟨e1, .inl h⟩
    · exact .inr ⟨e1, .inr ⟨e2, .inl h⟩⟩
    · exact .inr ⟨e1, .inr ⟨e2, .inr ⟨e3, .inl h⟩⟩⟩
    · by_cases h5 : a.size < b.size
      · exact .inr ⟨e1, .inr ⟨e2, .inr ⟨e3, .inr ⟨e4, .inl h5⟩⟩⟩⟩
      · exact .inr ⟨e1, .inr ⟨e2, .inr ⟨e3, .inr ⟨e4, .inr ⟨by omega, h0⟩⟩⟩⟩⟩

set_option maxHeartbeats 4000000 in
set_option maxRecDepth 100000 in
theorem ref28Valid_any (Aq : Option Addr) (cq : Nat) (Ac : Option Addr) (cc : Nat) (p : Pln) (h : Hld) (w : World) :
    Calls Tryz.prog 131 #[.agg #[.slice Aq p.q.length cq, .slice Ac p.c.length cc], .agg #[.int .i64 h.node, .int .i64 h.frm, .int .i64 h.til, .int .i64 h.size, .int .i64 h.tick]] w (RefBool (HldOK p h) w) := by
  have HO : Hid (0 ≤ h.node → h.node < p.q.length → 0 ≤ h.frm → h.frm < h.til → h.til ≤ 1099511627776 → 1 ≤ h.size → h.size ≤ 65536 → 0 ≤ h.tick → h.tick ≤ 1152921504606846976 → HldOK p h) := fun a b c d e f g i j => ⟨a, b, c, d, e, f, g, i, j⟩
  generalize HldOK p h = Q at HO ⊢
  obtain ⟨h1, h2, h3, h4, h5⟩ := h
  simp only at HO ⊢
  have HB0 : Hid (Below w.heap.size w ((w.alloc (.cells #[.slice Aq p.q.length cq, .slice Ac p.c.length cc] 25)).alloc (.cells #[.int .i64 h1, .int .i64 h2, .int .i64 h3, .int .i64 h4, .int .i64 h5] 99))) := ((Below.refl _ _).alloc (Nat.le_refl _) _).alloc (by simp) _
  by_cases hv : 0 ≤ h1 ∧ h1 < p.q.length ∧ 0 ≤ h2 ∧ h2 < h3 ∧ h3 ≤ 1099511627776 ∧ 1 ≤ h4 ∧ h4 ≤ 65536 ∧ 0 ≤ h5 ∧ h5 ≤ 1152921504606846976
  · obtain ⟨v1, v2, v3, v4, v5, v6, v7, v8, v9⟩ := hv
    have HF := Lib.hid (HO.out v1 v2 v3 v4 v5 v6 v7 v8 v9)
    clear HO
    go_enter Tryz.func131, Tryz.ntmps131
    go_wp2
    go_ret
    exact refBool_of (fun _ => HF.out) HB0.out
  · go_enter Tryz.func131, Tryz.ntmps131
    go_wp2
    all_goals
      go_ret
      first
      | exact refBool_no HB0.out
      | exact refBool_of (fun h => by (simp at h) <;> omega) HB0.out

set_option maxHeartbeats 4000000 in
set_option maxRecDepth 100000 in
theorem ref28Less_any (a b : Hld) (w : World) : Calls Tryz.prog 132 #[.agg #[.int .i64 a.node, .int .i64 a.frm, .int .i64 a.til, .int .i64 a.size, .int .i64 a.tick], .agg #[.int .i64 b.node, .int .i64 b.frm, .int .i64 b.til, .int .i64 b.size, .int .i64 b.tick]] w fun e w' => ∃ v : Bool, e = .returned (.bool v) ∧ (v = false → hdLe b a) ∧ Below w.heap.size w w' := by
  have HO : Hid ((b.node < a.node ∨ b.node = a.node ∧ (b.frm < a.frm ∨ b.frm = a.frm ∧ (b.til < a.til ∨ b.til = a.til ∧ (b.tick < a.tick ∨ b.tick = a.tick ∧ b.size ≤ a.size)))) → hdLe b a) := hdLe_iff.2
  generalize hdLe b a = Q at HO ⊢
  obtain ⟨a1, a2, a3, a4, a5⟩ := a
  obtain ⟨b1, b2, b3, b4, b5⟩ := b
  simp only at HO ⊢
  have HB0 : Hid (Below w.heap.size w ((w.alloc (.cells #[.int .i64 a1, .int .i64 a2, .int .i64 a3, .int .i64 a4, .int .i64 a5] 99)).alloc (.cells #[.int .i64 b1, .int .i64 b2, .int .i64 b3, .int .i64 b4, .int .i64 b5] 99))) := ((Below.refl _ _).alloc (Nat.le_refl _) _).alloc (by simp) _
  by_cases e0 : a1 = b1
  · by_cases e1 : a2 = b2
    · by_cases e2 : a3 = b3
      · by_cases e3 : a5 = b5
        · have E0 := Lib.hid e0
          have f0 : (a1 != b1) = false := by simpa using e0
          have E1 := Lib.hid e1
          have f1 : (a2 != b2) = false := by simpa using e1
          have E2 := Lib.hid e2
          have f2 : (a3 != b3) = false := by simpa using e2
          have E3 := Lib.hid e3
          have f3 : (a5 != b5) = false := by simpa using e3
          clear e0 e1 e2 e3
          go_enter Tryz.func132, Tryz.ntmps132
          go_wp2
          go_ret
          exact ⟨_, rfl, fun h => HO.out (by have := E0.out; have := E1.out; have := E2.out; have := E3.out; (simp at h); omega), HB0.out⟩
        · have E0 := Lib.hid e0
          have f0 : (a1 != b1) = false := by simpa using e0
          have E1 := Lib.hid e1
          have f1 : (a2 != b2) = false := by simpa using e1
          have E2 := Lib.hid e2
          have f2 : (a3 != b3) = false := by simpa using e2
          clear e0 e1 e2
          have EN := Lib.hid e3
          have fn : (a5 != b5) = true := by simpa using e3
          clear e3
          go_enter Tryz.func132, Tryz.ntmps132
          go_wp2
          go_ret
          exact ⟨_, rfl, fun h => HO.out (by have := E0.out; have := E1.out; have := E2.out; have := EN.out; (simp at h); omega), HB0.out⟩
      · have E0 := Lib.hid e0
        have f0 : (a1 != b1) = false := by simpa using e0
        have E1 := Lib.hid e1
        have f1 : (a2 != b2) = false := by simpa using e1
        clear e0 e1
        have EN := Lib.hid e2
        have fn : (a3 != b3) = true := by simpa using e2
        clear e2
        go_enter Tryz.func132, Tryz.ntmps132
        go_wp2
        go_ret
        exact ⟨_, rfl, fun h => HO.out (by have := E0.out; have := E1.out; have := EN.out; (simp at h); omega), HB0.out⟩
    · have E0 := Lib.hid e0
      have f0 : (a1 != b1) = false := by simpa using e0
      clear e0
      have EN := Lib.hid e1
      have fn : (a2 != b2) = true := by simpa using e1
      clear e1
      go_enter Tryz.func132, Tryz.ntmps132
      go_wp2
      go_ret
      exact ⟨_, rfl, fun h => HO.out (by have := E0.out; have := EN.out; (simp at h); omega), HB0.out⟩
  · have EN := Lib.hid e0
    have fn : (a1 != b1) = true := by simpa using e0
    clear e0
    go_enter Tryz.func132, Tryz.ntmps132
    go_wp2
    go_ret
    exact ⟨_, rfl, fun h => HO.out (by have := EN.out; (simp at h); omega), HB0.out⟩
end Go.Proofs.YtebkgbmijocdjaaGreat.Tp
namespace Go.Proofs.YtebkgbmijocdjaaGreat.Tp
open Go Go.RowKit

def actB (n t : Int) (h : Hld) : Bool := decide (h.node = n ∧ h.frm ≤ t ∧ t < h.til)
theorem used_snoc (L : List Hld) (r : Hld) (n t : Int) : used (L ++ [r]) n t = used L n t + if _h : r.node = n ∧ r.frm ≤ t ∧ t < r.til then r.size else 0 := by
  unfold used
  rw [List.filter_append, List.map_append, List.sum_append]
  by_cases c : r.node = n ∧ r.frm ≤ t ∧ t < r.til
  · rw [dif_pos c]; simp [List.filter_cons, c]
  · rw [dif_neg c]; simp [c]
theorem used_bd : ∀ (l : List Hld) (n t : Int), (∀ h ∈ l, 0 ≤ h.size ∧ h.size ≤ 65536) → 0 ≤ used l n t ∧ used l n t ≤ 65536 * l.length
  | [], _, _, _ => by simp [used]
  | x :: l, n, t, h => by
    have ih := used_bd l n t (fun y hy => h y (List.mem_cons_of_mem _ hy))
    have hx := h x List.mem_cons_self
    unfold used at *
    rw [List.filter_cons, List.length_cons]
    split
    · rw [List.map_cons, List.sum_cons]; omega
    · omega
set_option maxHeartbeats 4000000 in
set_option maxRecDepth 100000 in
theorem stored_any (B : Option Addr) (cb : Nat) (l : List Hld) (n t : Int) (w : World) (hl : SlAt hdE w B l) (hln : l.length ≤ 512) (hs : ∀ h ∈ l, 0 ≤ h.size ∧ h.size ≤ 65536) :
    Calls Tryz.prog 168 #[.slice B l.length cb, .int .i64 n, .int .i64 t] w fun e w' => e = .returned (.int .i64 (used l n t)) ∧ w = w' := by
  have HL := Lib.hid hl
  have HS := Lib.hid hs
  clear hl hs
  go_enter Tryz.func168, Tryz.ntmps168
  go_wp2
  go_loop [7, 8] (fun s i => ∃ k : Nat, k ≤ l.length ∧ i = .int .i64 k ∧ s = .int .i64 (used (l.take k) n t)) (fun _ i => l.length - (intOf i).toNat)
  case atStart => exact ⟨0, Nat.zero_le _, rfl, rfl⟩
  case round =>
    obtain ⟨k, hk, rfl, rfl⟩ := hrel
    by_cases hlt : k < l.length
    · obtain ⟨b, off, rfl, hr⟩ := HL.out.one (by omega)
      obtain ⟨r, hrk⟩ : ∃ r, l[k]? = some r := ⟨_, List.getElem?_eq_getElem hlt⟩
      have hrg := hr k r hrk
      have c0 : w.cell? ⟨b, off + k * 5, none⟩ = some (.int .i64 r.node) := hrg 0 _ rfl
      have c1 : w.cell? ⟨b, off + k * 5 + 1, none⟩ = some (.int .i64 r.frm) := hrg 1 _ rfl
      have c2 : w.cell? ⟨b, off + k * 5 + 2, none⟩ = some (.int .i64 r.til) := hrg 2 _ rfl
      have c3 : w.cell? ⟨b, off + k * 5 + 3, none⟩ = some (.int .i64 r.size) := hrg 3 _ rfl
      have HSN : Hid (used (l.take (k + 1)) n t = used (l.take k) n t + if _h : r.node = n ∧ r.frm ≤ t ∧ t < r.til then r.size else 0) := by
        show _ = _
        rw [take_snoc hrk]; exact used_snoc _ _ _ _
      have hub := used_bd (l.take k) n t (fun h hh => HS.out h (List.mem_of_mem_take hh))
      have hrs := HS.out r (List.mem_of_getElem? hrk)
      have htl : (l.take k).length ≤ 512 := by rw [List.length_take]; omega
      have hub2 : 0 ≤ used (l.take k) n t ∧ used (l.take k) n t ≤ 33554432 := by omega
      clear hr hrk hrg hub htl
      generalize used (l.take k) n t = u at HSN hub2 ⊢
      by_cases h1 : r.node = n
      · have e1 : (r.node == n) = true := by simpa using h1
        have H1 := Lib.hid h1
        clear h1
        by_cases h2 : r.frm ≤ t
        · by_cases h3 : t < r.til
          · have HF : Hid (used (l.take (k + 1)) n t = u + r.size) := by show _ = _; rw [HSN.out, dif_pos ⟨H1.out, h2, h3⟩]
            clear HSN
            go_wp2
            go_round
            case rel => exact ⟨k + 1, by omega, by go_num, by rw [HF.out]⟩
            case measure => simp [intOf]; omega
          · have HF : Hid (used (l.take (k + 1)) n t = u) := by show _ = _; rw [HSN.out, dif_neg (fun h => h3 h.2.2)]; omega
            clear HSN
            go_wp2
            go_round
            case rel => exact ⟨k + 1, by omega, by go_num, by rw [HF.out]⟩
            case measure => simp [intOf]; omega
        · have HF : Hid (used (l.take (k + 1)) n t = u) := by show _ = _; rw [HSN.out, dif_neg (fun h => h2 h.2.1)]; omega
          clear HSN
          go_wp2
          go_round
          case rel => exact ⟨k + 1, by omega, by go_num, by rw [HF.out]⟩
          case measure => simp [intOf]; omega
      · have e1 : (r.node == n) = false := by simpa using h1
        have HF : Hid (used (l.take (k + 1)) n t = u) := by show _ = _; rw [HSN.out, dif_neg (fun h => h1 h.1)]; omega
        clear HSN h1
        go_wp2
        go_round
        case rel => exact ⟨k + 1, by omega, by go_num, by rw [HF.out]⟩
        case measure => simp [intOf]; omega
    · go_wp2
      go_ret
      exact ⟨ret_i (by rw [List.take_of_length_le (by omega)]), rfl⟩
/-- what the starts of holds tell of all times -/
theorem fits_all {p : Pln} {l : List Hld} (hv : ∀ h ∈ l, HldOK p h) (hf : ∀ h ∈ l, ∀ q, p.q[h.node.toNat]? = some q → used l h.node h.frm ≤ q) (hq : ∀ x ∈ p.q, 0 ≤ x) : ∀ (n : Nat) (q : Int), p.q[n]? = some q → ∀ t, used l n t ≤ q := by
  intro n q hn t
  -- the active hold with the greatest start
  have key : ∀ (L : List Hld), (∀ h ∈ L, h ∈ l) → L ≠ [] → ∃ m ∈ L, ∀ h ∈ L, h.frm ≤ m.frm := by
    intro L
    induction L with
    | nil => intro _ h; exact absurd rfl h
    | cons x L ih =>
      intro hL _
      by_cases hne : L = []
      · subst hne; exact ⟨x, by simp, fun h hh => by rw [List.mem_singleton.1 hh]; exact Int.le_refl _⟩
      · obtain ⟨m, hm, hmax⟩ := ih (fun h hh => hL h (List.mem_cons_of_mem _ hh)) hne
        by_cases hc : x.frm ≤ m.frm
        · refine ⟨m, List.mem_cons_of_mem _ hm, fun h hh => ?_⟩
          rcases List.mem_cons.1 hh with rfl | hh
          · exact hc
          · exact hmax h hh
        · refine ⟨x, by simp, fun h hh => ?_⟩
          rcases List.mem_cons.1 hh with rfl | hh
          · exact Int.le_refl _
          · have := hmax h hh; omega
  by_cases hne : (l.filter fun h => decide (h.node = (n : Int) ∧ h.frm ≤ t ∧ t < h.til)) = []
  · unfold used
    rw [hne]
    exact hq q (List.mem_of_getElem? hn)
  · obtain ⟨m, hm, hmax⟩ := key _ (fun h hh => (List.mem_filter.1 hh).1) hne
    have hm1 := List.mem_filter.1 hm
    have hm2 : m.node = (n : Int) ∧ m.frm ≤ t ∧ t < m.til := by simpa using hm1.2
    have h1 := hf m hm1.1 q (by rw [hm2.1]; simpa using hn)
    refine Int.le_trans ?_ h1
    rw [hm2.1]
    -- the filter at t lies in the filter at m.frm
    have hs : ∀ L : List Hld, (∀ h ∈ L, h ∈ l) → used L n t ≤ used L n m.frm := by
      intro L
      induction L with
      | nil => intro _; exact Int.le_refl _
      | cons x L ih =>
        intro hL
        have ih := ih (fun h hh => hL h (List.mem_cons_of_mem _ hh))
        have hx := (hv x (hL x (by simp))).2.2.2.2.2.1
        unfold used at ih ⊢
        rw [List.filter_cons, List.filter_cons]
        by_cases c1 : x.node = (n : Int) ∧ x.frm ≤ t ∧ t < x.til
        · have hx2 := hmax x (List.mem_filter.2 ⟨hL x (by simp), by simpa using c1⟩)
          have c2 : x.node = (n : Int) ∧ x.frm ≤ m.frm ∧ m.frm < x.til := ⟨c1.1, hx2, by omega⟩
          rw [if_pos (by simpa using c1), if_pos (by simpa using c2)]
          simp only [List.map_cons, List.sum_cons]
          omega
        · rw [if_neg (by simpa using c1)]
          split
          · simp only [List.map_cons, List.sum_cons]
            omega
          · exact ih
    exact hs l (fun h hh => hh)
end Go.Proofs.YtebkgbmijocdjaaGreat.Tp
namespace Go.Proofs.YtebkgbmijocdjaaGreat.Tp
open Go Go.RowKit

theorem below_same {w w4 : World} (h : w = w4) : Below w.heap.size w w4 := by rw [← h]; exact Below.refl _ _
set_option maxHeartbeats 4000000 in
set_option maxRecDepth 100000 in
theorem fits_walk (Aq : Option Addr) (cq : Nat) (Ac : Option Addr) (cc : Nat) (p : Pln) (B : Option Addr) (cb : Nat) (l : List Hld) (w : World) (hp : PlnAt w Aq cq Ac cc p) (hl : SlAt hdE w B l) (hln : l.length ≤ 512) (hv : ∀ h ∈ l, HldOK p h) :
    Calls Tryz.prog 133 #[.agg #[.slice Aq p.q.length cq, .slice Ac p.c.length cc], .slice B l.length cb] w (RefBool (∀ h ∈ l, ∀ q, p.q[h.node.toNat]? = some q → used l h.node h.frm ≤ q) w) := by
  have HP := Lib.hid hp
  have HL := Lib.hid hl
  have HV := Lib.hid hv
  have HB0 : Hid (Below w.heap.size w (w.alloc (.cells #[.slice Aq p.q.length cq, .slice Ac p.c.length cc] 25))) := (Below.refl _ _).alloc (Nat.le_refl _) _
  have HK := Lib.hid (Bk.new w 25 #[.slice Aq p.q.length cq, .slice Ac p.c.length cc])
  have HSI : Hid (∀ h ∈ l, 0 ≤ h.size ∧ h.size ≤ 65536) := fun h hh => ⟨by have := (hv h hh).2.2.2.2.2.1; omega, (hv h hh).2.2.2.2.2.2.1⟩
  have hql : p.q.length ≤ 9223372036854775807 := hp.qm
  clear hp hl hv
  go_enter Tryz.func133, Tryz.ntmps133
  go_wp2
  generalize w.alloc (.cells #[.slice Aq p.q.length cq, .slice Ac p.c.length cc] 25) = W at HB0 HK ⊢
  generalize w.heap.size = g0 at HK ⊢
  go_loopw [5] (fun i wr => ∃ k : Nat, k ≤ l.length ∧ i = .int .i64 k ∧ Below W.heap.size W wr ∧ ∀ h ∈ l.take k, ∀ q, p.q[h.node.toNat]? = some q → used l h.node h.frm ≤ q) (fun i _ => l.length - (intOf i).toNat)
  case atStart => exact ⟨0, Nat.zero_le _, rfl, Below.refl _ _, by simp⟩
  case round =>
    obtain ⟨k, hk, rfl, hbw, hok⟩ := hrel
    have HB := Lib.hid hbw
    have HOK := Lib.hid hok
    clear hbw hok
    by_cases hlt : k < l.length
    · have HLA := Lib.hid (HL.out.below (below_next HB0.out HB.out))
      obtain ⟨b, off, rfl, hr⟩ := HLA.out.one (by omega)
      obtain ⟨r, hrk⟩ : ∃ r, l[k]? = some r := ⟨_, List.getElem?_eq_getElem hlt⟩
      have HRK := Lib.hid hrk
      have HRG : Hid (wr.rangeAt b (off + k * 5) (hdE.f r)) := hr k r hrk
      have hrv := HV.out r (List.mem_of_getElem? hrk)
      obtain ⟨n, hn⟩ : ∃ n : Nat, r.node = (n : Int) := ⟨r.node.toNat, by have := hrv.1; omega⟩
      have hnl : n < p.q.length := by have := hrv.2.1; omega
      have hnl2 : (n : Int) < (p.q.length : Int) := by omega
      obtain ⟨x, hx⟩ : ∃ x, p.q[n]? = some x := ⟨_, List.getElem?_eq_getElem hnl⟩
      have HQA := Lib.hid (HP.out.q.below (below_next HB0.out HB.out))
      obtain ⟨bq, oq, rfl, hq⟩ := HQA.out.one (by omega)
      have HXG : Hid (wr.rangeAt bq (oq + n * 1) (intE.f x)) := hq n x hx
      have HX := Lib.hid hx
      have HNN := Lib.hid hn
      have HST := Lib.hid (fun w (h : SlAt hdE w (some ⟨b, off, none⟩) l) => stored_any (some ⟨b, off, none⟩) cb l (n : Int) r.frm w h hln HSI.out)
      have HN1 : Hid (used l (n : Int) r.frm ≤ x → ∀ h ∈ l.take (k + 1), ∀ q, p.q[h.node.toNat]? = some q → used l h.node h.frm ≤ q) := fun hu => all_snoc hrk HOK.out (fun q hq => by
        rw [hn] at hq ⊢
        have : (n : Int).toNat = n := by omega
        rw [this, hx] at hq
        cases hq
        exact hu)
      have HD : Hid (∀ w', Below wr.heap.size wr w' → (w'.cell? ⟨g0, 0, none⟩ = some (.slice (some ⟨bq, oq, none⟩) p.q.length cq) ∧ w'.cell? ⟨bq, oq + n, none⟩ = some (.int .i64 x)) ∧ w'.cell? ⟨b, off + k * 5, none⟩ = some (.int .i64 (n : Int)) ∧ w'.cell? ⟨b, off + k * 5 + 1, none⟩ = some (.int .i64 r.frm)) := fun w' hb' => by
        have h2 := HK.out.below (below_next HB.out hb') HK.out.lt
        have h4 := range_below HRG.out hb'
        have h5 := range_below HXG.out hb'
        refine ⟨⟨h2.cell 0, by have := h5 0 _ rfl; simpa using this⟩, by have := h4 0 _ rfl; rw [← HNN.out]; exact this, h4 1 _ rfl⟩
      have HLW : Hid (∀ w', Below wr.heap.size wr w' → SlAt hdE w' (some ⟨b, off, none⟩) l) := fun w' hb' => HLA.out.below hb'
      have hn0 : (0 : Int) ≤ (n : Int) := by omega
      clear hr hrk hrv hx hq hn
      generalize used l (n : Int) r.frm = u at HST HN1
      go_wp2_with fail
      go_region_held3 (fun w' => ((w'.cell? ⟨g0, 0, none⟩ = some (.slice (some ⟨bq, oq, none⟩) p.q.length cq) ∧ w'.cell? ⟨bq, oq + n, none⟩ = some (.int .i64 x)) ∧ w'.cell? ⟨b, off + k * 5, none⟩ = some (.int .i64 (n : Int)) ∧ w'.cell? ⟨b, off + k * 5 + 1, none⟩ = some (.int .i64 r.frm)) ∧ Hid (Below wr.heap.size wr w')) (((try go_split_ands); first | exact held_start HD (Below.refl _ _).drew | exact held_step HD (by assumption) hb4))
        ((go_at_call 168
          refine (HST.out _ (HLW.out _ (Hid.out (by (try go_split_ands); assumption)))).mono ?_
          rintro e w4 ⟨rfl, hw4⟩
          have hb4 := below_same hw4
          clear hw4))
      have HBF : Hid (Below wr.heap.size wr w4) := by (try go_split_ands); assumption
      have HBW := Lib.hid (below_next HB.out HBF.out)
      clear HD HLW HST
      by_cases hu : u ≤ x
      · have d1 : decide (u > x) = false := by simpa using hu
        have HN2 := Lib.hid (HN1.out hu)
        clear HN1
        go_wp2
        go_roundw
        case rel => exact ⟨k + 1, by omega, by go_num, HBW.out, HN2.out⟩
        case measure => simp [intOf]; omega
      · clear HN1
        go_wp2
        go_ret
        exact refBool_no (below_next HB0.out HBW.out)
    · have HF : Hid (∀ h ∈ l, ∀ q, p.q[h.node.toNat]? = some q → used l h.node h.frm ≤ q) := by
        intro h hh
        refine HOK.out h ?_
        rw [List.take_of_length_le (by omega)]
        exact hh
      go_wp2
      go_ret
      exact refBool_of (fun _ => HF.out) (below_next HB0.out HB.out)
theorem hdLe_trans {a b c : Hld} (h : hdLe a b) (h' : hdLe b c) : hdLe a c := by
  rw [hdLe_iff] at *
  omega
theorem hds_snoc {L : List Hld} {x r : Hld} (h : (L ++ [x]).Pairwise hdLe) (hx : hdLe x r) : (L ++ [x] ++ [r]).Pairwise hdLe := by
  rw [List.pairwise_append]
  refine ⟨h, by simp, fun a ha b hb => ?_⟩
  rw [List.mem_singleton.1 hb]
  rcases List.mem_append.1 ha with h1 | h1
  · rw [List.pairwise_append] at h
    exact hdLe_trans (h.2.2 a h1 x (by simp)) hx
  · rw [List.mem_singleton.1 h1]; exact hx

set_option maxHeartbeats 4000000 in
set_option maxRecDepth 100000 in
theorem ref28Check_any (Aq : Option Addr) (cq : Nat) (Ac : Option Addr) (cc : Nat) (p : Pln) (B : Option Addr) (cb : Nat) (l : List Hld) (w : World) (hp : PlnAt w Aq cq Ac cc p) (hl : SlAt hdE w B l) (hlm : l.length ≤ maxLen) :
    Calls Tryz.prog 61 #[.agg #[.slice Aq p.q.length cq, .slice Ac p.c.length cc], .slice B l.length cb] w (RefErr (PlnOK p ∧ HdsOK p l) w) := by
  have HP := Lib.hid hp
  have HL := Lib.hid hl
  have HB0 : Hid (Below w.heap.size w (w.alloc (.cells #[.slice Aq p.q.length cq, .slice Ac p.c.length cc] 25))) := (Below.refl _ _).alloc (Nat.le_refl _) _
  have HK := Lib.hid (Bk.new w 25 #[.slice Aq p.q.length cq, .slice Ac p.c.length cc])
  have HC := Lib.hid (fun w h => ref22Check_any Aq cq Ac cc p w h)
  clear hp hl
  unfold maxLen at hlm
  go_enter Tryz.func61, Tryz.ntmps61
  go_wp2_with fail
  generalize w.alloc (.cells #[.slice Aq p.q.length cq, .slice Ac p.c.length cc] 25) = W at HB0 HK ⊢
  generalize w.heap.size = g0 at HK ⊢
  refine (HC.out _ (HP.out.below HB0.out)).mono ?_
  rintro e w1 ⟨q, rfl, hq, hb1⟩
  have HQ := Lib.hid hq
  have HB1 := Lib.hid (below_next HB0.out hb1)
  have HK1 := Lib.hid (HK.out.below hb1 HK.out.lt)
  clear hq hb1 HB0 HK HC
  by_cases h0 : q = 0
  · subst h0
    have HPO := Lib.hid (HQ.out rfl)
    clear HQ
    by_cases h1 : (512 : Int) < (l.length : Int)
    · go_wp2
      go_ret
      exact refErr_no (by decide) HB1.out
    · have HLN : Hid (l.length ≤ 512) := by show _ ≤ _; omega
      go_wp2
      generalize hw1 : w1 = W1 at HB1 HK1 ⊢
      clear hw1
      go_loopw [5] (fun i wr => ∃ k : Nat, k ≤ l.length ∧ i = .int .i64 k ∧ Below W1.heap.size W1 wr ∧ (∀ b ∈ l.take k, HldOK p b) ∧ (l.take k).Pairwise hdLe) (fun i _ => l.length - (intOf i).toNat)
      case atStart => exact ⟨0, Nat.zero_le _, rfl, Below.refl _ _, by simp, by simp⟩
      case round =>
        obtain ⟨k, hk, rfl, hbw, hok, hpw⟩ := hrel
        have HB := Lib.hid hbw
        have HOK := Lib.hid hok
        have HPW := Lib.hid hpw
        clear hbw hok hpw
        by_cases hlt : k < l.length
        · have HLA := Lib.hid (HL.out.below (below_next HB1.out HB.out))
          obtain ⟨b, off, rfl, hr⟩ := HLA.out.one (by omega)
          obtain ⟨r, hrk⟩ : ∃ r, l[k]? = some r := ⟨_, List.getElem?_eq_getElem hlt⟩
          have HRK := Lib.hid hrk
          have HRA := Lib.hid hr
          have HRG : Hid (wr.rangeAt b (off + k * 5) (hdE.f r)) := hr k r hrk
          have HV := Lib.hid (fun w => ref28Valid_any Aq cq Ac cc p r w)
          clear hr hrk
          have HD : Hid (∀ w', Below wr.heap.size wr w' → (w'.cell? ⟨g0, 0, none⟩ = some (.slice Aq p.q.length cq) ∧ w'.cell? ⟨g0, 1, none⟩ = some (.slice Ac p.c.length cc)) ∧ w'.cell? ⟨b, off + k * 5, none⟩ = some (.int .i64 r.node) ∧ w'.cell? ⟨b, off + k * 5 + 1, none⟩ = some (.int .i64 r.frm) ∧ w'.cell? ⟨b, off + k * 5 + 2, none⟩ = some (.int .i64 r.til) ∧ w'.cell? ⟨b, off + k * 5 + 3, none⟩ = some (.int .i64 r.size) ∧ w'.cell? ⟨b, off + k * 5 + 4, none⟩ = some (.int .i64 r.tick)) := fun w' hb' => by
            have h2 := HK1.out.below (below_next HB.out hb') HK1.out.lt
            have h4 := range_below HRG.out hb'
            exact ⟨⟨h2.cell 0, h2.cell 1⟩, h4 0 _ rfl, h4 1 _ rfl, h4 2 _ rfl, h4 3 _ rfl, h4 4 _ rfl⟩
          go_wp2_with fail
          go_region_held3 (fun w' => ((w'.cell? ⟨g0, 0, none⟩ = some (.slice Aq p.q.length cq) ∧ w'.cell? ⟨g0, 1, none⟩ = some (.slice Ac p.c.length cc)) ∧ w'.cell? ⟨b, off + k * 5, none⟩ = some (.int .i64 r.node) ∧ w'.cell? ⟨b, off + k * 5 + 1, none⟩ = some (.int .i64 r.frm) ∧ w'.cell? ⟨b, off + k * 5 + 2, none⟩ = some (.int .i64 r.til) ∧ w'.cell? ⟨b, off + k * 5 + 3, none⟩ = some (.int .i64 r.size) ∧ w'.cell? ⟨b, off + k * 5 + 4, none⟩ = some (.int .i64 r.tick)) ∧ Hid (Below wr.heap.size wr w')) (((try go_split_ands); first | exact held_start HD (Below.refl _ _).drew | exact held_step HD (by assumption) hb4))
            ((go_at_call 131
              refine (HV.out _).mono ?_
              rintro e w4 ⟨v, rfl, hv, hb4⟩
              have HVV := Lib.hid hv
              clear hv))
          have HBF : Hid (Below wr.heap.size wr w4) := by (try go_split_ands); assumption
          cases v with
          | false =>
            go_wp2
            go_ret
            exact refErr_no (by decide) (below_next HB1.out (below_next HB.out HBF.out))
          | true =>
            have HN1 := Lib.hid (all_snoc HRK.out HOK.out (HVV.out rfl))
            have HBW := Lib.hid (below_next HB.out HBF.out)
            have HRX := Lib.hid (fun i y h => range_below (HRA.out i y h) HBF.out)
            clear HB HBF HD HV HVV
            generalize hw4 : w4 = W4 at HBW HRX ⊢
            cases k with
            | zero =>
              have HN2 : Hid ((l.take (0 + 1)).Pairwise hdLe) := by
                show List.Pairwise _ _
                rw [take_snoc HRK.out]
                simp
              rw [show ((0 : Nat) : Int) = 0 from rfl]
              clear hw4
              go_wp2
              go_quiet (fail)
              go_wp2
              go_roundw
              case rel => exact ⟨0 + 1, by omega, by go_num, below_drawN HBW.out _, HN1.out, HN2.out⟩
              case measure => simp [intOf]; omega
            | succ j =>
              obtain ⟨x, hx⟩ : ∃ x, l[j]? = some x := ⟨_, List.getElem?_eq_getElem (by omega)⟩
              have HX := Lib.hid hx
              have HXR := Lib.hid (HRX.out j x hx)
              have HRR := Lib.hid (HRX.out (j + 1) r HRK.out)
              have HLS := Lib.hid (fun w => ref28Less_any r x w)
              have hjl : (j : Int) < (l.length : Int) := by omega
              have hjl1 : (j : Int) + 1 < (l.length : Int) := by omega
              have hj0 : (0 : Int) ≤ (j : Int) := by omega
              have hj1 : (0 : Int) ≤ (j : Int) + 1 := by omega
              have hjt : ((j : Int) + 1).toNat = j + 1 := by omega
              have hjb : decide ((j : Int) + 1 > 0) = true := decide_eq_true (by omega)
              have hjb2 : (0 : Int) < (j : Int) + 1 := by omega
              have hjw : IntKind.i64.wrap ((j : Int) + 1 - 1) = (j : Int) := by rw [IntWalk.i64_in _ (by omega)]; omega
              have hjw2 : IntKind.i64.wrap (j : Int) = (j : Int) := IntWalk.i64_in _ (by omega)
              rw [show ((j + 1 : Nat) : Int) = (j : Int) + 1 by omega]
              have HD2 : Hid (∀ w', Below W4.heap.size W4 w' → (w'.cell? ⟨b, off + (j + 1) * 5, none⟩ = some (.int .i64 r.node) ∧ w'.cell? ⟨b, off + (j + 1) * 5 + 1, none⟩ = some (.int .i64 r.frm) ∧ w'.cell? ⟨b, off + (j + 1) * 5 + 2, none⟩ = some (.int .i64 r.til) ∧ w'.cell? ⟨b, off + (j + 1) * 5 + 3, none⟩ = some (.int .i64 r.size) ∧ w'.cell? ⟨b, off + (j + 1) * 5 + 4, none⟩ = some (.int .i64 r.tick)) ∧ w'.cell? ⟨b, off + j * 5, none⟩ = some (.int .i64 x.node) ∧ w'.cell? ⟨b, off + j * 5 + 1, none⟩ = some (.int .i64 x.frm) ∧ w'.cell? ⟨b, off + j * 5 + 2, none⟩ = some (.int .i64 x.til) ∧ w'.cell? ⟨b, off + j * 5 + 3, none⟩ = some (.int .i64 x.size) ∧ w'.cell? ⟨b, off + j * 5 + 4, none⟩ = some (.int .i64 x.tick)) := fun w' hb' => by
                have h4 := range_below HRR.out hb'
                have h5 := range_below HXR.out hb'
                exact ⟨⟨h4 0 _ rfl, h4 1 _ rfl, h4 2 _ rfl, h4 3 _ rfl, h4 4 _ rfl⟩, h5 0 _ rfl, h5 1 _ rfl, h5 2 _ rfl, h5 3 _ rfl, h5 4 _ rfl⟩
              have HSN : Hid (hdLe x r → (l.take (j + 1 + 1)).Pairwise hdLe) := by
                intro hxr
                rw [take_snoc HRK.out, take_snoc HX.out]
                refine hds_snoc ?_ hxr
                rw [← take_snoc HX.out]
                exact HPW.out
              clear hx hw4
              go_wp2
              go_region_held3 (fun w' => ((w'.cell? ⟨b, off + (j + 1) * 5, none⟩ = some (.int .i64 r.node) ∧ w'.cell? ⟨b, off + (j + 1) * 5 + 1, none⟩ = some (.int .i64 r.frm) ∧ w'.cell? ⟨b, off + (j + 1) * 5 + 2, none⟩ = some (.int .i64 r.til) ∧ w'.cell? ⟨b, off + (j + 1) * 5 + 3, none⟩ = some (.int .i64 r.size) ∧ w'.cell? ⟨b, off + (j + 1) * 5 + 4, none⟩ = some (.int .i64 r.tick)) ∧ w'.cell? ⟨b, off + j * 5, none⟩ = some (.int .i64 x.node) ∧ w'.cell? ⟨b, off + j * 5 + 1, none⟩ = some (.int .i64 x.frm) ∧ w'.cell? ⟨b, off + j * 5 + 2, none⟩ = some (.int .i64 x.til) ∧ w'.cell? ⟨b, off + j * 5 + 3, none⟩ = some (.int .i64 x.size) ∧ w'.cell? ⟨b, off + j * 5 + 4, none⟩ = some (.int .i64 x.tick)) ∧ Hid (Below W4.heap.size W4 w')) (((try go_split_ands); first | exact held_start HD2 (Below.refl _ _).drew | exact held_step HD2 (by assumption) hb5))
                ((go_at_call 132
                  refine (HLS.out _).mono ?_
                  rintro e w5 ⟨v, rfl, hv, hb5⟩
                  have HVV := Lib.hid hv
                  clear hv))
              have HBF : Hid (Below W4.heap.size W4 w5) := by (try go_split_ands); assumption
              cases v with
              | true =>
                go_wp2
                go_ret
                exact refErr_no (by decide) (below_next HB1.out (below_next HBW.out HBF.out))
              | false =>
                have HN2 := Lib.hid (HSN.out (HVV.out rfl))
                clear HSN HD2
                go_wp2
                go_roundw
                case rel => exact ⟨j + 1 + 1, by omega, by go_num, below_next HBW.out HBF.out, HN1.out, HN2.out⟩
                case measure => simp [intOf]; omega
        · have HAL : Hid (∀ h ∈ l, HldOK p h) := by
            intro h hh
            refine HOK.out h ?_
            rw [List.take_of_length_le (by omega)]
            exact hh
          have HAP : Hid (l.Pairwise hdLe) := by
            have h := HPW.out
            rwa [List.take_of_length_le (by omega)] at h
          have p0 : wr.cell? ⟨g0, 0, none⟩ = some (.slice Aq p.q.length cq) := (HK1.out.below HB.out HK1.out.lt).cell 0
          have p1 : wr.cell? ⟨g0, 1, none⟩ = some (.slice Ac p.c.length cc) := (HK1.out.below HB.out HK1.out.lt).cell 1
          have HFT := Lib.hid (fits_walk Aq cq Ac cc p B cb l wr (HP.out.below (below_next HB1.out HB.out)) (HL.out.below (below_next HB1.out HB.out)) HLN.out HAL.out)
          go_wp2_with fail
          refine HFT.out.mono ?_
          rintro e w5 ⟨v, rfl, hv, hb5⟩
          have HVV := Lib.hid hv
          have HB5 := Lib.hid (below_next HB.out hb5)
          clear hv hb5 HFT p0 p1
          cases v with
          | false =>
            go_wp2
            go_ret
            exact refErr_no (by decide) (below_next HB1.out HB5.out)
          | true =>
            have HF : Hid (PlnOK p ∧ HdsOK p l) := ⟨HPO.out, HLN.out, HAL.out, HAP.out, fits_all HAL.out (HVV.out rfl) (fun x hx => (HPO.out.2.1 x hx).1)⟩
            go_wp2
            go_ret
            exact refErr_yes HF.out (below_next HB1.out HB5.out)
  · have hqb : (q != 0) = true := by rw [bne_iff_ne]; exact h0
    clear h0
    go_wp2
    go_ret
    exact refErr_no (by decide) HB1.out
end Go.Proofs.YtebkgbmijocdjaaGreat.Tp
namespace Go.Proofs.YtebkgbmijocdjaaGreat.Tp
open Go Go.RowKit

/-- Tables in memory. -/
structure TblAt (w : World) (Aq : Option Addr) (cq : Nat) (Ac : Option Addr) (cc : Nat) (B : Option Addr) (cb : Nat) (H : Option Addr) (ch : Nat) (t : Tbl) : Prop where
  p : PlnAt w Aq cq Ac cc t.p
  b : SlAt bkE w B t.b
  h : SlAt hdE w H t.h
  bl : t.b.length ≤ cb
  hl : t.h.length ≤ ch
  bm : t.b.length ≤ maxLen
  hm : t.h.length ≤ maxLen
theorem TblAt.below {w w' : World} {Aq Ac B H : Option Addr} {cq cc cb ch : Nat} {t : Tbl} (h : TblAt w Aq cq Ac cc B cb H ch t) (hb : Below w.heap.size w w') : TblAt w' Aq cq Ac cc B cb H ch t := ⟨h.p.below hb, h.b.below hb, h.h.below hb, h.bl, h.hl, h.bm, h.hm⟩
abbrev tbA (Aq : Option Addr) (cq : Nat) (Ac : Option Addr) (cc : Nat) (B : Option Addr) (cb : Nat) (H : Option Addr) (ch : Nat) (t : Tbl) : Array Value := #[.slice Aq t.p.q.length cq, .slice Ac t.p.c.length cc, .slice B t.b.length cb, .slice H t.h.length ch]

set_option maxHeartbeats 4000000 in
set_option maxRecDepth 100000 in
theorem ref29Tables_any (Aq : Option Addr) (cq : Nat) (Ac : Option Addr) (cc : Nat) (B : Option Addr) (cb : Nat) (H : Option Addr) (ch : Nat) (t : Tbl) (w : World) (ht : TblAt w Aq cq Ac cc B cb H ch t) :
    Calls Tryz.prog 23 #[.agg #[.slice Aq t.p.q.length cq, .slice Ac t.p.c.length cc, .slice B t.b.length cb, .slice H t.h.length ch]] w (RefErr (TblOK t) w) := by
  have HT := Lib.hid ht
  have HB0 : Hid (Below w.heap.size w (w.alloc (.cells (tbA Aq cq Ac cc B cb H ch t) 29))) := (Below.refl _ _).alloc (Nat.le_refl _) _
  have HK := Lib.hid (Bk.new w 29 (tbA Aq cq Ac cc B cb H ch t))
  clear ht
  go_enter Tryz.func23, Tryz.ntmps23
  go_wp2_with fail
  generalize w.alloc (.cells (tbA Aq cq Ac cc B cb H ch t) 29) = W at HB0 HK ⊢
  generalize w.heap.size = g0 at HK ⊢
  refine (ref22Check_any Aq cq Ac cc t.p W (HT.out.p.below HB0.out)).mono ?_
  rintro e w1 ⟨q, rfl, hq, hb1⟩
  have HQ := Lib.hid hq
  have HB1 := Lib.hid (below_next HB0.out hb1)
  have HK1 := Lib.hid (HK.out.below hb1 HK.out.lt)
  clear hq hb1 HB0 HK
  by_cases h0 : q = 0
  · subst h0
    have t0 : w1.cell? ⟨g0, 0, none⟩ = some (.slice Aq t.p.q.length cq) := HK1.out.cell 0
    have t1 : w1.cell? ⟨g0, 1, none⟩ = some (.slice Ac t.p.c.length cc) := HK1.out.cell 1
    have t2 : w1.cell? ⟨g0, 2, none⟩ = some (.slice B t.b.length cb) := HK1.out.cell 2
    go_wp2_with fail
    refine (ref27Check_any Aq cq Ac cc t.p B cb t.b w1 (HT.out.p.below HB1.out) (HT.out.b.below HB1.out) HT.out.bm).mono ?_
    rintro e w2 ⟨q, rfl, hq, hb2⟩
    have HQ2 := Lib.hid hq
    have HB2 := Lib.hid (below_next HB1.out hb2)
    have HK2 := Lib.hid (HK1.out.below hb2 HK1.out.lt)
    clear hq hb2 HB1 HK1 t0 t1 t2 HQ
    by_cases h1 : q = 0
    · subst h1
      have HBS := Lib.hid (HQ2.out rfl)
      have t0 : w2.cell? ⟨g0, 0, none⟩ = some (.slice Aq t.p.q.length cq) := HK2.out.cell 0
      have t1 : w2.cell? ⟨g0, 1, none⟩ = some (.slice Ac t.p.c.length cc) := HK2.out.cell 1
      have t3 : w2.cell? ⟨g0, 3, none⟩ = some (.slice H t.h.length ch) := HK2.out.cell 3
      clear HQ2
      go_wp2_with fail
      refine (ref28Check_any Aq cq Ac cc t.p H ch t.h w2 (HT.out.p.below HB2.out) (HT.out.h.below HB2.out) HT.out.hm).mono ?_
      rintro e w3 ⟨q, rfl, hq, hb3⟩
      have HQ3 : Hid (q = 0 → TblOK t) := fun h => ⟨HBS.out.1, HBS.out.2, (hq h).2⟩
      have HB3 := Lib.hid (below_next HB2.out hb3)
      clear hq hb3 HB2 HK2 t0 t1 t3
      go_wp2
      go_ret
      exact ⟨_, rfl, HQ3.out, HB3.out⟩
    · have hqb : (q != 0) = true := by rw [bne_iff_ne]; exact h1
      have H1 := Lib.hid h1
      clear h1
      go_wp2
      go_ret
      exact refErr_no H1.out HB2.out
  · have hqb : (q != 0) = true := by rw [bne_iff_ne]; exact h0
    have H0 := Lib.hid h0
    clear h0
    go_wp2
    go_ret
    exact refErr_no H0.out HB1.out

set_option maxHeartbeats 4000000 in
set_option maxRecDepth 100000 in
theorem ref29Request_any (Aq : Option Addr) (cq : Nat) (Ac : Option Addr) (cc : Nat) (p : Pln) (r : Rq) (w : World) (hp : PlnAt w Aq cq Ac cc p) :
    Calls Tryz.prog 24 #[.agg #[.slice Aq p.q.length cq, .slice Ac p.c.length cc], .agg #[.int .i64 r.src, .int .i64 r.dst, .int .i64 r.size, .int .i64 r.ready, .int .i64 r.dead, .int .i64 r.prio, .bool r.cust]] w (RefErr (RqOK p r) w) := by
  have HP := Lib.hid hp
  have HO : Hid (PlnOK p → 0 ≤ r.src → r.src < p.q.length → 0 ≤ r.dst → r.dst < p.q.length → r.src ≠ r.dst → 1 ≤ r.size → r.size ≤ 65536 → 0 ≤ r.ready → r.ready ≤ r.dead → r.dead ≤ 1099511627776 → 0 ≤ r.prio → r.prio ≤ 2 → RqOK p r) := fun a b c d e f g h i j k l m => ⟨a, ⟨b, c⟩, ⟨d, e⟩, f, ⟨g, h⟩, i, j, k, l, m⟩
  generalize RqOK p r = Q at HO ⊢
  obtain ⟨r1, r2, r3, r4, r5, r6, r7⟩ := r
  simp only at HO ⊢
  have HB0 : Hid (Below w.heap.size w ((w.alloc (.cells #[.slice Aq p.q.length cq, .slice Ac p.c.length cc] 25)).alloc (.cells #[.int .i64 r1, .int .i64 r2, .int .i64 r3, .int .i64 r4, .int .i64 r5, .int .i64 r6, .bool r7] 31))) := ((Below.refl _ _).alloc (Nat.le_refl _) _).alloc (by simp) _
  have HK := Lib.hid ((Bk.new w 25 #[.slice Aq p.q.length cq, .slice Ac p.c.length cc]).alloc (.cells #[.int .i64 r1, .int .i64 r2, .int .i64 r3, .int .i64 r4, .int .i64 r5, .int .i64 r6, .bool r7] 31))
  have HR : Hid (Bk ((w.alloc (.cells #[.slice Aq p.q.length cq, .slice Ac p.c.length cc] 25)).alloc (.cells #[.int .i64 r1, .int .i64 r2, .int .i64 r3, .int .i64 r4, .int .i64 r5, .int .i64 r6, .bool r7] 31)) (w.heap.size + 1) 31 #[.int .i64 r1, .int .i64 r2, .int .i64 r3, .int .i64 r4, .int .i64 r5, .int .i64 r6, .bool r7]) := by
    have h := Bk.new (w.alloc (.cells #[.slice Aq p.q.length cq, .slice Ac p.c.length cc] 25)) 31 #[.int .i64 r1, .int .i64 r2, .int .i64 r3, .int .i64 r4, .int .i64 r5, .int .i64 r6, .bool r7]
    rwa [World.size_alloc] at h
  have hqm : p.q.length ≤ 9223372036854775807 := hp.qm
  clear hp
  go_enter Tryz.func24, Tryz.ntmps24
  go_wp2_with fail
  generalize (w.alloc (.cells #[.slice Aq p.q.length cq, .slice Ac p.c.length cc] 25)).alloc (.cells #[.int .i64 r1, .int .i64 r2, .int .i64 r3, .int .i64 r4, .int .i64 r5, .int .i64 r6, .bool r7] 31) = W at HB0 HK HR ⊢
  generalize w.heap.size = g0 at HK HR ⊢
  refine (ref22Check_any Aq cq Ac cc p W (HP.out.below HB0.out)).mono ?_
  rintro e w1 ⟨q, rfl, hq, hb1⟩
  have HQ := Lib.hid hq
  have HB1 := Lib.hid (below_next HB0.out hb1)
  have HK1 := Lib.hid (HK.out.below hb1 HK.out.lt)
  have HR1 := Lib.hid (HR.out.below hb1 HR.out.lt)
  clear hq hb1 HB0 HK HR
  by_cases h0 : q = 0
  · subst h0
    have HPO := Lib.hid (HQ.out rfl)
    have p0 : w1.cell? ⟨g0, 0, none⟩ = some (.slice Aq p.q.length cq) := HK1.out.cell 0
    have q0 : w1.cell? ⟨g0 + 1, 0, none⟩ = some (.int .i64 r1) := HR1.out.cell 0
    have q1 : w1.cell? ⟨g0 + 1, 1, none⟩ = some (.int .i64 r2) := HR1.out.cell 1
    have q2 : w1.cell? ⟨g0 + 1, 2, none⟩ = some (.int .i64 r3) := HR1.out.cell 2
    have q3 : w1.cell? ⟨g0 + 1, 3, none⟩ = some (.int .i64 r4) := HR1.out.cell 3
    have q4 : w1.cell? ⟨g0 + 1, 4, none⟩ = some (.int .i64 r5) := HR1.out.cell 4
    have q5 : w1.cell? ⟨g0 + 1, 5, none⟩ = some (.int .i64 r6) := HR1.out.cell 5
    clear HQ HK1 HR1
    by_cases hv : (0 ≤ r1 ∧ r1 < p.q.length) ∧ 0 ≤ r2 ∧ r2 < p.q.length
    · obtain ⟨⟨v1, v2⟩, v3, v4⟩ := hv
      by_cases he : r1 = r2
      · have e1 : (r1 == r2) = true := by simpa using he
        clear he
        go_wp2
        go_ret
        exact refErr_no (by decide) HB1.out
      · have e1 : (r1 == r2) = false := by simpa using he
        have HF := Lib.hid (HO.out HPO.out v1 v2 v3 v4 he)
        clear he HO
        by_cases hv2 : (1 ≤ r3 ∧ r3 ≤ 65536) ∧ 0 ≤ r4 ∧ r4 ≤ r5 ∧ r5 ≤ 1099511627776
        · obtain ⟨⟨v5, v6⟩, v7, v8, v9⟩ := hv2
          by_cases hv3 : 0 ≤ r6 ∧ r6 ≤ 2
          · have HG := Lib.hid (HF.out v5 v6 v7 v8 v9 hv3.1 hv3.2)
            obtain ⟨va, vb⟩ := hv3
            clear HF
            go_wp2
            go_ret
            exact refErr_yes HG.out HB1.out
          · clear HF
            go_wp2
            all_goals
              go_ret
              first
              | exact refErr_no (by decide) HB1.out
              | omega
        · clear HF
          go_wp2
          all_goals
            go_ret
            first
            | exact refErr_no (by decide) HB1.out
            | omega
    · clear HO
      go_wp2
      all_goals
        go_ret
        first
        | exact refErr_no (by decide) HB1.out
        | omega
  · have hqb : (q != 0) = true := by rw [bne_iff_ne]; exact h0
    clear h0
    go_wp2
    go_ret
    exact refErr_no (by decide) HB1.out
end Go.Proofs.YtebkgbmijocdjaaGreat.Tp
