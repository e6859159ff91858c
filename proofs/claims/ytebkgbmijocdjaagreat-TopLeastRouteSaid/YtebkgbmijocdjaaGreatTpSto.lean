/- storage.most and Check (of valid holds) of the program, walked. Condition: the plan and the holds lie in memory. -/
import Derived.Test.YtebkgbmijocdjaaGreatTpLev2
namespace Go.Proofs.YtebkgbmijocdjaaGreat.Tp
open Go Go.RowKit

set_option maxHeartbeats 4000000 in
set_option maxRecDepth 100000 in
theorem most_any (A : Option Addr) (c : Nat) (F : List Lvl) (w : World) (hA : SlAt lvE w A F) (hF : F.length ≤ 1000000) :
    Calls Tryz.prog 97 #[.slice A F.length c] w fun e w' => e = .returned (.int .i64 (mostL F)) ∧ Below w.heap.size w w' := by
  have HA := Lib.hid hA
  clear hA
  go_enter Tryz.func97, Tryz.ntmps97
  go_wp2
  go_loopw [3, 5, 8] (fun m _ i wr => ∃ k : Nat, k ≤ F.length ∧ i = .int .i64 k ∧ m = .int .i64 (mostL (F.take k)) ∧ Below w.heap.size w wr) (fun _ _ i _ => F.length - (intOf i).toNat)
  case atStart => exact ⟨0, Nat.zero_le _, rfl, rfl, Below.refl _ _⟩
  case round =>
    obtain ⟨k, hk, rfl, rfl, hbw⟩ := hrel
    have HB := Lib.hid hbw
    clear hbw
    by_cases hlt : k < F.length
    · obtain ⟨b, off, rfl, hr⟩ := (HA.out.below HB.out).one (by omega)
      obtain ⟨r, hrk⟩ : ∃ r, F[k]? = some r := ⟨_, List.getElem?_eq_getElem hlt⟩
      have hrg : wr.rangeAt b (off + k * 2) (lvE.f r) := hr k r hrk
      have c0 : wr.cell? ⟨b, off + k * 2, none⟩ = some (.int .i64 r.at_) := hrg 0 _ rfl
      have c1 : wr.cell? ⟨b, off + k * 2 + 1, none⟩ = some (.int .i64 r.val) := hrg 1 _ rfl
      have HM : Hid (mostL (F.take (k + 1)) = max (mostL (F.take k)) r.val) := by
        show _ = _
        rw [take_snoc hrk]
        unfold mostL
        rw [List.foldl_append]; rfl
      have HBN : Hid (Below w.heap.size w (wr.alloc (.cells #[.int .i64 r.at_, .int .i64 r.val] 216))) := HB.out.alloc HB.out.size _
      clear hr hrk hrg
      generalize mostL (F.take k) = m at HM
      by_cases hm : m < r.val
      · go_wp2
        go_roundw
        case rel => exact ⟨k + 1, by omega, by go_num, by rw [HM.out, show max m r.val = r.val by omega], HBN.out⟩
        case measure => simp [intOf]; omega
      · go_wp2
        go_roundw
        case rel => exact ⟨k + 1, by omega, by go_num, by rw [HM.out, show max m r.val = m by omega], HBN.out⟩
        case measure => simp [intOf]; omega
    · have HT : Hid (mostL (F.take k) = mostL F) := by show _ = _; rw [List.take_of_length_le (by omega)]
      go_wp2
      go_ret
      exact ⟨ret_i HT.out, HB.out⟩
/-- how holds compare -/
theorem hdC_le {a b : Hld} (h : hdLe a b) : hdC a b ≤ 0 := by
  unfold hdLe hdKey at h
  simp only [cmpL] at h
  unfold hdC
  simp only [orL]
  unfold cmpI
  by_cases h1 : a.node < b.node
  · simp [h1]
  · by_cases h1' : b.node < a.node
    · simp [h1, h1'] at h
    · by_cases h2 : a.frm < b.frm
      · simp [h1, h1', h2]
      · by_cases h2' : b.frm < a.frm
        · simp [h1, h1', h2, h2'] at h
        · by_cases h3 : a.til < b.til
          · simp [h1, h1', h2, h2', h3]
          · by_cases h3' : b.til < a.til
            · simp [h1, h1', h2, h2', h3, h3'] at h
            · by_cases h4 : a.tick < b.tick
              · simp [h1, h1', h2, h2', h3, h3', h4]
              · by_cases h4' : b.tick < a.tick
                · simp [h1, h1', h2, h2', h3, h3', h4, h4'] at h
                · by_cases h5 : a.size < b.size
                  · simp [h1, h1', h2, h2', h3, h3', h4, h4', h5]
                  · by_cases h5' : b.size < a.size
                    · simp [h1, h1', h2, h2', h3, h3', h4, h4', h5, h5'] at h
                    · simp [h1, h1', h2, h2', h3, h3', h4, h4', h5, h5']
set_option maxHeartbeats 4000000 in
set_option maxRecDepth 100000 in
theorem hdCheck_yes (Aq : Option Addr) (cq : Nat) (Ac : Option Addr) (cc : Nat) (p : Pln) (B : Option Addr) (cb : Nat) (l : List Hld) (w : World) (hp : PlnAt w Aq cq Ac cc p) (hl : SlAt hdE w B l) (hok : PlnOK p ∧ HdsOK p l) :
    Calls Tryz.prog 77 #[.agg #[.slice Aq p.q.length cq, .slice Ac p.c.length cc], .slice B l.length cb] w fun e w' => e = .returned (.int .i64 0) ∧ Below w.heap.size w w' := by
  have HP := Lib.hid hp
  have HL := Lib.hid hl
  have HOK := Lib.hid hok
  have hln : l.length ≤ 512 := hok.2.1
  have hql : p.q.length ≤ 16 := hok.1.1.2.1
  have HB0 : Hid (Below w.heap.size w (w.alloc (.cells #[.slice Aq p.q.length cq, .slice Ac p.c.length cc] 25))) := (Below.refl _ _).alloc (Nat.le_refl _) _
  have HK := Lib.hid (Bk.new w 25 #[.slice Aq p.q.length cq, .slice Ac p.c.length cc])
  have HC := Lib.hid (fun w h => plnCheck_any Aq cq Ac cc p w h)
  have hgt : ¬ (512 : Int) < (l.length : Int) := by omega
  clear hp hl hok
  go_enter Tryz.func77, Tryz.ntmps77
  go_wp2_with fail
  generalize w.alloc (.cells #[.slice Aq p.q.length cq, .slice Ac p.c.length cc] 25) = W at HB0 HK ⊢
  generalize w.heap.size = g0 at HK ⊢
  refine (HC.out _ (HP.out.below HB0.out)).mono ?_
  rintro e w1 ⟨q, rfl, hq, hb1⟩
  obtain rfl : q = 0 := hq.2 HOK.out.1
  have HB1 := Lib.hid (below_next HB0.out hb1)
  have HK1 := Lib.hid (HK.out.below hb1 HK.out.lt)
  clear hq hb1 HB0 HK HC
  go_wp2
  clear hgt
  generalize hw1 : w1 = W1 at HB1 HK1 ⊢
  clear hw1
  go_loopw [5, 6, 17] (fun _ _ i wr => ∃ k : Nat, k ≤ l.length ∧ i = .int .i64 k ∧ Below W1.heap.size W1 wr) (fun _ _ i _ => l.length - (intOf i).toNat)
  case atStart => exact ⟨0, Nat.zero_le _, rfl, Below.refl _ _⟩
  case round =>
    obtain ⟨k, hk, rfl, hbw⟩ := hrel
    obtain ⟨wq, rfl⟩ : ∃ wo : World, wo = wr := ⟨_, rfl⟩
    have HB := Lib.hid hbw
    clear hbw
    by_cases hlt : k < l.length
    · have HLA := Lib.hid (HL.out.below (below_next HB1.out HB.out))
      obtain ⟨b, off, rfl, hr⟩ := HLA.out.one (by omega)
      obtain ⟨r, hrk⟩ : ∃ r, l[k]? = some r := ⟨_, List.getElem?_eq_getElem hlt⟩
      have HRK := Lib.hid hrk
      have HRA := Lib.hid hr
      have hrg : wq.rangeAt b (off + k * 5) (hdE.f r) := hr k r hrk
      have c0 : wq.cell? ⟨b, off + k * 5, none⟩ = some (.int .i64 r.node) := hrg 0 _ rfl
      have c1 : wq.cell? ⟨b, off + k * 5 + 1, none⟩ = some (.int .i64 r.frm) := hrg 1 _ rfl
      have c2 : wq.cell? ⟨b, off + k * 5 + 2, none⟩ = some (.int .i64 r.til) := hrg 2 _ rfl
      have c3 : wq.cell? ⟨b, off + k * 5 + 3, none⟩ = some (.int .i64 r.size) := hrg 3 _ rfl
      have c4 : wq.cell? ⟨b, off + k * 5 + 4, none⟩ = some (.int .i64 r.tick) := hrg 4 _ rfl
      have HV := Lib.hid (fun w => hdValid_any Aq cq Ac cc p r w)
      have HHO : Hid (HldOK p r) := HOK.out.2.2.1 r (List.mem_of_getElem? hrk)
      have HKN := Lib.hid (Bk.new wq 99 (hdA r))
      have HBN : Hid (Below wq.heap.size wq (wq.alloc (.cells (hdA r) 99))) := (Below.refl _ _).alloc (Nat.le_refl _) _
      have HKP : Hid (Bk (wq.alloc (.cells (hdA r) 99)) g0 25 #[.slice Aq p.q.length cq, .slice Ac p.c.length cc]) := HK1.out.below (below_next HB.out HBN.out) HK1.out.lt
      have p0' : (wq.alloc (.cells (hdA r) 99)).cell? ⟨g0, 0, none⟩ = some (.slice Aq p.q.length cq) := HKP.out.cell 0
      have p1' : (wq.alloc (.cells (hdA r) 99)).cell? ⟨g0, 1, none⟩ = some (.slice Ac p.c.length cc) := HKP.out.cell 1
      clear hr hrk hrg
      go_wp2_with fail
      generalize wq.alloc (.cells (hdA r) 99) = W2 at HKN HBN HKP p0' p1' ⊢
      generalize hg1 : wq.heap.size = g1 at HKN ⊢
      clear hg1 c0 c1 c2 c3 c4 p0' p1'
      refine (HV.out _).mono ?_
      rintro e w4 ⟨v, rfl, hv, hb4⟩
      obtain rfl : v = true := hv.2 HHO.out
      have HB4 := Lib.hid (below_next (below_next HB.out HBN.out) hb4)
      have HK4 := Lib.hid (HKN.out.below hb4 HKN.out.lt)
      have HRX : Hid (∀ i y, l[i]? = some y → w4.rangeAt b (off + i * 5) (hdE.f y)) := fun i y h => range_below (HRA.out i y h) (below_next HBN.out hb4)
      clear hv hb4 HV HKN HBN HKP HHO
      cases k with
      | zero =>
        rw [show ((0 : Nat) : Int) = 0 from rfl]
        have hz0 : decide ((0 : Int) > 0) = false := by decide
        go_wp2_with fail
        go_quiet (fail)
        go_wp2
        go_roundw
        case rel => exact ⟨0 + 1, by omega, by go_num, below_drawN HB4.out _⟩
        case measure => simp [intOf]; omega
      | succ j =>
        obtain ⟨x, hx⟩ : ∃ x, l[j]? = some x := ⟨_, List.getElem?_eq_getElem (by omega)⟩
        have HX := Lib.hid hx
        have HXR := Lib.hid (HRX.out j x hx)
        have HCM := Lib.hid (fun w => hdCompare_any x r w)
        have hjl : (j : Int) < (l.length : Int) := by omega
        have hjl1 : (j : Int) + 1 < (l.length : Int) := by omega
        have hj0 : (0 : Int) ≤ (j : Int) := by omega
        have hj1 : (0 : Int) ≤ (j : Int) + 1 := by omega
        have hjt : ((j : Int) + 1).toNat = j + 1 := by omega
        have hjb : decide (((j : Int) + 1) > 0) = true := decide_eq_true (by omega)
        have hjw : IntKind.i64.wrap ((j : Int) + 1 - 1) = (j : Int) := by rw [IntWalk.i64_in _ (by omega)]; omega
        have hjw2 : IntKind.i64.wrap (j : Int) = (j : Int) := IntWalk.i64_in _ (by omega)
        rw [show ((j + 1 : Nat) : Int) = (j : Int) + 1 by omega]
        have HD2 : Hid (∀ w', Below w4.heap.size w4 w' → (w'.cell? ⟨g1, 0, none⟩ = some (.int .i64 r.node) ∧ w'.cell? ⟨g1, 1, none⟩ = some (.int .i64 r.frm) ∧ w'.cell? ⟨g1, 2, none⟩ = some (.int .i64 r.til) ∧ w'.cell? ⟨g1, 3, none⟩ = some (.int .i64 r.size) ∧ w'.cell? ⟨g1, 4, none⟩ = some (.int .i64 r.tick)) ∧ (w'.cell? ⟨b, off + j * 5, none⟩ = some (.int .i64 x.node) ∧ w'.cell? ⟨b, off + j * 5 + 1, none⟩ = some (.int .i64 x.frm) ∧ w'.cell? ⟨b, off + j * 5 + 2, none⟩ = some (.int .i64 x.til) ∧ w'.cell? ⟨b, off + j * 5 + 3, none⟩ = some (.int .i64 x.size) ∧ w'.cell? ⟨b, off + j * 5 + 4, none⟩ = some (.int .i64 x.tick))) := fun w' hb' => by
          have h4 := HK4.out.below hb' HK4.out.lt
          have h5 := range_below HXR.out hb'
          exact ⟨⟨h4.cell 0, h4.cell 1, h4.cell 2, h4.cell 3, h4.cell 4⟩, ⟨h5 0 _ rfl, h5 1 _ rfl, h5 2 _ rfl, h5 3 _ rfl, h5 4 _ rfl⟩⟩
        have HCZ : hdC x r ≤ 0 := hdC_le (pair_at HOK.out.2.2.2.1 HX.out HRK.out)
        generalize hdC x r = cz at HCM HCZ
        have e1 : decide (cz > 0) = false := by simpa using HCZ
        clear hx HCZ
        go_wp2_with fail
        go_region_held3 (fun w' => ((w'.cell? ⟨g1, 0, none⟩ = some (.int .i64 r.node) ∧ w'.cell? ⟨g1, 1, none⟩ = some (.int .i64 r.frm) ∧ w'.cell? ⟨g1, 2, none⟩ = some (.int .i64 r.til) ∧ w'.cell? ⟨g1, 3, none⟩ = some (.int .i64 r.size) ∧ w'.cell? ⟨g1, 4, none⟩ = some (.int .i64 r.tick)) ∧ (w'.cell? ⟨b, off + j * 5, none⟩ = some (.int .i64 x.node) ∧ w'.cell? ⟨b, off + j * 5 + 1, none⟩ = some (.int .i64 x.frm) ∧ w'.cell? ⟨b, off + j * 5 + 2, none⟩ = some (.int .i64 x.til) ∧ w'.cell? ⟨b, off + j * 5 + 3, none⟩ = some (.int .i64 x.size) ∧ w'.cell? ⟨b, off + j * 5 + 4, none⟩ = some (.int .i64 x.tick))) ∧ Hid (Below w4.heap.size w4 w')) (((try go_split_ands); first | exact held_start HD2 (Below.refl _ _).drew | exact held_step HD2 (by assumption) hb5))
          ((go_at_call 94
            refine (HCM.out _).mono ?_
            rintro e w5 ⟨rfl, hb5⟩))
        have HBF : Hid (Below w4.heap.size w4 w5) := by (try go_split_ands); assumption
        have HBW := Lib.hid (below_next HB4.out HBF.out)
        clear HD2 HBF
        go_wp2
        go_roundw
        case rel => exact ⟨j + 1 + 1, by omega, by go_num, HBW.out⟩
        case measure => simp [intOf]; omega
    · have HBQ := Lib.hid (below_next HB1.out HB.out)
      have HKQ := Lib.hid (HK1.out.below HB.out HK1.out.lt)
      have HMO := Lib.hid (fun A c F w hA hF => most_any A c F w hA hF)
      have HLV := Lib.hid (fun n w hl => levels_any B cb l n w hl (by omega) (fun h hh => by
        have := HOK.out.2.2.1 h hh
        unfold HldOK at this
        exact ⟨by omega, okI_of (by omega) (by omega), okI_of (by omega) (by omega)⟩))
      have q0 := HKQ.out.cell 0
      clear HB
      go_wp2_with fail
      clear q0
      go_loopw [7, 8, 42] (fun _ _ i wr => ∃ k : Nat, k ≤ p.q.length ∧ i = .int .i64 k ∧ Below wq.heap.size wq wr) (fun _ _ i _ => p.q.length - (intOf i).toNat)
      case atStart => exact ⟨0, Nat.zero_le _, rfl, Below.refl _ _⟩
      case round =>
        obtain ⟨n, hn, rfl, hbw⟩ := hrel
        have HB := Lib.hid (below_next HBQ.out hbw)
        have HB2 := Lib.hid hbw
        clear hbw
        by_cases hnt : n < p.q.length
        · obtain ⟨b, off, rfl, hr⟩ := (HP.out.q.below HB.out).one (by omega)
          obtain ⟨x, hx⟩ : ∃ x, p.q[n]? = some x := ⟨_, List.getElem?_eq_getElem hnt⟩
          have hc0 : wr.cell? ⟨b, off + n, none⟩ = some (.int .i64 x) := by
            have := hr n x hx 0 _ rfl
            simpa [intE] using this
          have HX0 : Hid (mostL (levelsL l n) ≤ x) := by
            have h1 := HOK.out.1.2.1 x (List.mem_of_getElem? hx)
            exact (most_le (fun h hh => by have := HOK.out.2.2.1 h hh; unfold HldOK at this; omega) h1.1).2 (HOK.out.2.2.2.2 n x hx)
          clear hr hx
          go_wp2_with fail
          refine (HLV.out (n : Int) _ (HL.out.below HB.out)).mono ?_
          rintro e w2 ⟨A2, c2, rfl, hs2, hc2, hbk2, hb2⟩
          have HS2 := Lib.hid hs2
          have HB3 := Lib.hid (below_next HB2.out hb2)
          have hll : (levelsL l n).length ≤ 1000000 := by
            have h1 := lvGo_len (chg (evL l n)) 0 (sortT (evL l n))
            have h2 : (sortT (evL l n)).length = (timesL (evL l n)).length := List.length_mergeSort _
            have h3 := timesL_len (evL l n)
            have h4 := evL_len l n
            rw [← levelsL_eq] at h1
            omega
          clear hs2 hc2 hbk2 hb2 hc0
          go_wp2_with fail
          refine (HMO.out A2 c2 (levelsL l n) _ HS2.out hll).mono ?_
          rintro e w3 ⟨rfl, hb3⟩
          have HB4 := Lib.hid (below_next HB3.out hb3)
          have hx0 : ¬ x < mostL (levelsL l n) := by have := HX0.out; omega
          clear hb3 hll
          go_wp2
          go_roundw
          case rel => exact ⟨n + 1, by omega, by go_num, HB4.out⟩
          case measure => simp [intOf]; omega
        · go_wp2
          go_ret
          exact ⟨rfl, HB.out⟩
end Go.Proofs.YtebkgbmijocdjaaGreat.Tp
