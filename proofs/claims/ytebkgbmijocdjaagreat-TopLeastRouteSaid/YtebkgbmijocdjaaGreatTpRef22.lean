/- The reference's checks of contacts and plans, walked: what their OK tells. Condition: the plan lies in memory. -/
import Derived.Test.YtebkgbmijocdjaaGreatTpPlan
namespace Go.Proofs.YtebkgbmijocdjaaGreat.Tp
open Go Go.RowKit

/-- an error number; 0 tells P -/
def RefErr (P : Prop) (w : World) (e : Ending) (w' : World) : Prop := ∃ q : Int, e = .returned (.int .i64 q) ∧ (q = 0 → P) ∧ Below w.heap.size w w'
theorem refErr_yes {P : Prop} {w w' : World} {q : Int} (h : P) (hb : Below w.heap.size w w') : RefErr P w (.returned (.int .i64 q)) w' := ⟨q, rfl, fun _ => h, hb⟩
theorem refErr_no {P : Prop} {w w' : World} {q : Int} (hq : q ≠ 0) (hb : Below w.heap.size w w') : RefErr P w (.returned (.int .i64 q)) w' := ⟨q, rfl, fun c => absurd c hq, hb⟩

set_option maxHeartbeats 4000000 in
set_option maxRecDepth 100000 in
theorem ref21Check_any (c : Ct) (w : World) : Calls Tryz.prog 128 #[.agg #[.int .i64 c.src, .int .i64 c.dst, .int .i64 c.beg, .int .i64 c.fin, .int .i64 c.rate, .int .i64 c.rng, .int .i64 c.loss]] w (RetErr (CtOK c) w) := by
  have HB : Hid (Below w.heap.size w (w.alloc (.cells (ctA c) 104))) := (Below.refl _ _).alloc (Nat.le_refl _) _
  go_enter Tryz.func128, Tryz.ntmps128
  go_wp2
  all_goals
    go_ret
    first
    | exact retErr_no (by decide) (fun h => by obtain ⟨⟨_, _⟩, ⟨_, _⟩, ⟨_, _⟩, ⟨_, _⟩, ⟨_, _⟩, _, _, _, _⟩ := h; omega) HB.out
    | exact retErr_no (by decide) (fun h => h.2.2.2.2.2.1 (by simpa using (by assumption : (c.src == c.dst) = true))) HB.out
    | (refine retErr_yes ?_ HB.out
       have hne : ¬ c.src = c.dst := by simpa using (by assumption : (c.src == c.dst) = false)
       exact ⟨⟨by omega, by omega⟩, ⟨by omega, by omega⟩, ⟨by omega, by omega⟩, ⟨by omega, by omega⟩, ⟨by omega, by omega⟩, hne, by omega, by omega, by omega⟩)

set_option maxHeartbeats 4000000 in
set_option maxRecDepth 100000 in
theorem ref21Ovl_any (a b : Ct) (ha : CtOK a) (hb : CtOK b) (w : World) : Calls Tryz.prog 129 #[.agg #[.int .i64 a.src, .int .i64 a.dst, .int .i64 a.beg, .int .i64 a.fin, .int .i64 a.rate, .int .i64 a.rng, .int .i64 a.loss], .agg #[.int .i64 b.src, .int .i64 b.dst, .int .i64 b.beg, .int .i64 b.fin, .int .i64 b.rate, .int .i64 b.rng, .int .i64 b.loss]] w fun e w' => ∃ v : Bool, e = .returned (.bool v) ∧ (v = false → ¬ Ovl b a) ∧ Below w.heap.size w w' := by
  have HB0 : Hid (Below w.heap.size w ((w.alloc (.cells (ctA a) 104)).alloc (.cells (ctA b) 104))) := ((Below.refl _ _).alloc (Nat.le_refl _) _).alloc (by simp) _
  have HK := Lib.hid ((Bk.new w 104 (ctA a)).alloc (.cells (ctA b) 104))
  have HL : Hid (Bk ((w.alloc (.cells (ctA a) 104)).alloc (.cells (ctA b) 104)) (w.heap.size + 1) 104 (ctA b)) := by
    have h := Bk.new (w.alloc (.cells (ctA a) 104)) 104 (ctA b)
    rwa [World.size_alloc] at h
  have HC := Lib.hid (fun w => ref21Check_any a w)
  have HD := Lib.hid (fun w => ref21Check_any b w)
  have HV := Lib.hid (And.intro ha hb)
  have HF : Hid (a.beg < a.fin ∧ b.beg < b.fin) := ⟨ha.2.2.2.2.2.2.2.1, hb.2.2.2.2.2.2.2.1⟩
  clear ha hb
  go_enter Tryz.func129, Tryz.ntmps129
  go_wp2_with fail
  generalize (w.alloc (.cells (ctA a) 104)).alloc (.cells (ctA b) 104) = W at HB0 HK HL ⊢
  refine (HC.out _).mono ?_
  rintro e w1 ⟨q, rfl, hq, hb1⟩
  obtain rfl : q = 0 := hq.2 HV.out.1
  have HB1 := Lib.hid (below_next HB0.out hb1)
  have HK1 := Lib.hid (HK.out.below hb1 HK.out.lt)
  have HL1 := Lib.hid (HL.out.below hb1 HL.out.lt)
  clear hq hb1 HB0 HC HK HL
  obtain ⟨d0, d1, d2, d3, d4, d5, d6⟩ := ctCells_bk HL1.out
  go_wp2_with fail
  refine (HD.out _).mono ?_
  rintro e w2 ⟨q, rfl, hq, hb2⟩
  obtain rfl : q = 0 := hq.2 HV.out.2
  have HB2 := Lib.hid (below_next HB1.out hb2)
  have HK2 := Lib.hid (HK1.out.below hb2 HK1.out.lt)
  have HL2 := Lib.hid (HL1.out.below hb2 HL1.out.lt)
  clear hq hb2 HB1 HD HK1 HL1 HV d0 d1 d2 d3 d4 d5 d6
  obtain ⟨c0, c1, c2, c3, c4, c5, c6⟩ := ctCells_bk HK2.out
  obtain ⟨d0, d1, d2, d3, d4, d5, d6⟩ := ctCells_bk HL2.out
  have HO : Hid (Ovl b a ↔ b.src = a.src ∧ b.dst = a.dst ∧ max b.beg a.beg < min b.fin a.fin) := Iff.rfl
  by_cases hs : a.src = b.src
  · by_cases hd : a.dst = b.dst
    · have HE := Lib.hid (And.intro hs hd)
      have e1 : (a.src == b.src) = true := by simpa using hs
      have e2 : (a.dst == b.dst) = true := by simpa using hd
      clear hs hd
      by_cases h1 : a.beg < b.fin
      · by_cases h2 : b.beg < a.fin
        · go_wp2
          go_ret
          exact ⟨_, rfl, fun h => by (try simp at h), HB2.out⟩
        · have HN : Hid (¬ Ovl b a) := fun h => by have := (HO.out.1 h).2.2; omega
          go_wp2
          go_ret
          exact ⟨_, rfl, fun _ => HN.out, HB2.out⟩
      · have HN : Hid (¬ Ovl b a) := fun h => by have := (HO.out.1 h).2.2; omega
        have d1 : decide (a.beg < b.fin) = false := by simpa using h1
        go_wp2
        go_ret
        exact ⟨_, rfl, fun _ => HN.out, HB2.out⟩
    · have HN : Hid (¬ Ovl b a) := fun h => hd (HO.out.1 h).2.1.symm
      have e1 : (a.src == b.src) = true := by simpa using hs
      have e2 : (a.dst == b.dst) = false := by simpa using hd
      clear hs hd
      go_wp2
      go_ret
      exact ⟨_, rfl, fun _ => HN.out, HB2.out⟩
  · have HN : Hid (¬ Ovl b a) := fun h => hs (HO.out.1 h).1.symm
    have e1 : (a.src == b.src) = false := by simpa using hs
    clear hs
    go_wp2
    go_ret
    exact ⟨_, rfl, fun _ => HN.out, HB2.out⟩

set_option maxHeartbeats 4000000 in
set_option maxRecDepth 100000 in
theorem ref22Check_any (Aq : Option Addr) (cq : Nat) (Ac : Option Addr) (cc : Nat) (p : Pln) (w : World) (hp : PlnAt w Aq cq Ac cc p) :
    Calls Tryz.prog 59 #[.agg #[.slice Aq p.q.length cq, .slice Ac p.c.length cc]] w (RefErr (PlnOK p) w) := by
  have HP := Lib.hid hp
  have HO : Hid (PlnOK p ↔ (1 ≤ p.q.length ∧ p.q.length ≤ 16 ∧ p.c.length ≤ 64) ∧ (∀ x ∈ p.q, 0 ≤ x ∧ x ≤ 1073741824) ∧ (∀ c ∈ p.c, CtOK c ∧ c.src < p.q.length ∧ c.dst < p.q.length) ∧ p.c.Pairwise fun a b => ¬ Ovl b a) := Iff.rfl
  have HB0 : Hid (Below w.heap.size w (w.alloc (.cells #[.slice Aq p.q.length cq, .slice Ac p.c.length cc] 25))) := (Below.refl _ _).alloc (Nat.le_refl _) _
  have HK := Lib.hid (Bk.new w 25 #[.slice Aq p.q.length cq, .slice Ac p.c.length cc])
  clear hp
  by_cases h1 : (p.q.length : Int) < 1
  · go_enter Tryz.func59, Tryz.ntmps59
    go_wp2
    go_ret
    exact refErr_no (by decide) HB0.out
  · by_cases h2 : (16 : Int) < (p.q.length : Int)
    · go_enter Tryz.func59, Tryz.ntmps59
      go_wp2
      go_ret
      exact refErr_no (by decide) HB0.out
    · by_cases h3 : (64 : Int) < (p.c.length : Int)
      · go_enter Tryz.func59, Tryz.ntmps59
        go_wp2
        go_ret
        exact refErr_no (by decide) HB0.out
      · have HSZ : Hid (1 ≤ p.q.length ∧ p.q.length ≤ 16 ∧ p.c.length ≤ 64) := ⟨by omega, by omega, by omega⟩
        have hql : p.q.length ≤ 16 := by omega
        have hcl : p.c.length ≤ 64 := by omega
        go_enter Tryz.func59, Tryz.ntmps59
        go_wp2
        generalize w.alloc (.cells #[.slice Aq p.q.length cq, .slice Ac p.c.length cc] 25) = W at HB0 HK ⊢
        generalize w.heap.size = g0 at HK ⊢
        have p0 : W.cell? ⟨g0, 0, none⟩ = some (.slice Aq p.q.length cq) := HK.out.cell 0
        have p1 : W.cell? ⟨g0, 1, none⟩ = some (.slice Ac p.c.length cc) := HK.out.cell 1
        go_loop [3] (fun i => ∃ k : Nat, k ≤ p.q.length ∧ i = .int .i64 k ∧ ∀ x ∈ p.q.take k, 0 ≤ x ∧ x ≤ 1073741824) (fun i => p.q.length - (intOf i).toNat)
        case atStart => exact ⟨0, Nat.zero_le _, rfl, by simp⟩
        case round =>
          obtain ⟨k, hk, rfl, hq⟩ := hrel
          have HQ := Lib.hid hq
          clear hq
          by_cases hlt : k < p.q.length
          · obtain ⟨b, off, rfl, hr⟩ := HP.out.q.one (by omega)
            obtain ⟨x, hx⟩ : ∃ x, p.q[k]? = some x := ⟨_, List.getElem?_eq_getElem hlt⟩
            have hrg : W.rangeAt b (off + k * 1) (intE.f x) := range_below (hr k x hx) HB0.out
            have c0 : W.cell? ⟨b, off + k, none⟩ = some (.int .i64 x) := by have := hrg 0 _ rfl; simpa using this
            have HX := Lib.hid hx
            clear hr hx hrg
            by_cases h8 : x < 0
            · go_wp2
              go_ret
              exact refErr_no (by decide) HB0.out
            · by_cases h9 : 1073741824 < x
              · go_wp2
                go_ret
                exact refErr_no (by decide) HB0.out
              · have HN : Hid (∀ y ∈ p.q.take (k + 1), 0 ≤ y ∧ y ≤ 1073741824) := by
                  intro y hy
                  rw [take_snoc HX.out] at hy
                  rcases List.mem_append.1 hy with h | h
                  · exact HQ.out y h
                  · rw [List.mem_singleton.1 h]; omega
                go_wp2
                go_round
                case rel => exact ⟨k + 1, by omega, by go_num, HN.out⟩
                case measure => simp [intOf]; omega
          · have HQA : Hid (∀ x ∈ p.q, 0 ≤ x ∧ x ≤ 1073741824) := by
              intro x hx
              refine HQ.out x ?_
              rw [List.take_of_length_le (by omega)]
              exact hx
            clear HQ
            go_wp2
            clear p0 p1
            go_loopw [4, 5, 6, 7] (fun i _ _ _ wr => ∃ k : Nat, k ≤ p.c.length ∧ i = .int .i64 k ∧ Below W.heap.size W wr ∧ (∀ c ∈ p.c.take k, CtOK c ∧ c.src < p.q.length ∧ c.dst < p.q.length) ∧ (p.c.take k).Pairwise fun a b => ¬ Ovl b a) (fun i _ _ _ _ => p.c.length - (intOf i).toNat)
            case atStart => exact ⟨0, Nat.zero_le _, rfl, Below.refl _ _, by simp, by simp⟩
            case round =>
              obtain ⟨k, hk, rfl, hbw, hok, hpw⟩ := hrel
              obtain ⟨wq, rfl⟩ : ∃ wo : World, wo = wr := ⟨_, rfl⟩
              have HB := Lib.hid hbw
              have HOK := Lib.hid hok
              have HPW := Lib.hid hpw
              clear hbw hok hpw
              have HK1 := Lib.hid (HK.out.below HB.out HK.out.lt)
              have p1 : wq.cell? ⟨g0, 1, none⟩ = some (.slice Ac p.c.length cc) := HK1.out.cell 1
              by_cases hlt : k < p.c.length
              · have HPC := Lib.hid ((HP.out.c.below HB0.out).below HB.out)
                obtain ⟨b, off, rfl, hr⟩ := HPC.out.one (by omega)
                obtain ⟨r, hrk⟩ : ∃ r, p.c[k]? = some r := ⟨_, List.getElem?_eq_getElem hlt⟩
                have HRK := Lib.hid hrk
                have HRA := Lib.hid hr
                have hrg : wq.rangeAt b (off + k * 7) (ctE.f r) := hr k r hrk
                have c0 : wq.cell? ⟨b, off + k * 7, none⟩ = some (.int .i64 r.src) := hrg 0 _ rfl
                have c1 : wq.cell? ⟨b, off + k * 7 + 1, none⟩ = some (.int .i64 r.dst) := hrg 1 _ rfl
                have c2 : wq.cell? ⟨b, off + k * 7 + 2, none⟩ = some (.int .i64 r.beg) := hrg 2 _ rfl
                have c3 : wq.cell? ⟨b, off + k * 7 + 3, none⟩ = some (.int .i64 r.fin) := hrg 3 _ rfl
                have c4 : wq.cell? ⟨b, off + k * 7 + 4, none⟩ = some (.int .i64 r.rate) := hrg 4 _ rfl
                have c5 : wq.cell? ⟨b, off + k * 7 + 5, none⟩ = some (.int .i64 r.rng) := hrg 5 _ rfl
                have c6 : wq.cell? ⟨b, off + k * 7 + 6, none⟩ = some (.int .i64 r.loss) := hrg 6 _ rfl
                have HC := Lib.hid (fun w => ref21Check_any r w)
                have HKN := Lib.hid (Bk.new wq 104 (ctA r))
                have HBN : Hid (Below wq.heap.size wq (wq.alloc (.cells (ctA r) 104))) := (Below.refl _ _).alloc (Nat.le_refl _) _
                clear hr hrk hrg
                go_wp2_with fail
                generalize wq.alloc (.cells (ctA r) 104) = W1 at HKN HBN ⊢
                generalize hg1 : wq.heap.size = g1 at HKN ⊢
                clear hg1 c0 c1 c2 c3 c4 c5 c6 p1
                refine (HC.out _).mono ?_
                rintro e w2 ⟨q, rfl, hq, hb2⟩
                have HQ2 := Lib.hid hq
                have HB2 := Lib.hid (below_next (below_next HB.out HBN.out) hb2)
                have HK2 := Lib.hid (HKN.out.below hb2 HKN.out.lt)
                have HBQ : Hid (Below wq.heap.size wq w2) := below_next HBN.out hb2
                clear hq hb2 HC HKN HBN
                by_cases h0 : q = 0
                · subst h0
                  have HCO := Lib.hid (HQ2.out.1 rfl)
                  clear HQ2
                  have d0 : w2.cell? ⟨g1, 0, none⟩ = some (.int .i64 r.src) := HK2.out.cell 0
                  have d1 : w2.cell? ⟨g1, 1, none⟩ = some (.int .i64 r.dst) := HK2.out.cell 1
                  have p0 : w2.cell? ⟨g0, 0, none⟩ = some (.slice Aq p.q.length cq) := (HK.out.below HB2.out HK.out.lt).cell 0
                  by_cases hs : (p.q.length : Int) ≤ r.src
                  · go_wp2
                    go_ret
                    exact refErr_no (by decide) (below_next HB0.out HB2.out)
                  · have e1 : decide (r.src ≥ (p.q.length : Int)) = false := by simpa using hs
                    by_cases hs2 : (p.q.length : Int) ≤ r.dst
                    · go_wp2
                      go_ret
                      exact refErr_no (by decide) (below_next HB0.out HB2.out)
                    · have e2 : decide (r.dst ≥ (p.q.length : Int)) = false := by simpa using hs2
                      have HRD : Hid (r.src < p.q.length ∧ r.dst < p.q.length) := ⟨by omega, by omega⟩
                      have HTK := Lib.hid (take_snoc HRK.out)
                      clear hs hs2
                      go_wp2
                      clear d0 d1 p0 e1 e2
                      go_loopw [7] (fun j wi => ∃ d : Nat, d ≤ k ∧ j = .int .i64 d ∧ Below w2.heap.size w2 wi ∧ ∀ x ∈ p.c.take d, ¬ Ovl r x) (fun j _ => k - (intOf j).toNat)
                      case atStart => exact ⟨0, Nat.zero_le _, rfl, Below.refl _ _, by simp⟩
                      case round =>
                        obtain ⟨d, hd, rfl, hbi, hno⟩ := hrel
                        have HBI := Lib.hid hbi
                        have HNO := Lib.hid hno
                        clear hbi hno
                        by_cases hlt2 : d < k
                        · obtain ⟨x, hx⟩ : ∃ x, p.c[d]? = some x := ⟨_, List.getElem?_eq_getElem (by omega)⟩
                          have HX := Lib.hid hx
                          have HXO : Hid (CtOK x) := (HOK.out x (List.mem_of_getElem? (by rw [List.getElem?_take, if_pos hlt2]; exact hx))).1
                          have HCO2 := Lib.hid (fun w => ref21Ovl_any x r HXO.out HCO.out w)
                          have hdl : d < p.c.length := by omega
                          have HXR : Hid (wq.rangeAt b (off + d * 7) (ctE.f x)) := HRA.out d x hx
                          clear hx
                          have HD : Hid (∀ w', Below wr.heap.size wr w' → (w'.cell? ⟨g0, 1, none⟩ = some (.slice (some ⟨b, off, none⟩) p.c.length cc) ∧ w'.cell? ⟨g1, 0, none⟩ = some (.int .i64 r.src) ∧ w'.cell? ⟨g1, 1, none⟩ = some (.int .i64 r.dst) ∧ w'.cell? ⟨g1, 2, none⟩ = some (.int .i64 r.beg) ∧ w'.cell? ⟨g1, 3, none⟩ = some (.int .i64 r.fin) ∧ w'.cell? ⟨g1, 4, none⟩ = some (.int .i64 r.rate) ∧ w'.cell? ⟨g1, 5, none⟩ = some (.int .i64 r.rng) ∧ w'.cell? ⟨g1, 6, none⟩ = some (.int .i64 r.loss)) ∧ w'.cell? ⟨b, off + d * 7, none⟩ = some (.int .i64 x.src) ∧ w'.cell? ⟨b, off + d * 7 + 1, none⟩ = some (.int .i64 x.dst) ∧ w'.cell? ⟨b, off + d * 7 + 2, none⟩ = some (.int .i64 x.beg) ∧ w'.cell? ⟨b, off + d * 7 + 3, none⟩ = some (.int .i64 x.fin) ∧ w'.cell? ⟨b, off + d * 7 + 4, none⟩ = some (.int .i64 x.rate) ∧ w'.cell? ⟨b, off + d * 7 + 5, none⟩ = some (.int .i64 x.rng) ∧ w'.cell? ⟨b, off + d * 7 + 6, none⟩ = some (.int .i64 x.loss)) := fun w' hb' => by
                            have h1 := below_next HBI.out hb'
                            have h2 := HK.out.below (below_next HB2.out h1) HK.out.lt
                            have h3 := HK2.out.below h1 HK2.out.lt
                            have h4 := range_below HXR.out (below_next HBQ.out h1)
                            exact ⟨⟨h2.cell 1, h3.cell 0, h3.cell 1, h3.cell 2, h3.cell 3, h3.cell 4, h3.cell 5, h3.cell 6⟩, h4 0 _ rfl, h4 1 _ rfl, h4 2 _ rfl, h4 3 _ rfl, h4 4 _ rfl, h4 5 _ rfl, h4 6 _ rfl⟩
                          go_wp2_with fail
                          go_region_held3 (fun w' => ((w'.cell? ⟨g0, 1, none⟩ = some (.slice (some ⟨b, off, none⟩) p.c.length cc) ∧ w'.cell? ⟨g1, 0, none⟩ = some (.int .i64 r.src) ∧ w'.cell? ⟨g1, 1, none⟩ = some (.int .i64 r.dst) ∧ w'.cell? ⟨g1, 2, none⟩ = some (.int .i64 r.beg) ∧ w'.cell? ⟨g1, 3, none⟩ = some (.int .i64 r.fin) ∧ w'.cell? ⟨g1, 4, none⟩ = some (.int .i64 r.rate) ∧ w'.cell? ⟨g1, 5, none⟩ = some (.int .i64 r.rng) ∧ w'.cell? ⟨g1, 6, none⟩ = some (.int .i64 r.loss)) ∧ w'.cell? ⟨b, off + d * 7, none⟩ = some (.int .i64 x.src) ∧ w'.cell? ⟨b, off + d * 7 + 1, none⟩ = some (.int .i64 x.dst) ∧ w'.cell? ⟨b, off + d * 7 + 2, none⟩ = some (.int .i64 x.beg) ∧ w'.cell? ⟨b, off + d * 7 + 3, none⟩ = some (.int .i64 x.fin) ∧ w'.cell? ⟨b, off + d * 7 + 4, none⟩ = some (.int .i64 x.rate) ∧ w'.cell? ⟨b, off + d * 7 + 5, none⟩ = some (.int .i64 x.rng) ∧ w'.cell? ⟨b, off + d * 7 + 6, none⟩ = some (.int .i64 x.loss)) ∧ Hid (Below wr.heap.size wr w')) (((try go_split_ands); first | exact held_start HD (Below.refl _ _).drew | exact held_step HD (by assumption) hb4))
                            ((go_at_call 129
                              refine (HCO2.out _).mono ?_
                              rintro e w4 ⟨v, rfl, hv, hb4⟩
                              have HV := Lib.hid hv
                              clear hv))
                          have HBF : Hid (Below wr.heap.size wr w4) := by (try go_split_ands); assumption
                          cases v with
                          | true =>
                            go_wp2
                            go_ret
                            exact refErr_no (by decide) (below_next HB0.out (below_next HB2.out (below_next HBI.out HBF.out)))
                          | false =>
                            have HN : Hid (∀ y ∈ p.c.take (d + 1), ¬ Ovl r y) := by
                              intro y hy
                              rw [take_snoc HX.out] at hy
                              rcases List.mem_append.1 hy with h | h
                              · exact HNO.out y h
                              · rw [List.mem_singleton.1 h]; exact HV.out rfl
                            go_wp2
                            go_roundw
                            case rel => exact ⟨d + 1, by omega, by go_num, below_next HBI.out HBF.out, HN.out⟩
                            case measure => simp [intOf]; omega
                        · have HKE : Hid (∀ x ∈ p.c.take k, ¬ Ovl r x) := by
                            have h := HNO.out
                            rwa [show d = k by omega] at h
                          have HN1 : Hid (∀ c ∈ p.c.take (k + 1), CtOK c ∧ c.src < p.q.length ∧ c.dst < p.q.length) := by
                            intro c hc
                            rw [HTK.out] at hc
                            rcases List.mem_append.1 hc with h | h
                            · exact HOK.out c h
                            · rw [List.mem_singleton.1 h]; exact ⟨HCO.out, HRD.out⟩
                          have HN2 : Hid ((p.c.take (k + 1)).Pairwise fun a b => ¬ Ovl b a) := by
                            show List.Pairwise _ _
                            rw [HTK.out, List.pairwise_append]
                            refine ⟨HPW.out, by simp, fun d hd c hc => ?_⟩
                            rw [List.mem_singleton.1 hc]
                            exact HKE.out d hd
                          go_wp2
                          go_roundw
                          case rel => exact ⟨k + 1, by omega, by go_num, below_next HB2.out HBI.out, HN1.out, HN2.out⟩
                          case measure => simp [intOf]; omega
                · have hqb : (q != 0) = true := by rw [bne_iff_ne]; exact h0
                  have H0 := Lib.hid h0
                  clear h0
                  go_wp2
                  go_ret
                  exact refErr_no H0.out (below_next HB0.out HB2.out)
              · have HF : Hid (PlnOK p) := by
                  refine HO.out.2 ⟨HSZ.out, HQA.out, ?_, ?_⟩
                  · intro c hc
                    refine HOK.out c ?_
                    rw [List.take_of_length_le (by omega)]
                    exact hc
                  · have := HPW.out
                    rwa [List.take_of_length_le (by omega)] at this
                go_wp2
                go_ret
                exact refErr_yes HF.out (below_next HB0.out HB.out)
end Go.Proofs.YtebkgbmijocdjaaGreat.Tp
