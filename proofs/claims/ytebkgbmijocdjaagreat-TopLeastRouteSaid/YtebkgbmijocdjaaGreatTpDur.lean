/- How long a transmission takes, and whether it fits, walked. Conditions: valid contacts and sizes where a duration is computed. -/
import Derived.Test.YtebkgbmijocdjaaGreatTpPass
namespace Go.Proofs.YtebkgbmijocdjaaGreat.Tp
open Go Go.RowKit

/-- the seven cells of a contact's box -/
def CtCells (g : Nat) (c : Ct) (w : World) : Prop := w.cell? ⟨g, 0, none⟩ = some (.int .i64 c.src) ∧ w.cell? ⟨g, 1, none⟩ = some (.int .i64 c.dst) ∧ w.cell? ⟨g, 2, none⟩ = some (.int .i64 c.beg) ∧ w.cell? ⟨g, 3, none⟩ = some (.int .i64 c.fin) ∧ w.cell? ⟨g, 4, none⟩ = some (.int .i64 c.rate) ∧ w.cell? ⟨g, 5, none⟩ = some (.int .i64 c.rng) ∧ w.cell? ⟨g, 6, none⟩ = some (.int .i64 c.loss)
theorem ctCells_bk {w : World} {g : Nat} {c : Ct} (h : Bk w g 104 (ctA c)) : CtCells g c w := ⟨h.cell 0, h.cell 1, h.cell 2, h.cell 3, h.cell 4, h.cell 5, h.cell 6⟩

set_option maxHeartbeats 2000000 in
set_option maxRecDepth 100000 in
theorem duration_any (c : Ct) (hc : CtOK c) (m : Int) (hm : 1 ≤ m ∧ m ≤ 65536) (w : World) :
    Calls Tryz.prog 137 #[.agg #[.int .i64 c.src, .int .i64 c.dst, .int .i64 c.beg, .int .i64 c.fin, .int .i64 c.rate, .int .i64 c.rng, .int .i64 c.loss], .int .i64 m] w fun e w' => e = .returned (.int .i64 (dur c m)) ∧ Below w.heap.size w w' := by
  have HT := Lib.hid (fun w => ticks_any c 16 w hc.2.2.1.1 hc.2.2.1.2 (by omega) (by omega))
  have HP := Lib.hid (fun w => pass_any c hc m hm w)
  have hp := pass_bd hc hm.1
  have ht := ticks_bd hc.2.2.1.1 hc.2.2.1.2 (n := 16) (by omega) (by omega)
  have hl := lossy hc
  have hg : 1 ≤ c.rng ∧ c.rng ≤ 1048576 := hc.2.2.2.1
  have HDU : Hid (dur c m = pass c m + c.loss * (2 * c.rng + 1 + ticks c 16)) := rfl
  generalize dur c m = d at HDU
  generalize pass c m = pp at HP hp HDU
  generalize ticks c 16 = tt at HT ht hl HDU
  have HB0 : Hid (Below w.heap.size w (w.alloc (.cells (ctA c) 104))) := (Below.refl _ _).alloc (Nat.le_refl _) _
  have HK := Lib.hid (Bk.new w 104 (ctA c))
  clear hc hm
  have q1 : IntKind.i64.wrap (2 * c.rng) = 2 * c.rng := IntWalk.i64_in _ (by omega)
  have q2 : IntKind.i64.wrap (2 * c.rng + 1) = 2 * c.rng + 1 := IntWalk.i64_in _ (by omega)
  have q3 : IntKind.i64.wrap (2 * c.rng + 1 + tt) = 2 * c.rng + 1 + tt := IntWalk.i64_in _ (by omega)
  have q4 : IntKind.i64.wrap (c.loss * (2 * c.rng + 1 + tt)) = c.loss * (2 * c.rng + 1 + tt) := IntWalk.i64_in _ (by omega)
  have q5 : IntKind.i64.wrap (pp + c.loss * (2 * c.rng + 1 + tt)) = pp + c.loss * (2 * c.rng + 1 + tt) := IntWalk.i64_in _ (by omega)
  go_enter Tryz.func137, Tryz.ntmps137
  go_wp2_with fail
  generalize w.alloc (.cells (ctA c) 104) = W at HB0 HK ⊢
  generalize w.heap.size = g at HK ⊢
  have HD : Hid (∀ w', Below W.heap.size W w' → CtCells g c w') := fun w' hb => ctCells_bk (HK.out.below hb HK.out.lt)
  unfold CtCells at HD
  go_region_held3 (fun w' => (w'.cell? ⟨g, 0, none⟩ = some (.int .i64 c.src) ∧ w'.cell? ⟨g, 1, none⟩ = some (.int .i64 c.dst) ∧ w'.cell? ⟨g, 2, none⟩ = some (.int .i64 c.beg) ∧ w'.cell? ⟨g, 3, none⟩ = some (.int .i64 c.fin) ∧ w'.cell? ⟨g, 4, none⟩ = some (.int .i64 c.rate) ∧ w'.cell? ⟨g, 5, none⟩ = some (.int .i64 c.rng) ∧ w'.cell? ⟨g, 6, none⟩ = some (.int .i64 c.loss)) ∧ Hid (Below W.heap.size W w')) (((try go_split_ands); first | exact held_start HD (Below.refl _ _).drew | exact held_step HD (by assumption) hb4))
    ((first
      | (go_at_call 170
         refine (HP.out _).mono ?_
         rintro e w4 ⟨rfl, hb4⟩)
      | (go_at_call 171
         refine (HT.out _).mono ?_
         rintro e w4 ⟨rfl, hw4⟩
         have hb4 := below_one hw4
         clear hw4)))
  have HBF : Hid (Below W.heap.size W w4) := by (try go_split_ands); assumption
  clear q1 q2 q3 q4
  go_wp2
  go_ret
  exact ⟨ret_i HDU.out.symm, below_next HB0.out HBF.out⟩

set_option maxHeartbeats 2000000 in
set_option maxRecDepth 100000 in
theorem ccheck_any (c : Ct) (m : Int) (w : World) : Calls Tryz.prog 136 #[.agg #[.int .i64 c.src, .int .i64 c.dst, .int .i64 c.beg, .int .i64 c.fin, .int .i64 c.rate, .int .i64 c.rng, .int .i64 c.loss], .int .i64 m] w (RetErr (CtOK c ∧ 1 ≤ m ∧ m ≤ 65536) w) := by
  have HB0 : Hid (Below w.heap.size w (w.alloc (.cells (ctA c) 104))) := (Below.refl _ _).alloc (Nat.le_refl _) _
  have HC := Lib.hid (fun w => ctCheck_any c w)
  have HW := Lib.hid (fun w => within_any m 1 65536 w)
  have HI : Hid (wi m 1 65536 = true ↔ 1 ≤ m ∧ m ≤ 65536) := wi_iff
  generalize wi m 1 65536 = b at HW HI
  go_enter Tryz.func136, Tryz.ntmps136
  go_wp2_with fail
  refine (HC.out _).mono ?_
  rintro e w1 ⟨q, rfl, hq, hb1⟩
  have HQ := Lib.hid hq
  have HB1 := Lib.hid (below_next HB0.out hb1)
  clear hq hb1 HB0 HC
  by_cases h0 : q = 0
  · subst h0
    cases b with
    | false =>
      go_wp2_with fail
      refine (HW.out _).mono ?_
      rintro e w2 ⟨rfl, rfl⟩
      go_wp2
      go_ret
      exact retErr_no (by decide) (fun h => by have := HI.out.2 h.2; cases this) HB1.out
    | true =>
      go_wp2_with fail
      refine (HW.out _).mono ?_
      rintro e w2 ⟨rfl, rfl⟩
      go_wp2
      go_ret
      exact retErr_yes ⟨HQ.out.1 (by trivial), HI.out.1 (by trivial)⟩ HB1.out
  · have hqb : (q != 0) = true := by rw [bne_iff_ne]; exact h0
    have H0 := Lib.hid h0
    clear h0
    go_wp2
    go_ret
    exact retErr_no (by decide) (fun h => H0.out (HQ.out.2 h.1)) HB1.out

set_option maxHeartbeats 2000000 in
set_option maxRecDepth 100000 in
theorem fits_any (c : Ct) (hc : CtOK c) (b m : Int) (hm : 1 ≤ m ∧ m ≤ 65536) (w : World) : Calls Tryz.prog 155 #[.agg #[.int .i64 c.src, .int .i64 c.dst, .int .i64 c.beg, .int .i64 c.fin, .int .i64 c.rate, .int .i64 c.rng, .int .i64 c.loss], .int .i64 b, .int .i64 m] w (RetIff (c.beg ≤ b ∧ b ≤ c.fin - dur c m) w) := by
  have HP := Lib.hid (fun w => duration_any c hc m hm w)
  have hp := dur_bd hc hm.1
  generalize dur c m = d at HP hp
  have hf : 0 ≤ c.fin ∧ c.fin ≤ 1099511627776 := by obtain ⟨_, _, _, hg, _, _, h1, h2, h3⟩ := hc; omega
  have HB0 : Hid (Below w.heap.size w (w.alloc (.cells (ctA c) 104))) := (Below.refl _ _).alloc (Nat.le_refl _) _
  have HK := Lib.hid (Bk.new w 104 (ctA c))
  clear hc hm
  by_cases hg : c.beg ≤ b
  · have q1 : IntKind.i64.wrap (c.fin - d) = c.fin - d := IntWalk.i64_in _ (by omega)
    have HG := Lib.hid hg
    go_enter Tryz.func155, Tryz.ntmps155
    go_wp2_with fail
    generalize w.alloc (.cells (ctA c) 104) = W at HB0 HK ⊢
    generalize w.heap.size = g at HK ⊢
    have HD : Hid (∀ w', Below W.heap.size W w' → CtCells g c w') := fun w' hb => ctCells_bk (HK.out.below hb HK.out.lt)
    unfold CtCells at HD
    go_region_held3 (fun w' => (w'.cell? ⟨g, 0, none⟩ = some (.int .i64 c.src) ∧ w'.cell? ⟨g, 1, none⟩ = some (.int .i64 c.dst) ∧ w'.cell? ⟨g, 2, none⟩ = some (.int .i64 c.beg) ∧ w'.cell? ⟨g, 3, none⟩ = some (.int .i64 c.fin) ∧ w'.cell? ⟨g, 4, none⟩ = some (.int .i64 c.rate) ∧ w'.cell? ⟨g, 5, none⟩ = some (.int .i64 c.rng) ∧ w'.cell? ⟨g, 6, none⟩ = some (.int .i64 c.loss)) ∧ Hid (Below W.heap.size W w')) (((try go_split_ands); first | exact held_start HD (Below.refl _ _).drew | exact held_step HD (by assumption) hb4))
      ((go_at_call 137
        refine (HP.out _).mono ?_
        rintro e w4 ⟨rfl, hb4⟩))
    have HBF : Hid (Below W.heap.size W w4) := by (try go_split_ands); assumption
    go_wp2
    go_ret
    exact retIff_of (by simp; omega) (below_next HB0.out HBF.out)
  · have dg : decide (b ≥ c.beg) = false := by simpa using hg
    have HG := Lib.hid hg
    clear hg
    go_enter Tryz.func155, Tryz.ntmps155
    go_wp2_with fail
    have c2 := (ctCells_bk HK.out).2.2.1
    go_quiet (fail)
    go_wp2
    go_ret
    exact retIff_of (by have := HG.out; simp; omega) (below_drawN HB0.out _)
set_option maxHeartbeats 2000000 in
set_option maxRecDepth 100000 in
theorem cfits_any (c : Ct) (b m : Int) (w : World) : Calls Tryz.prog 101 #[.agg #[.int .i64 c.src, .int .i64 c.dst, .int .i64 c.beg, .int .i64 c.fin, .int .i64 c.rate, .int .i64 c.rng, .int .i64 c.loss], .int .i64 b, .int .i64 m] w (RetIff ((CtOK c ∧ 1 ≤ m ∧ m ≤ 65536) ∧ c.beg ≤ b ∧ b ≤ c.fin - dur c m) w) := by
  have HB0 : Hid (Below w.heap.size w (w.alloc (.cells (ctA c) 104))) := (Below.refl _ _).alloc (Nat.le_refl _) _
  have HK := Lib.hid (Bk.new w 104 (ctA c))
  have HC := Lib.hid (fun w => ccheck_any c m w)
  go_enter Tryz.func101, Tryz.ntmps101
  go_wp2_with fail
  generalize w.alloc (.cells (ctA c) 104) = W at HB0 HK ⊢
  generalize w.heap.size = g at HK ⊢
  refine (HC.out _).mono ?_
  rintro e w1 ⟨q, rfl, hq, hb1⟩
  have HQ := Lib.hid hq
  have HB1 := Lib.hid (below_next HB0.out hb1)
  have HK1 := Lib.hid (HK.out.below hb1 HK.out.lt)
  clear hq hb1 HB0 HC HK
  by_cases h0 : q = 0
  · subst h0
    obtain ⟨hc, hm⟩ := HQ.out.1 rfl
    have HF := Lib.hid (fun w => fits_any c hc b m hm w)
    have HV := Lib.hid (And.intro hc hm)
    obtain ⟨c0, c1, c2, c3, c4, c5, c6⟩ := ctCells_bk HK1.out
    clear hc hm HQ
    go_wp2_with fail
    refine (HF.out _).mono ?_
    rintro e w2 ⟨d, rfl, hd, hb2⟩
    have HD := Lib.hid hd
    have HB2 := Lib.hid (below_next HB1.out hb2)
    clear hd hb2 c0 c1 c2 c3 c4 c5 c6
    go_wp2
    go_ret
    exact retIff_of ⟨fun h => ⟨HV.out, HD.out.1 h⟩, fun h => HD.out.2 h.2⟩ HB2.out
  · have hqb : (q == 0) = false := by rw [beq_eq_false_iff_ne]; exact h0
    have H0 := Lib.hid h0
    clear h0
    go_wp2
    go_ret
    exact retIff_of ⟨fun h => (by cases h), fun h => absurd (HQ.out.2 h.1) H0.out⟩ HB1.out

set_option maxHeartbeats 2000000 in
set_option maxRecDepth 100000 in
theorem cduration_any (c : Ct) (hc : CtOK c) (m : Int) (hm : 1 ≤ m ∧ m ≤ 65536) (w : World) : Calls Tryz.prog 63 #[.agg #[.int .i64 c.src, .int .i64 c.dst, .int .i64 c.beg, .int .i64 c.fin, .int .i64 c.rate, .int .i64 c.rng, .int .i64 c.loss], .int .i64 m] w fun e w' => e = .returned (.tuple #[.int .i64 (dur c m), .int .i64 0]) ∧ Below w.heap.size w w' := by
  have HB0 : Hid (Below w.heap.size w (w.alloc (.cells (ctA c) 104))) := (Below.refl _ _).alloc (Nat.le_refl _) _
  have HK := Lib.hid (Bk.new w 104 (ctA c))
  have HC := Lib.hid (fun w => ccheck_any c m w)
  have HF := Lib.hid (fun w => duration_any c hc m hm w)
  have HV := Lib.hid (And.intro hc hm)
  generalize dur c m = d at HF
  clear hc hm
  go_enter Tryz.func63, Tryz.ntmps63
  go_wp2_with fail
  generalize w.alloc (.cells (ctA c) 104) = W at HB0 HK ⊢
  generalize w.heap.size = g at HK ⊢
  refine (HC.out _).mono ?_
  rintro e w1 ⟨q, rfl, hq, hb1⟩
  obtain rfl : q = 0 := hq.2 HV.out
  have HB1 := Lib.hid (below_next HB0.out hb1)
  have HK1 := Lib.hid (HK.out.below hb1 HK.out.lt)
  clear hq hb1 HB0 HC HK
  obtain ⟨c0, c1, c2, c3, c4, c5, c6⟩ := ctCells_bk HK1.out
  go_wp2_with fail
  refine (HF.out _).mono ?_
  rintro e w2 ⟨rfl, hb2⟩
  have HB2 := Lib.hid (below_next HB1.out hb2)
  clear hb2 c0 c1 c2 c3 c4 c5 c6
  go_wp2
  go_ret2
  exact ⟨rfl, HB2.out⟩

set_option maxHeartbeats 2000000 in
set_option maxRecDepth 100000 in
theorem overlap_any (a b : Ct) (ha : CtOK a) (hb : CtOK b) (w : World) : Calls Tryz.prog 106 #[.agg #[.int .i64 a.src, .int .i64 a.dst, .int .i64 a.beg, .int .i64 a.fin, .int .i64 a.rate, .int .i64 a.rng, .int .i64 a.loss], .agg #[.int .i64 b.src, .int .i64 b.dst, .int .i64 b.beg, .int .i64 b.fin, .int .i64 b.rate, .int .i64 b.rng, .int .i64 b.loss]] w (RetIff (Ovl a b) w) := by
  have HB0 : Hid (Below w.heap.size w ((w.alloc (.cells (ctA a) 104)).alloc (.cells (ctA b) 104))) := ((Below.refl _ _).alloc (Nat.le_refl _) _).alloc (by simp) _
  have HK := Lib.hid ((Bk.new w 104 (ctA a)).alloc (.cells (ctA b) 104))
  have HL : Hid (Bk ((w.alloc (.cells (ctA a) 104)).alloc (.cells (ctA b) 104)) (w.heap.size + 1) 104 (ctA b)) := by
    have h := Bk.new (w.alloc (.cells (ctA a) 104)) 104 (ctA b)
    rwa [World.size_alloc] at h
  have HC := Lib.hid (fun w => ctCheck_any a w)
  have HD := Lib.hid (fun w => ctCheck_any b w)
  have HV := Lib.hid (And.intro ha hb)
  clear ha hb
  go_enter Tryz.func106, Tryz.ntmps106
  go_wp2_with fail
  generalize (w.alloc (.cells (ctA a) 104)).alloc (.cells (ctA b) 104) = W at HB0 HK HL ⊢
  refine (HC.out _).mono ?_
  rintro e w1 ⟨q, rfl, hq, hb1⟩
  obtain rfl : q = 0 := hq.2 HV.out.1
  have HB1 := Lib.hid (below_next HB0.out hb1)
  have HK1 := Lib.hid (HK.out.below hb1 HK.out.lt)
  have HL1 := Lib.hid (HL.out.below hb1 HL.out.lt)
  clear hq hb1 HB0 HC HK HL
  obtain ⟨d0, d1, d2, d3, d4, d5, d6⟩ := ctCells_bk HL1.out
  go_wp2_with fail
  refine (HD.out _).mono ?_
  rintro e w2 ⟨q, rfl, hq, hb2⟩
  obtain rfl : q = 0 := hq.2 HV.out.2
  have HB2 := Lib.hid (below_next HB1.out hb2)
  have HK2 := Lib.hid (HK1.out.below hb2 HK1.out.lt)
  have HL2 := Lib.hid (HL1.out.below hb2 HL1.out.lt)
  clear hq hb2 HB1 HD HK1 HL1 HV d0 d1 d2 d3 d4 d5 d6
  obtain ⟨c0, c1, c2, c3, c4, c5, c6⟩ := ctCells_bk HK2.out
  obtain ⟨d0, d1, d2, d3, d4, d5, d6⟩ := ctCells_bk HL2.out
  have HO : Hid (Ovl a b ↔ a.src = b.src ∧ a.dst = b.dst ∧ max a.beg b.beg < min a.fin b.fin) := Iff.rfl
  by_cases hs : a.src = b.src
  · by_cases hd : a.dst = b.dst
    · have HE := Lib.hid (And.intro hs hd)
      have e1 : (a.src != b.src) = false := by simpa using hs
      have e2 : (a.dst != b.dst) = false := by simpa using hd
      clear hs hd
      go_wp2
      all_goals
        go_ret
        exact retIff_of (by rw [HO.out]; have := HE.out; simp; omega) HB2.out
    · have HE := Lib.hid hd
      have e1 : (a.src != b.src) = false := by simpa using hs
      have e2 : (a.dst != b.dst) = true := by simpa using hd
      clear hs hd
      go_wp2
      go_ret
      exact retIff_of ⟨fun h => (by cases h), fun h => absurd (HO.out.1 h).2.1 HE.out⟩ HB2.out
  · have HE := Lib.hid hs
    have e1 : (a.src != b.src) = true := by simpa using hs
    clear hs
    go_wp2
    go_ret
    exact retIff_of ⟨fun h => (by cases h), fun h => absurd (HO.out.1 h).1 HE.out⟩ HB2.out
end Go.Proofs.YtebkgbmijocdjaaGreat.Tp
