/- plan.Check of the program, walked. Condition: the plan lies in memory. -/
import Derived.Test.YtebkgbmijocdjaaGreatTpDur
namespace Go.Proofs.YtebkgbmijocdjaaGreat.Tp
open Go Go.RowKit

/-- what IndexFunc answers -/
def IdxOf {α : Type} (p : α → Prop) (l : List α) (z : Int) : Prop := (z = -1 ∧ ∀ x ∈ l, ¬ p x) ∨ ∃ (k : Nat) (r : α), z = (k : Int) ∧ l[k]? = some r ∧ p r ∧ ∀ x ∈ l.take k, ¬ p x
def IdxPost {α : Type} (p : α → Prop) (l : List α) (w : World) (e : Ending) (w' : World) : Prop := ∃ z : Int, e = .returned (.int .i64 z) ∧ IdxOf p l z ∧ Below w.heap.size w w'
theorem idx_has {α : Type} {p : α → Prop} {l : List α} {z : Int} (h : IdxOf p l z) : 0 ≤ z ↔ ∃ x ∈ l, p x := by
  rcases h with ⟨rfl, h⟩ | ⟨k, r, rfl, hk, hp, _⟩
  · exact ⟨fun h => absurd h (by decide), fun ⟨x, hx, hp⟩ => absurd hp (h x hx)⟩
  · exact ⟨fun _ => ⟨r, List.mem_of_getElem? hk, hp⟩, fun _ => by omega⟩

set_option maxHeartbeats 2000000 in
set_option maxRecDepth 100000 in
theorem planClos_any (c d : Ct) (hc : CtOK c) (hd : CtOK d) (g : Nat) (w : World) (hg : Bk w g 104 (ctA c)) :
    Calls Tryz.prog 105 #[.agg #[.int .i64 d.src, .int .i64 d.dst, .int .i64 d.beg, .int .i64 d.fin, .int .i64 d.rate, .int .i64 d.rng, .int .i64 d.loss], .pointer (some ⟨g, 0, none⟩)] w (RetIff (Ovl c d) w) := by
  have HB0 : Hid (Below w.heap.size w (w.alloc (.cells (ctA d) 104))) := (Below.refl _ _).alloc (Nat.le_refl _) _
  have HO := Lib.hid (fun w => overlap_any c d hc hd w)
  obtain ⟨c0, c1, c2, c3, c4, c5, c6⟩ := ctCells_bk (hg.alloc (.cells (ctA d) 104))
  clear hg hc hd
  go_enter Tryz.func105, Tryz.ntmps105
  go_wp2_with fail
  refine (HO.out _).mono ?_
  rintro e w1 ⟨v, rfl, hv, hb⟩
  have HB := Lib.hid (below_next HB0.out hb)
  have HV := Lib.hid hv
  clear hv hb HB0 HO c0 c1 c2 c3 c4 c5 c6
  go_wp2
  go_ret
  exact retIff_of HV.out HB.out
set_option maxHeartbeats 2000000 in
set_option maxRecDepth 100000 in
theorem planClos_idx (A : Option Addr) (cA : Nat) (l : List Ct) (g : Nat) (p : Ct → Prop) (w : World) (hA : SlAt ctE w A l) (hl : l.length ≤ 1000000) (hF : ∀ x ∈ l, ∀ w', Below w.heap.size w w' → Calls Tryz.prog 105 #[.agg #[.int .i64 x.src, .int .i64 x.dst, .int .i64 x.beg, .int .i64 x.fin, .int .i64 x.rate, .int .i64 x.rng, .int .i64 x.loss], .pointer (some ⟨g, 0, none⟩)] w' (RetIff (p x) w')) :
    Calls Tryz.prog 157 #[.slice A l.length cA, .func (.func 105) #[] #[.pointer (some ⟨g, 0, none⟩)]] w (IdxPost p l w) := by
  have HA := Lib.hid hA
  have HF := Lib.hid hF
  clear hA hF
  go_enter Tryz.func157, Tryz.ntmps157
  go_wp2
  go_loopw [5, 8] (fun _ i wr => ∃ k : Nat, k ≤ l.length ∧ i = .int .i64 k ∧ Below w.heap.size w wr ∧ ∀ x ∈ l.take k, ¬ p x) (fun _ i _ => l.length - (intOf i).toNat)
  case atStart => exact ⟨0, Nat.zero_le _, rfl, Below.refl _ _, by simp⟩
  case round =>
    obtain ⟨k, hk, rfl, hbw, hno⟩ := hrel
    have HB := Lib.hid hbw
    have HNO := Lib.hid hno
    clear hbw hno
    by_cases hlt : k < l.length
    · obtain ⟨b, off, rfl, hr⟩ := HA.out.one (by omega)
      obtain ⟨r, hrk⟩ : ∃ r, l[k]? = some r := ⟨_, List.getElem?_eq_getElem hlt⟩
      have HRK := Lib.hid hrk
      have hrg : wr.rangeAt b (off + k * 7) (ctE.f r) := range_below (hr k r hrk) HB.out
      have c0 : wr.cell? ⟨b, off + k * 7, none⟩ = some (.int .i64 r.src) := hrg 0 _ rfl
      have c1 : wr.cell? ⟨b, off + k * 7 + 1, none⟩ = some (.int .i64 r.dst) := hrg 1 _ rfl
      have c2 : wr.cell? ⟨b, off + k * 7 + 2, none⟩ = some (.int .i64 r.beg) := hrg 2 _ rfl
      have c3 : wr.cell? ⟨b, off + k * 7 + 3, none⟩ = some (.int .i64 r.fin) := hrg 3 _ rfl
      have c4 : wr.cell? ⟨b, off + k * 7 + 4, none⟩ = some (.int .i64 r.rate) := hrg 4 _ rfl
      have c5 : wr.cell? ⟨b, off + k * 7 + 5, none⟩ = some (.int .i64 r.rng) := hrg 5 _ rfl
      have c6 : wr.cell? ⟨b, off + k * 7 + 6, none⟩ = some (.int .i64 r.loss) := hrg 6 _ rfl
      have HCL := Lib.hid (HF.out r (List.mem_of_getElem? hrk) wr HB.out)
      clear hr hrk hrg
      go_wp2_with fail
      refine HCL.out.mono ?_
      rintro e w2 ⟨v, rfl, hv, hb2⟩
      have HB2 := Lib.hid (below_next HB.out hb2)
      have HV := Lib.hid hv
      clear hb2 HCL hv c0 c1 c2 c3 c4 c5 c6
      cases v with
      | false =>
        have HN : Hid (∀ x ∈ l.take (k + 1), ¬ p x) := by
          intro x hx
          rw [take_snoc HRK.out] at hx
          rcases List.mem_append.1 hx with h | h
          · exact HNO.out x h
          · rw [List.mem_singleton.1 h]
            intro hp
            have := HV.out.2 hp
            cases this
        go_wp2
        go_roundw
        case rel => exact ⟨k + 1, by omega, by go_num, HB2.out, HN.out⟩
        case measure => simp [intOf]; omega
      | true =>
        have HP := Lib.hid (HV.out.1 rfl)
        go_wp2
        go_ret
        exact ⟨_, rfl, .inr ⟨k, r, rfl, HRK.out, HP.out, HNO.out⟩, HB2.out⟩
    · have HN : Hid (∀ x ∈ l, ¬ p x) := by
        intro x hx
        refine HNO.out x ?_
        rw [List.take_of_length_le (by omega)]
        exact hx
      go_wp2
      go_ret
      exact ⟨_, rfl, .inl ⟨rfl, HN.out⟩, HB.out⟩
set_option maxHeartbeats 2000000 in
theorem planClos_has (A : Option Addr) (cA : Nat) (l : List Ct) (g : Nat) (p : Ct → Prop) (w : World) (hA : SlAt ctE w A l) (hl : l.length ≤ 1000000) (hF : ∀ x ∈ l, ∀ w', Below w.heap.size w w' → Calls Tryz.prog 105 #[.agg #[.int .i64 x.src, .int .i64 x.dst, .int .i64 x.beg, .int .i64 x.fin, .int .i64 x.rate, .int .i64 x.rng, .int .i64 x.loss], .pointer (some ⟨g, 0, none⟩)] w' (RetIff (p x) w')) :
    Calls Tryz.prog 104 #[.slice A l.length cA, .func (.func 105) #[] #[.pointer (some ⟨g, 0, none⟩)]] w (RetIff (∃ x ∈ l, p x) w) := by
  have HI := Lib.hid (planClos_idx A cA l g p w hA hl hF)
  clear hA hF
  go_enter Tryz.func104, Tryz.ntmps104
  go_wp2_with fail
  refine HI.out.mono ?_
  rintro e w1 ⟨z, rfl, hz, hb⟩
  have HB := Lib.hid hb
  have HZ := Lib.hid (idx_has hz)
  clear hz hb HI
  go_wp2
  go_ret
  exact retIff_of (by have := HZ.out; simpa using this) HB.out
/-- A plan's two slices in memory. -/
structure PlnAt (w : World) (Aq : Option Addr) (cq : Nat) (Ac : Option Addr) (cc : Nat) (p : Pln) : Prop where
  q : SlAt intE w Aq p.q
  c : SlAt ctE w Ac p.c
  ql : p.q.length ≤ cq
  cl : p.c.length ≤ cc
  qm : p.q.length ≤ maxLen
  cm : p.c.length ≤ maxLen
theorem PlnAt.below {w w' : World} {Aq Ac : Option Addr} {cq cc : Nat} {p : Pln} (h : PlnAt w Aq cq Ac cc p) (hb : Below w.heap.size w w') : PlnAt w' Aq cq Ac cc p := ⟨h.q.below hb, h.c.below hb, h.ql, h.cl, h.qm, h.cm⟩
theorem elem_cts : Tryz.prog.elem 23 = 104 := by kernel_rfl
theorem slice_cts : Tryz.prog.underlying 23 = some (.slice (Tryz.prog.elem 23)) := by kernel_rfl
/-- 'l[:k]' -/
theorem ct_head (A : Option Addr) (c : Nat) (l : List Ct) (k : Nat) (hk : k ≤ l.length) (hc : l.length ≤ c) :
    ∃ A1, (∀ w, (Instr.slice 23 (.slice A l.length c) none (some (.int .i64 (k : Int))) none).run Tryz.prog w = .ok (.slice A1 (l.take k).length c) w) ∧ ∀ w, SlAt ctE w A l → SlAt ctE w A1 (l.take k) := by
  have e : ∀ w, (Instr.slice 23 (.slice A l.length c) none (some (.int .i64 (k : Int))) none).run Tryz.prog w = .ok (sliced A 0 k c 7) w := fun w => by
    rw [run_slice_h w _ _ _ _ slice_cts .i64 (k : Int) (by omega) (by omega), elem_cts, Tryz.sizeOf104]
    rfl
  have hl : (l.take k).length = k := by rw [List.length_take]; omega
  refine ⟨if c = 0 then A else A.map (·.add (0 * 7)), fun w => by rw [e, hl]; rfl, fun w h => ?_⟩
  split
  · exact h.take k
  · have : A.map (fun a => a.add (0 * 7)) = A := by
      cases A with
      | none => rfl
      | some a => simp [Addr.add]
    rw [this]
    exact h.take k

set_option maxHeartbeats 4000000 in
set_option maxRecDepth 100000 in
theorem plnCheck_any (Aq : Option Addr) (cq : Nat) (Ac : Option Addr) (cc : Nat) (p : Pln) (w : World) (hp : PlnAt w Aq cq Ac cc p) :
    Calls Tryz.prog 44 #[.agg #[.slice Aq p.q.length cq, .slice Ac p.c.length cc]] w (RetErr (PlnOK p) w) := by
  have HP := Lib.hid hp
  have HO : Hid (PlnOK p ↔ (1 ≤ p.q.length ∧ p.q.length ≤ 16 ∧ p.c.length ≤ 64) ∧ (∀ x ∈ p.q, 0 ≤ x ∧ x ≤ 1073741824) ∧ (∀ c ∈ p.c, CtOK c ∧ c.src < p.q.length ∧ c.dst < p.q.length) ∧ p.c.Pairwise fun a b => ¬ Ovl b a) := Iff.rfl
  have HB0 : Hid (Below w.heap.size w (w.alloc (.cells #[.slice Aq p.q.length cq, .slice Ac p.c.length cc] 25))) := (Below.refl _ _).alloc (Nat.le_refl _) _
  have HK := Lib.hid (Bk.new w 25 #[.slice Aq p.q.length cq, .slice Ac p.c.length cc])
  clear hp
  have hsz : p.q.length < 1 ∨ 16 < p.q.length ∨ 64 < p.c.length ∨ (1 ≤ p.q.length ∧ p.q.length ≤ 16 ∧ p.c.length ≤ 64) := by omega
  rcases hsz with h1 | h1 | h1 | ⟨h1, h2, h3⟩
  · have h2 : (p.q.length : Int) < 1 := by omega
    go_enter Tryz.func44, Tryz.ntmps44
    go_wp2
    go_ret
    exact retErr_no (by decide) (fun h => by have := (HO.out.1 h).1; omega) HB0.out
  · have h2 : (16 : Int) < (p.q.length : Int) := by omega
    have h3 : ¬ (p.q.length : Int) < 1 := by omega
    go_enter Tryz.func44, Tryz.ntmps44
    go_wp2
    go_ret
    exact retErr_no (by decide) (fun h => by have := (HO.out.1 h).1; omega) HB0.out
  · by_cases h2 : 16 < p.q.length ∨ p.q.length < 1
    · rcases h2 with h2 | h2
      · have h4 : (16 : Int) < (p.q.length : Int) := by omega
        have h3 : ¬ (p.q.length : Int) < 1 := by omega
        go_enter Tryz.func44, Tryz.ntmps44
        go_wp2
        go_ret
        exact retErr_no (by decide) (fun h => by have := (HO.out.1 h).1; omega) HB0.out
      · have h3 : (p.q.length : Int) < 1 := by omega
        go_enter Tryz.func44, Tryz.ntmps44
        go_wp2
        go_ret
        exact retErr_no (by decide) (fun h => by have := (HO.out.1 h).1; omega) HB0.out
    · have h3 : ¬ (16 : Int) < (p.q.length : Int) := by omega
      have h4 : ¬ (p.q.length : Int) < 1 := by omega
      have h5 : (64 : Int) < (p.c.length : Int) := by omega
      go_enter Tryz.func44, Tryz.ntmps44
      go_wp2
      go_ret
      exact retErr_no (by decide) (fun h => by have := (HO.out.1 h).1; omega) HB0.out
  · have h5 : ¬ (16 : Int) < (p.q.length : Int) := by omega
    have h4 : ¬ (p.q.length : Int) < 1 := by omega
    have h6 : ¬ (64 : Int) < (p.c.length : Int) := by omega
    have HSZ := Lib.hid (And.intro h1 (And.intro h2 h3))
    go_enter Tryz.func44, Tryz.ntmps44
    go_wp2
    generalize w.alloc (.cells #[.slice Aq p.q.length cq, .slice Ac p.c.length cc] 25) = W at HB0 HK ⊢
    generalize w.heap.size = g0 at HK ⊢
    go_loop [5, 27] (fun _ i => ∃ k : Nat, k ≤ p.q.length ∧ i = .int .i64 k ∧ ∀ x ∈ p.q.take k, 0 ≤ x ∧ x ≤ 1073741824) (fun _ i => p.q.length - (intOf i).toNat)
    case atStart => exact ⟨0, Nat.zero_le _, rfl, by simp⟩
    case round =>
      obtain ⟨k, hk, rfl, hq⟩ := hrel
      have HQ := Lib.hid hq
      clear hq
      by_cases hlt : k < p.q.length
      · obtain ⟨b, off, rfl, hr⟩ := HP.out.q.one (by omega)
        obtain ⟨x, hx⟩ : ∃ x, p.q[k]? = some x := ⟨_, List.getElem?_eq_getElem hlt⟩
        have hrg : W.rangeAt b (off + k * 1) (intE.f x) := range_below (hr k x hx) HB0.out
        have c0 : W.cell? ⟨b, off + k, none⟩ = some (.int .i64 x) := by have := hrg 0 _ rfl; simpa using this
        have HX := Lib.hid hx
        clear hr hx hrg
        by_cases h8 : x < 0
        · have HN : Hid (¬ PlnOK p) := fun h => by have := (HO.out.1 h).2.1 x (List.mem_of_getElem? HX.out); omega
          go_wp2
          go_ret
          exact retErr_no (by decide) HN.out HB0.out
        · by_cases h9 : 1073741824 < x
          · have HN : Hid (¬ PlnOK p) := fun h => by have := (HO.out.1 h).2.1 x (List.mem_of_getElem? HX.out); omega
            go_wp2
            go_ret
            exact retErr_no (by decide) HN.out HB0.out
          · have HN : Hid (∀ y ∈ p.q.take (k + 1), 0 ≤ y ∧ y ≤ 1073741824) := by
              intro y hy
              rw [take_snoc HX.out] at hy
              rcases List.mem_append.1 hy with h | h
              · exact HQ.out y h
              · rw [List.mem_singleton.1 h]; omega
            go_wp2
            go_round
            case rel => exact ⟨k + 1, by omega, by go_num, HN.out⟩
            case measure => simp [intOf]; omega
      · have HQA : Hid (∀ x ∈ p.q, 0 ≤ x ∧ x ≤ 1073741824) := by
          intro x hx
          refine HQ.out x ?_
          rw [List.take_of_length_le (by omega)]
          exact hx
        have hk0 := HK.out.cell 1
        have hk1 : W.cell? ⟨g0, 1, none⟩ = some (.slice Ac p.c.length cc) := hk0
        clear hk0 HQ
        go_wp2
        go_loopw [6, 7, 8, 41] (fun _ _ _ i wr => ∃ k : Nat, k ≤ p.c.length ∧ i = .int .i64 k ∧ Below W.heap.size W wr ∧ (∀ c ∈ p.c.take k, CtOK c ∧ c.src < p.q.length ∧ c.dst < p.q.length) ∧ (p.c.take k).Pairwise fun a b => ¬ Ovl b a) (fun _ _ _ i _ => p.c.length - (intOf i).toNat)
        case atStart => exact ⟨0, Nat.zero_le _, rfl, Below.refl _ _, by simp, by simp⟩
        case round =>
          clear hk1
          obtain ⟨k, hk, rfl, hbw, hok, hpw⟩ := hrel
          obtain ⟨wq, rfl⟩ : ∃ wo : World, wo = wr := ⟨_, rfl⟩
          have HB := Lib.hid hbw
          have HOK := Lib.hid hok
          have HPW := Lib.hid hpw
          clear hbw hok hpw
          by_cases hlt : k < p.c.length
          · have HPC := Lib.hid ((HP.out.c.below HB0.out).below HB.out)
            obtain ⟨b, off, rfl, hr⟩ := HPC.out.one (by omega)
            obtain ⟨r, hrk⟩ : ∃ r, p.c[k]? = some r := ⟨_, List.getElem?_eq_getElem hlt⟩
            have HRK := Lib.hid hrk
            have hrg : wq.rangeAt b (off + k * 7) (ctE.f r) := hr k r hrk
            have c0 : wq.cell? ⟨b, off + k * 7, none⟩ = some (.int .i64 r.src) := hrg 0 _ rfl
            have c1 : wq.cell? ⟨b, off + k * 7 + 1, none⟩ = some (.int .i64 r.dst) := hrg 1 _ rfl
            have c2 : wq.cell? ⟨b, off + k * 7 + 2, none⟩ = some (.int .i64 r.beg) := hrg 2 _ rfl
            have c3 : wq.cell? ⟨b, off + k * 7 + 3, none⟩ = some (.int .i64 r.fin) := hrg 3 _ rfl
            have c4 : wq.cell? ⟨b, off + k * 7 + 4, none⟩ = some (.int .i64 r.rate) := hrg 4 _ rfl
            have c5 : wq.cell? ⟨b, off + k * 7 + 5, none⟩ = some (.int .i64 r.rng) := hrg 5 _ rfl
            have c6 : wq.cell? ⟨b, off + k * 7 + 6, none⟩ = some (.int .i64 r.loss) := hrg 6 _ rfl
            have HC := Lib.hid (fun w => ctCheck_any r w)
            have HK1 := Lib.hid (HK.out.below HB.out HK.out.lt)
            have HKN := Lib.hid (Bk.new wq 104 (ctA r))
            have HBN : Hid (Below wq.heap.size wq (wq.alloc (.cells (ctA r) 104))) := (Below.refl _ _).alloc (Nat.le_refl _) _
            clear hr hrk hrg
            go_wp2_with fail
            generalize wq.alloc (.cells (ctA r) 104) = W1 at HKN HBN ⊢
            generalize hg1 : wq.heap.size = g1 at HKN ⊢
            have HG1 := Lib.hid hg1
            clear hg1 c0 c1 c2 c3 c4 c5 c6
            refine (HC.out _).mono ?_
            rintro e w2 ⟨q, rfl, hq, hb2⟩
            have HQ2 := Lib.hid hq
            have HB2 := Lib.hid (below_next (below_next HB.out HBN.out) hb2)
            have HK2 := Lib.hid (HKN.out.below hb2 HKN.out.lt)
            have HBQ : Hid (Below wq.heap.size wq w2) := below_next HBN.out hb2
            clear hq hb2 HC HKN HBN
            by_cases h0 : q = 0
            · subst h0
              have HCO := Lib.hid (HQ2.out.1 rfl)
              clear HQ2
              have d0 : w2.cell? ⟨g1, 0, none⟩ = some (.int .i64 r.src) := HK2.out.cell 0
              have d1 : w2.cell? ⟨g1, 1, none⟩ = some (.int .i64 r.dst) := HK2.out.cell 1
              by_cases hs : (p.q.length : Int) ≤ r.src
              · have HN : Hid (¬ PlnOK p) := fun h => by have := ((HO.out.1 h).2.2.1 r (List.mem_of_getElem? HRK.out)).2.1; omega
                go_wp2
                go_ret
                exact retErr_no (by decide) HN.out (below_next HB0.out HB2.out)
              · have e1 : decide (r.src ≥ (p.q.length : Int)) = false := by simpa using hs
                by_cases hs2 : (p.q.length : Int) ≤ r.dst
                · have HN : Hid (¬ PlnOK p) := fun h => by have := ((HO.out.1 h).2.2.1 r (List.mem_of_getElem? HRK.out)).2.2; omega
                  go_wp2
                  go_ret
                  exact retErr_no (by decide) HN.out (below_next HB0.out HB2.out)
                · have e2 : decide (r.dst ≥ (p.q.length : Int)) = false := by simpa using hs2
                  have HRD : Hid (r.src < p.q.length ∧ r.dst < p.q.length) := ⟨by omega, by omega⟩
                  have hk1 : w2.cell? ⟨g0, 1, none⟩ = some (.slice (some ⟨b, off, none⟩) p.c.length cc) := (HK.out.below HB2.out HK.out.lt).cell 1
                  obtain ⟨A1, hr1, hh1⟩ := ct_head (some ⟨b, off, none⟩) cc p.c k (Nat.le_of_lt hlt) HP.out.cl
                  have HH := Lib.hid (hh1 w2 (HPC.out.below HBQ.out))
                  have HL1 : Hid ((p.c.take k).length ≤ 1000000) := by show _ ≤ _; rw [List.length_take]; have := HSZ.out.2.2; omega
                  have HCL := Lib.hid (planClos_has A1 cc (p.c.take k) g1 (fun d => Ovl r d) w2 HH.out HL1.out (fun x hx w' hb' => planClos_any r x HCO.out (HOK.out x hx).1 g1 w' (HK2.out.below hb' HK2.out.lt)))
                  have HTK := Lib.hid (take_snoc HRK.out)
                  have hmf := fun (fn : Fn) (first cap : Array Value) (w : World) => (rfl : (Instr.makeFunc fn first cap).run Tryz.prog w = .ok (.func fn first cap) w)
                  clear hh1 hs hs2
                  generalize hT : p.c.take k = T at hr1 HCL
                  have HT := Lib.hid hT
                  clear hT
                  go_wp2_with fail
                  refine HCL.out.mono ?_
                  rintro e w3 ⟨v, rfl, hv, hb3⟩
                  have HV := Lib.hid hv
                  have HB3 := Lib.hid (below_next HB2.out hb3)
                  clear hv hb3 HCL hr1 hmf hk1 d0 d1 e1 e2
                  cases v with
                  | true =>
                    have HN : Hid (¬ PlnOK p) := fun h => by
                      obtain ⟨d, hd, ho⟩ := HV.out.1 rfl
                      have hp4 := (HO.out.1 h).2.2.2
                      rw [← List.take_append_drop (k + 1) p.c, List.pairwise_append, HTK.out, List.pairwise_append] at hp4
                      exact hp4.1.2.2 d (by rw [HT.out]; exact hd) r (by simp) ho
                    go_wp2
                    go_ret
                    exact retErr_no (by decide) HN.out (below_next HB0.out HB3.out)
                  | false =>
                    have HN1 : Hid (∀ c ∈ p.c.take (k + 1), CtOK c ∧ c.src < p.q.length ∧ c.dst < p.q.length) := by
                      intro c hc
                      rw [HTK.out] at hc
                      rcases List.mem_append.1 hc with h | h
                      · exact HOK.out c h
                      · rw [List.mem_singleton.1 h]; exact ⟨HCO.out, HRD.out⟩
                    have HN2 : Hid ((p.c.take (k + 1)).Pairwise fun a b => ¬ Ovl b a) := by
                      show List.Pairwise _ _
                      rw [HTK.out, List.pairwise_append]
                      refine ⟨HPW.out, by simp, fun d hd c hc => ?_⟩
                      rw [List.mem_singleton.1 hc]
                      intro ho
                      have := HV.out.2 ⟨d, by rw [← HT.out]; exact hd, ho⟩
                      cases this
                    go_wp2
                    go_roundw
                    case rel => exact ⟨k + 1, by omega, by go_num, HB3.out, HN1.out, HN2.out⟩
                    case measure => simp [intOf]; omega
            · have hqb : (q != 0) = true := by rw [bne_iff_ne]; exact h0
              have H0 := Lib.hid h0
              have HN : Hid (¬ PlnOK p) := fun h => H0.out (HQ2.out.2 ((HO.out.1 h).2.2.1 r (List.mem_of_getElem? HRK.out)).1)
              clear h0
              go_wp2
              go_ret
              exact retErr_no H0.out HN.out (below_next HB0.out HB2.out)
          · have HF : Hid (PlnOK p) := by
              refine HO.out.2 ⟨HSZ.out, HQA.out, ?_, ?_⟩
              · intro c hc
                refine HOK.out c ?_
                rw [List.take_of_length_le (by omega)]
                exact hc
              · have := HPW.out
                rwa [List.take_of_length_le (by omega)] at this
            go_wp2
            go_ret
            exact retErr_yes HF.out (below_next HB0.out HB.out)
end Go.Proofs.YtebkgbmijocdjaaGreat.Tp
