/- storage.Add of the program, walked. Condition: the plan and the holds lie in memory and are valid. -/
import Derived.Test.YtebkgbmijocdjaaGreatTpBkAdd
import Derived.Test.YtebkgbmijocdjaaGreatTpSFree
namespace Go.Proofs.YtebkgbmijocdjaaGreat.Tp
open Go Go.RowKit

theorem orL_cmp : ∀ (l m : List Int), l.length = m.length → orL (List.zipWith cmpI l m) = cmpL l m
  | [], [], _ => rfl
  | a :: l, b :: m, h => by
    have ih := orL_cmp l m (by simpa using h)
    rw [List.zipWith_cons_cons, orL, cmpL, ih]
    unfold cmpI
    by_cases h1 : a < b
    · simp [h1]
    · by_cases h2 : b < a
      · simp [h1, h2]
      · simp [h1, h2]
  | [], _ :: _, h => by simp at h
  | _ :: _, [], h => by simp at h
theorem hdC_eq (a b : Hld) : hdC a b = cmpL (hdKey a) (hdKey b) := orL_cmp (hdKey a) (hdKey b) rfl
theorem cmpL_anti : ∀ (l m : List Int), cmpL m l = - cmpL l m
  | [], [] => rfl
  | [], _ :: _ => rfl
  | _ :: _, [] => rfl
  | a :: l, b :: m => by
    have ih := cmpL_anti l m
    rw [cmpL, cmpL, ih]
    split
    · rw [if_neg (by omega)]
    · split <;> rfl
theorem cmpL_le_lt : ∀ (l m n : List Int), l.length = m.length → cmpL l m ≤ 0 → cmpL m n < 0 → cmpL l n < 0
  | [], [], _, _, _, h => by cases ‹List Int› <;> simp [cmpL] at h ⊢
  | a :: l, b :: m, [], _, _, h => by simp [cmpL] at h
  | a :: l, b :: m, c :: n, hl, h1, h2 => by
    have ih := cmpL_le_lt l m n (by simpa using hl)
    rw [cmpL] at h1 h2 ⊢
    by_cases x1 : a < b
    · by_cases x2 : b < c
      · rw [if_pos (by omega)]; omega
      · rw [if_neg x2] at h2
        by_cases x3 : c < b
        · rw [if_pos x3] at h2; omega
        · rw [if_pos (by omega)]; omega
    · rw [if_neg x1] at h1
      by_cases x2 : b < a
      · rw [if_pos x2] at h1; omega
      · rw [if_neg x2] at h1
        by_cases x3 : b < c
        · rw [if_pos (by omega)]; omega
        · rw [if_neg x3] at h2
          by_cases x4 : c < b
          · rw [if_pos x4] at h2; omega
          · rw [if_neg x4] at h2
            rw [if_neg (by omega), if_neg (by omega)]
            exact ih h1 h2
  | [], _ :: _, _, h, _, _ => by simp at h
  | _ :: _, [], _, h, _, _ => by simp at h
theorem used_perm {l m : List Hld} (h : l.Perm m) (n t : Int) : used l n t = used m n t := by
  induction h with
  | nil => rfl
  | cons x _ ih => rw [used_cons, used_cons, ih]
  | swap x y l => rw [used_cons, used_cons, used_cons, used_cons]; omega
  | trans _ _ h1 h2 => rw [h1, h2]
/-- a hold can be added -/
def AddHOK (p : Pln) (l : List Hld) (x : Hld) : Prop := HldOK p x ∧ l.length ≠ 512 ∧ ∀ q, p.q[x.node.toNat]? = some q → ∀ t, used (x :: l) x.node t ≤ q
theorem hds_ins {p : Pln} {l : List Hld} {x : Hld} {i : Nat} (hl : HdsOK p l) (hx : AddHOK p l x) (hi : i ≤ l.length) (hlo : ∀ (j : Nat) (y : Hld), j < i → l[j]? = some y → hdC y x < 0) (hhi : ∀ (j : Nat) (y : Hld), i ≤ j → l[j]? = some y → 0 ≤ hdC y x) : HdsOK p (insAt l i x) := by
  obtain ⟨h1, h2, h3, h4⟩ := hl
  obtain ⟨hx1, hx2, hx3⟩ := hx
  refine ⟨by rw [insAt_len l x hi]; omega, fun b hb => ?_, ?_, fun n q hq t => ?_⟩
  · rcases List.mem_cons.1 ((insAt_perm l i x).mem_iff.1 hb) with rfl | h
    · exact hx1
    · exact h2 b h
  · unfold insAt
    rw [← List.take_append_drop i l] at h3
    obtain ⟨p1, p2, p3⟩ := List.pairwise_append.1 h3
    refine List.pairwise_append.2 ⟨p1, List.pairwise_cons.2 ⟨fun b hb => ?_, p2⟩, fun a ha b hb => ?_⟩
    · obtain ⟨j, hj, rfl⟩ := List.getElem_of_mem hb
      rw [List.length_drop] at hj
      have e : (l.drop i)[j]? = some (l.drop i)[j] := List.getElem?_eq_getElem (by rw [List.length_drop]; exact hj)
      rw [List.getElem?_drop] at e
      have h5 := hhi (i + j) _ (by omega) e
      rw [hdC_eq] at h5
      unfold hdLe
      rw [cmpL_anti]
      omega
    · rcases List.mem_cons.1 hb with rfl | hb
      · obtain ⟨j, hj, rfl⟩ := List.getElem_of_mem ha
        rw [List.length_take] at hj
        have e : (l.take i)[j]? = some (l.take i)[j] := List.getElem?_eq_getElem (by rw [List.length_take]; exact hj)
        rw [List.getElem?_take, if_pos (by omega)] at e
        have h5 := hlo j _ (by omega) e
        rw [hdC_eq] at h5
        unfold hdLe
        omega
      · exact p3 a ha b hb
  · rw [used_perm (insAt_perm l i x)]
    by_cases hn : x.node = (n : Int)
    · have := hx3 q (by rw [hn]; simpa using hq) t
      rwa [hn] at this
    · rw [used_cons, if_neg (by omega), Int.zero_add]
      exact h4 n q hq t
/-- what Add answers: the holds with one more, in order, or an error -/
def AddHRes (p : Pln) (l : List Hld) (x : Hld) (w : World) (e : Ending) (w' : World) : Prop := ((AddHOK p l x ∧ ∃ l' A c, l'.Perm (x :: l) ∧ HdsOK p l' ∧ e = .returned (.tuple #[.slice A l'.length c, .int .i64 0]) ∧ SlAt hdE w' A l' ∧ l'.length ≤ c ∧ ∀ a, A = some a → w.heap.size ≤ a.block) ∨ (¬ AddHOK p l x ∧ ∃ q : Int, q ≠ 0 ∧ e = .returned (.tuple #[.slice none 0 0, .int .i64 q]))) ∧ Below w.heap.size w w'
set_option maxHeartbeats 8000000 in
set_option maxRecDepth 100000 in
theorem hdAdd_any (Aq : Option Addr) (cq : Nat) (C : Option Addr) (cc : Nat) (p : Pln) (B : Option Addr) (cb : Nat) (l : List Hld) (x : Hld) (w : World) (hp : PlnAt w Aq cq C cc p) (hl : SlAt hdE w B l) (hok : PlnOK p ∧ HdsOK p l) :
    Calls Tryz.prog 38 #[.agg #[.slice Aq p.q.length cq, .slice C p.c.length cc], .slice B l.length cb, .agg #[.int .i64 x.node, .int .i64 x.frm, .int .i64 x.til, .int .i64 x.size, .int .i64 x.tick]] w (AddHRes p l x w) := by
  have hll := hok.2.1
  have hql : p.q.length ≤ 16 := hok.1.1.2.1
  have HB0 : Hid (Below w.heap.size w ((w.alloc (.cells #[.slice Aq p.q.length cq, .slice C p.c.length cc] 25)).alloc (.cells (hdA x) 99))) := ((Below.refl _ _).alloc (Nat.le_refl _) _).alloc (by simp) _
  have HK := Lib.hid ((Bk.new w 25 #[.slice Aq p.q.length cq, .slice C p.c.length cc]).alloc (.cells (hdA x) 99))
  have HX : Hid (Bk ((w.alloc (.cells #[.slice Aq p.q.length cq, .slice C p.c.length cc] 25)).alloc (.cells (hdA x) 99)) (w.heap.size + 1) 99 (hdA x)) := by
    have h := Bk.new (w.alloc (.cells #[.slice Aq p.q.length cq, .slice C p.c.length cc] 25)) 99 (hdA x)
    rwa [World.size_alloc] at h
  have HCK := Lib.hid (fun w hp hl => hdCheck_yes Aq cq C cc p B cb l w hp hl hok)
  have HVA := Lib.hid (fun w => hdValid_any Aq cq C cc p x w)
  have hmono : ∀ (j k : Nat) (y z : Hld), j < k → l[j]? = some y → l[k]? = some z → hdC z x < 0 → hdC y x < 0 := by
    intro j k y z hjk hy hz hc
    obtain ⟨h1, rfl⟩ := List.getElem?_eq_some_iff.1 hy
    obtain ⟨h2, rfl⟩ := List.getElem?_eq_some_iff.1 hz
    have := List.pairwise_iff_getElem.1 hok.2.2.2.1 j k h1 h2 hjk
    rw [hdC_eq] at hc ⊢
    exact cmpL_le_lt (hdKey l[j]) (hdKey l[k]) (hdKey x) rfl this hc
  have HS := Lib.hid (fun w h => hd_search B cb l x w h (by omega) hmono)
  have HCL := Lib.hid (fun w h => hd_clone B cb l w h (by omega))
  have HP := Lib.hid hp
  have HL := Lib.hid hl
  have HOK := Lib.hid hok
  clear hp hl hok hmono
  go_enter Tryz.func38, Tryz.ntmps38
  go_wp2_with fail
  generalize (w.alloc (.cells #[.slice Aq p.q.length cq, .slice C p.c.length cc] 25)).alloc (.cells (hdA x) 99) = W at HB0 HK HX ⊢
  generalize w.heap.size = g0 at HK HX ⊢
  refine (HCK.out _ (HP.out.below HB0.out) (HL.out.below HB0.out)).mono ?_
  rintro e w1 ⟨rfl, hb1⟩
  have HB1 := Lib.hid (below_next HB0.out hb1)
  have HK1 := Lib.hid (HK.out.below hb1 HK.out.lt)
  have HX1 := Lib.hid (HX.out.below hb1 HX.out.lt)
  have d0 := HK1.out.cell 0
  have d1 : w1.cell? ⟨g0, 1, none⟩ = some (.slice C p.c.length cc) := HK1.out.cell 1
  have x0 := HX1.out.cell 0
  have x1 : w1.cell? ⟨g0 + 1, 1, none⟩ = some (.int .i64 x.frm) := HX1.out.cell 1
  have x2 : w1.cell? ⟨g0 + 1, 2, none⟩ = some (.int .i64 x.til) := HX1.out.cell 2
  have x3 : w1.cell? ⟨g0 + 1, 3, none⟩ = some (.int .i64 x.size) := HX1.out.cell 3
  have x4 : w1.cell? ⟨g0 + 1, 4, none⟩ = some (.int .i64 x.tick) := HX1.out.cell 4
  clear hb1 HB0 HK HX HCK
  go_wp2_with fail
  refine (HVA.out _).mono ?_
  rintro e w2 ⟨v, rfl, hv, hb2⟩
  have HV := Lib.hid hv
  have HB2 := Lib.hid (below_next HB1.out hb2)
  have HK2 := Lib.hid (HK1.out.below hb2 HK1.out.lt)
  have HX2 := Lib.hid (HX1.out.below hb2 HX1.out.lt)
  clear hv hb2 HB1 HK1 HX1 d0 d1 x0 x1 x2 x3 x4
  cases v with
  | false =>
    have HN : Hid (¬ AddHOK p l x) := fun h => by have := HV.out.2 h.1; cases this
    go_wp2
    go_ret2
    exact ⟨.inr ⟨HN.out, 2, by decide, rfl⟩, HB2.out⟩
  | true =>
    have HXV : Hid (HldOK p x) := HV.out.1 rfl
    by_cases h5 : l.length = 512
    · have HN : Hid (¬ AddHOK p l x) := fun h => h.2.1 h5
      have hb : ((l.length : Int) == 512) = true := by simp [h5]
      clear h5
      go_wp2
      go_ret2
      exact ⟨.inr ⟨HN.out, 4, by decide, rfl⟩, HB2.out⟩
    · have H5 := Lib.hid h5
      have hb : ((l.length : Int) == 512) = false := by simp; omega
      have x0 := HX2.out.cell 0
      have x1 : w2.cell? ⟨g0 + 1, 1, none⟩ = some (.int .i64 x.frm) := HX2.out.cell 1
      have x2 : w2.cell? ⟨g0 + 1, 2, none⟩ = some (.int .i64 x.til) := HX2.out.cell 2
      have x3 : w2.cell? ⟨g0 + 1, 3, none⟩ = some (.int .i64 x.size) := HX2.out.cell 3
      have x4 : w2.cell? ⟨g0 + 1, 4, none⟩ = some (.int .i64 x.tick) := HX2.out.cell 4
      clear h5
      go_wp2_with fail
      refine (HS.out _ (HL.out.below HB2.out)).mono ?_
      rintro e w3 ⟨i, f, rfl, hi, hlo, hhi, hb3⟩
      have HLO := Lib.hid hlo
      have HHI := Lib.hid hhi
      have HB3 := Lib.hid (below_next HB2.out hb3)
      have HK3 := Lib.hid (HK2.out.below hb3 HK2.out.lt)
      have HX3 := Lib.hid (HX2.out.below hb3 HX2.out.lt)
      have HA3 := Lib.hid (HL.out.below HB3.out)
      clear hlo hhi hb3 HB2 HK2 HX2 HS x0 x1 x2 x3 x4
      have HD : Hid (∀ w', Below w3.heap.size w3 w' → (w'.cell? ⟨g0 + 1, 0, none⟩ = some (.int .i64 x.node) ∧ w'.cell? ⟨g0 + 1, 1, none⟩ = some (.int .i64 x.frm) ∧ w'.cell? ⟨g0 + 1, 2, none⟩ = some (.int .i64 x.til) ∧ w'.cell? ⟨g0 + 1, 3, none⟩ = some (.int .i64 x.size) ∧ w'.cell? ⟨g0 + 1, 4, none⟩ = some (.int .i64 x.tick))) := fun w' hb' => by
        have h2 := HX3.out.below hb' HX3.out.lt
        exact ⟨h2.cell 0, h2.cell 1, h2.cell 2, h2.cell 3, h2.cell 4⟩
      have HLW : Hid (∀ w', Below w3.heap.size w3 w' → SlAt hdE w' B l) := fun w' hb' => HA3.out.below hb'
      go_wp2_with fail
      go_region_held3 (fun w' => (w'.cell? ⟨g0 + 1, 0, none⟩ = some (.int .i64 x.node) ∧ w'.cell? ⟨g0 + 1, 1, none⟩ = some (.int .i64 x.frm) ∧ w'.cell? ⟨g0 + 1, 2, none⟩ = some (.int .i64 x.til) ∧ w'.cell? ⟨g0 + 1, 3, none⟩ = some (.int .i64 x.size) ∧ w'.cell? ⟨g0 + 1, 4, none⟩ = some (.int .i64 x.tick)) ∧ Hid (Below w3.heap.size w3 w')) (((try go_split_ands); first | exact held_start HD (Below.refl _ _).drew | exact held_start HD hb5 | exact held_step HD (by assumption) hb4 | exact held_start HD (heldA (by assumption))))
        ((first
          | (go_at_call 96
             refine (HCL.out _ (HLW.out _ (Hid.out (by (try go_split_ands); assumption)))).mono ?_
             rintro e w4 ⟨v4, rfl, hrow4, hb4⟩
             have hrow5 := row_base (b' := w3.heap.size) hrow4 (Below.size (Hid.out (by (try go_split_ands); assumption))))
          | (go_at_call 95
             refine (hd_insert w3.heap.size v4 l.length i (l.flatMap hdE.f) (hdE.f x) _ _ (by first | exact hrow5 | exact hrow5.alloc _) hi (by omega) (by first | exact Bk.new _ _ _ | exact Bk.below (w := (w3.alloc (.cells (hdE.f x).toArray 99)).drew) (Bk.new w3 _ _) hb4 (by simp)) rfl (hdE.one x) (flat_one l) (Below.size (Hid.out (by (try go_split_ands); assumption))) (fun e => by first | (have h := (hrow5.lt _ e).2; omega) | (have h := (hrow4.lt _ e).1; simp at h; omega))).mono ?_
             rintro e w5 ⟨v5, rfl, hrow6, hob5, hg5⟩
             have hb5 : Below w3.heap.size w3 w5 := Below.grown (Hid.out (by (try go_split_ands); assumption)) hg5 (Below.size (Hid.out (by (try go_split_ands); assumption))) (fun j hj => (hrow5.lt _ hj).1))))
      all_goals
        have HBF : Hid (Below w3.heap.size w3 w5) := by (try go_split_ands); assumption
        have HR5 : Hid (w5.ownsRow w3.heap.size 99 hdE.k v5 (insAt l i x).length ((insAt l i x).flatMap hdE.f)) := by
          show w5.ownsRow _ _ _ _ _ _
          rw [insAt_len l x hi, ← insAt_flat hdE]
          exact hrow6
        obtain ⟨A6, k6, rfl, s1, s2, s3⟩ := sl_of_row2 (E := hdE) HR5.out
        have HS6 := Lib.hid s1
        have HS63 : Hid (∀ a, A6 = some a → w.heap.size ≤ a.block) := fun a ha => Nat.le_trans HB3.out.size (s3 a ha)
        have HB5 := Lib.hid (below_next HB3.out HBF.out)
        have HK5 := Lib.hid (HK3.out.below HBF.out HK3.out.lt)
        have HX5 := Lib.hid (HX3.out.below HBF.out HX3.out.lt)
        clear s1 s3 hrow4 hrow5 hrow6 hob5 hg5 hb4 hb5 HD HLW HCL HR5 HBF HK3 HX3 HA3 HB3
        have HPM : Hid ((insAt l i x).Perm (x :: l)) := insAt_perm l i x
        have HIO : Hid (AddHOK p l x → HdsOK p (insAt l i x)) := fun h => hds_ins HOK.out.2 h hi HLO.out HHI.out
        have hln6 : (insAt l i x).length ≤ 513 := by rw [insAt_len l x hi]; omega
        have hfin : ∀ h ∈ insAt l i x, HldOK p h := fun h hh => by
          rcases List.mem_cons.1 ((insAt_perm l i x).mem_iff.1 hh) with rfl | h'
          · exact HXV.out
          · exact HOK.out.2.2.1 h h'
        generalize insAt l i x = l6 at HS6 s2 HPM HIO hln6 hfin ⊢
        obtain ⟨n, hn⟩ : ∃ n : Nat, x.node = (n : Int) := ⟨x.node.toNat, by have := HXV.out.1; omega⟩
        have hnl : n < p.q.length := by have := HXV.out.2.1; omega
        obtain ⟨q, hq⟩ : ∃ q, p.q[n]? = some q := ⟨_, List.getElem?_eq_getElem hnl⟩
        have HQ := Lib.hid hq
        have HNN := Lib.hid hn
        have hqb := HOK.out.1.2.1 q (List.mem_of_getElem? hq)
        obtain ⟨b, off, rfl, hr⟩ := (HP.out.q.below HB5.out).one (by omega)
        have HQG : Hid (w5.rangeAt b (off + n * 1) (intE.f q)) := hr n q hq
        have hml : mostL (levelsL l6 n) ≤ q ↔ ∀ t, used l6 n t ≤ q := most_le (fun h hh => by have := hfin h hh; unfold HldOK at this; omega) hqb.1
        have HAO : Hid (AddHOK p l x ↔ mostL (levelsL l6 n) ≤ q) := by
          show _ ↔ _
          rw [hml]
          constructor
          · intro h t
            rw [used_perm HPM.out]
            have := h.2.2 q (by rw [HNN.out]; simpa using HQ.out) t
            rwa [HNN.out] at this
          · intro h
            refine ⟨HXV.out, H5.out, fun q' hq' t => ?_⟩
            rw [HNN.out, Int.toNat_natCast, HQ.out] at hq'
            cases hq'
            rw [HNN.out, ← used_perm HPM.out]
            exact h t
        have HLV := Lib.hid (fun w hl => levels_any A6 k6 l6 n w hl (by omega) (fun h hh => by
          have := hfin h hh
          unfold HldOK at this
          exact ⟨by omega, okI_of (by omega) (by omega), okI_of (by omega) (by omega)⟩))
        have hll2 : (levelsL l6 n).length ≤ 1000000 := by
          have h1 := lvGo_len (chg (evL l6 n)) 0 (sortT (evL l6 n))
          have h2 : (sortT (evL l6 n)).length = (timesL (evL l6 n)).length := List.length_mergeSort _
          have h3 := timesL_len (evL l6 n)
          have h4 := evL_len l6 n
          rw [← levelsL_eq] at h1
          omega
        have HMO := Lib.hid (fun A c w hA => most_any A c (levelsL l6 n) w hA hll2)
        have HD5 : Hid (∀ w', Below w5.heap.size w5 w' → w'.cell? ⟨g0 + 1, 0, none⟩ = some (.int .i64 (n : Int)) ∧ w'.cell? ⟨g0, 0, none⟩ = some (.slice (some ⟨b, off, none⟩) p.q.length cq) ∧ w'.cell? ⟨b, off + n, none⟩ = some (.int .i64 q)) := fun w' hb' => by
          have h2 := HX5.out.below hb' HX5.out.lt
          have h3 := HK5.out.below hb' HK5.out.lt
          have h4 := range_below HQG.out hb'
          exact ⟨by have := h2.cell 0; rw [← HNN.out]; exact this, h3.cell 0, by have := h4 0 _ rfl; simpa using this⟩
        have HLW6 : Hid (∀ w', Below w5.heap.size w5 w' → SlAt hdE w' A6 l6) := fun w' hb' => HS6.out.below hb'
        have hn0 : (0 : Int) ≤ (n : Int) := by omega
        have hn1 : (n : Int) < (p.q.length : Int) := by omega
        generalize hM : mostL (levelsL l6 n) = M at HAO HMO
        clear hr hq hn hqb hml hfin hM
        by_cases hmq : M ≤ q
        · have e1 : decide (M > q) = false := by simpa using hmq
          have HY : Hid (AddHOK p l x) := HAO.out.2 hmq
          clear hmq
          go_wp2_with fail
          go_region_held3 (fun w' => (w'.cell? ⟨g0 + 1, 0, none⟩ = some (.int .i64 (n : Int)) ∧ w'.cell? ⟨g0, 0, none⟩ = some (.slice (some ⟨b, off, none⟩) p.q.length cq) ∧ w'.cell? ⟨b, off + n, none⟩ = some (.int .i64 q)) ∧ Hid (Below w5.heap.size w5 w')) (((try go_split_ands); first | exact held_start HD5 (Below.refl _ _).drew | exact held_step HD5 (by assumption) hb7 | exact held_step HD5 (by assumption) hb6))
            ((first
              | (go_at_call 98
                 refine (HLV.out _ (HLW6.out _ (Hid.out (by (try go_split_ands); assumption)))).mono ?_
                 rintro e w6 ⟨A7, k7, rfl, hs7, hc7, hbk7, hb6⟩)
              | (go_at_call 97
                 refine (HMO.out A7 k7 _ hs7).mono ?_
                 rintro e w7 ⟨rfl, hb7⟩)))
          have HB7 : Hid (Below w5.heap.size w5 w7) := by (try go_split_ands); assumption
          have HF : Hid (AddHRes p l x w (.returned (.tuple #[.slice A6 l6.length k6, .int .i64 0])) w7) :=
            ⟨.inl ⟨HY.out, l6, A6, k6, HPM.out, HIO.out HY.out, rfl, HLW6.out _ HB7.out, s2, HS63.out⟩, below_next HB5.out HB7.out⟩
          clear HD5 HLW6 HLV HMO hs7 hc7 hbk7 hb6 hb7
          go_wp2
          go_ret2
          exact HF.out
        · have e1 : decide (M > q) = true := by simp; omega
          have HY : Hid (¬ AddHOK p l x) := fun h => hmq (HAO.out.1 h)
          clear hmq
          go_wp2_with fail
          go_region_held3 (fun w' => (w'.cell? ⟨g0 + 1, 0, none⟩ = some (.int .i64 (n : Int)) ∧ w'.cell? ⟨g0, 0, none⟩ = some (.slice (some ⟨b, off, none⟩) p.q.length cq) ∧ w'.cell? ⟨b, off + n, none⟩ = some (.int .i64 q)) ∧ Hid (Below w5.heap.size w5 w')) (((try go_split_ands); first | exact held_start HD5 (Below.refl _ _).drew | exact held_step HD5 (by assumption) hb7 | exact held_step HD5 (by assumption) hb6))
            ((first
              | (go_at_call 98
                 refine (HLV.out _ (HLW6.out _ (Hid.out (by (try go_split_ands); assumption)))).mono ?_
                 rintro e w6 ⟨A7, k7, rfl, hs7, hc7, hbk7, hb6⟩)
              | (go_at_call 97
                 refine (HMO.out A7 k7 _ hs7).mono ?_
                 rintro e w7 ⟨rfl, hb7⟩)))
          have HB7 : Hid (Below w5.heap.size w5 w7) := by (try go_split_ands); assumption
          have HF : Hid (AddHRes p l x w (.returned (.tuple #[.slice none 0 0, .int .i64 15])) w7) :=
            ⟨.inr ⟨HY.out, 15, by decide, rfl⟩, below_next HB5.out HB7.out⟩
          clear HD5 HLW6 HLV HMO hs7 hc7 hbk7 hb6 hb7
          go_wp2
          go_ret2
          exact HF.out
end Go.Proofs.YtebkgbmijocdjaaGreat.Tp
