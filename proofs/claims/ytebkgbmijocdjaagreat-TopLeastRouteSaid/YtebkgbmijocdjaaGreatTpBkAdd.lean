/- booking.insert and Add of the program, walked. Condition: the plan and the bookings lie in memory. -/
import Derived.Test.YtebkgbmijocdjaaGreatTpIns
import Derived.Test.YtebkgbmijocdjaaGreatTpFree2
namespace Go.Proofs.YtebkgbmijocdjaaGreat.Tp
open Go Go.RowKit

/-- a list with one more at a place -/
def insAt {α : Type} (l : List α) (i : Nat) (x : α) : List α := l.take i ++ x :: l.drop i
theorem insAt_len {α : Type} (l : List α) {i : Nat} (x : α) (h : i ≤ l.length) : (insAt l i x).length = l.length + 1 := by
  unfold insAt
  simp
  omega
theorem insAt_flat {α : Type} (E : Enc α) (l : List α) (i : Nat) (x : α) : (l.flatMap E.f).take (i * E.k) ++ E.f x ++ (l.flatMap E.f).drop (i * E.k) = (insAt l i x).flatMap E.f := by
  have h1 : ∀ (l : List α) (i : Nat), (l.flatMap E.f).take (i * E.k) = (l.take i).flatMap E.f ∧ (l.flatMap E.f).drop (i * E.k) = (l.drop i).flatMap E.f := by
    intro l
    induction l with
    | nil => intro i; simp
    | cons y l ih =>
      intro i
      cases i with
      | zero => simp
      | succ i =>
        have hy := E.len y
        have e : (i + 1) * E.k = (E.f y).length + i * E.k := by rw [hy, Nat.succ_mul, Nat.add_comm]
        rw [List.flatMap_cons, e, List.take_length_add_append, List.drop_length_add_append, (ih i).1, (ih i).2]
        simp
  unfold insAt
  rw [(h1 l i).1, (h1 l i).2, List.flatMap_append, List.flatMap_cons, List.append_assoc]
theorem row_base {w : World} {b b' : Nat} {t : TypeId} {k n : Nat} {v : Value} {xs : List Value} (h : w.ownsRow b t k v n xs) (hb : b' ≤ b) : w.ownsRow b' t k v n xs := by
  obtain ⟨h1, h2⟩ := h
  rcases h2 with h | ⟨g, c, cur, e, h3, h4⟩
  · exact ⟨h1, .inl h⟩
  · exact ⟨h1, .inr ⟨g, c, cur, e, Nat.le_trans hb h3, h4⟩⟩
/-- a slice with one more, at the place where the search ends -/
def InsPost (C : Bkg → Bkg → Int) (l : List Bkg) (x : Bkg) (w : World) (e : Ending) (w' : World) : Prop := ∃ i A c, i ≤ l.length ∧ (∀ (j : Nat) (y : Bkg), j < i → l[j]? = some y → C y x < 0) ∧ (∀ (j : Nat) (y : Bkg), i ≤ j → l[j]? = some y → 0 ≤ C y x) ∧ e = .returned (.slice A (insAt l i x).length c) ∧ SlAt bkE w' A (insAt l i x) ∧ (insAt l i x).length ≤ c ∧ (∀ a, A = some a → w.heap.size ≤ a.block) ∧ Below w.heap.size w w'
set_option maxHeartbeats 4000000 in
set_option maxRecDepth 100000 in
theorem bkInsert_any (A : Option Addr) (cA : Nat) (l : List Bkg) (x : Bkg) (w : World) (hA : SlAt bkE w A l) (hl : l.length ≤ 100000) (hmono : ∀ (j k : Nat) (y z : Bkg), j < k → l[j]? = some y → l[k]? = some z → bkC z x < 0 → bkC y x < 0) :
    Calls Tryz.prog 91 #[.slice A l.length cA, .agg #[.int .i64 x.ct, .int .i64 x.beg, .int .i64 x.fin, .int .i64 x.tick]] w (InsPost bkC l x w) := by
  have HA := Lib.hid hA
  have HB0 : Hid (Below w.heap.size w (w.alloc (.cells (bkA x) 95))) := (Below.refl _ _).alloc (Nat.le_refl _) _
  have HK := Lib.hid (Bk.new w 95 (bkA x))
  have HS := Lib.hid (fun w h => bk_search A cA l x w h (by omega) hmono)
  have HCL := Lib.hid (fun w h => bk_clone A cA l w h (by omega))
  clear hA hmono
  have e0 := HK.out.cell 0
  have e1 := HK.out.cell 1
  have e2 := HK.out.cell 2
  have e3 := HK.out.cell 3
  go_enter Tryz.func91, Tryz.ntmps91
  go_wp2_with fail
  clear e0 e1 e2 e3
  generalize w.alloc (.cells (bkA x) 95) = W at HB0 HK ⊢
  generalize w.heap.size = g0 at HK ⊢
  refine (HS.out _ (HA.out.below HB0.out)).mono ?_
  rintro e w1 ⟨i, f, rfl, hi, hlo, hhi, hb1⟩
  have HLO := Lib.hid hlo
  have HHI := Lib.hid hhi
  have HB1 := Lib.hid (below_next HB0.out hb1)
  have HK1 := Lib.hid (HK.out.below hb1 HK.out.lt)
  have HA1 := Lib.hid (HA.out.below HB1.out)
  clear hlo hhi hb1 HB0 HK HS HA
  have HD : Hid (∀ w', Below w1.heap.size w1 w' → (w'.cell? ⟨g0, 0, none⟩ = some (.int .i64 x.ct) ∧ w'.cell? ⟨g0, 1, none⟩ = some (.int .i64 x.beg) ∧ w'.cell? ⟨g0, 2, none⟩ = some (.int .i64 x.fin) ∧ w'.cell? ⟨g0, 3, none⟩ = some (.int .i64 x.tick))) := fun w' hb' => by
    have h2 := HK1.out.below hb' HK1.out.lt
    exact ⟨h2.cell 0, h2.cell 1, h2.cell 2, h2.cell 3⟩
  have HLW : Hid (∀ w', Below w1.heap.size w1 w' → SlAt bkE w' A l) := fun w' hb' => HA1.out.below hb'
  go_wp2_with fail
  go_region_held3 (fun w' => ((w'.cell? ⟨g0, 0, none⟩ = some (.int .i64 x.ct) ∧ w'.cell? ⟨g0, 1, none⟩ = some (.int .i64 x.beg) ∧ w'.cell? ⟨g0, 2, none⟩ = some (.int .i64 x.fin) ∧ w'.cell? ⟨g0, 3, none⟩ = some (.int .i64 x.tick))) ∧ Hid (Below w1.heap.size w1 w')) (((try go_split_ands); first | exact held_start HD (Below.refl _ _).drew | exact held_start HD hb5 | exact held_step HD (by assumption) hb4 | exact held_start HD (heldA (by assumption))))
    ((first
      | (go_at_call 110
         refine (HCL.out _ (HLW.out _ (Hid.out (by (try go_split_ands); assumption)))).mono ?_
         rintro e w4 ⟨v4, rfl, hrow4, hb4⟩
         have hrow5 := row_base (b' := w1.heap.size) hrow4 (Below.size (Hid.out (by (try go_split_ands); assumption))))
      | (go_at_call 150
         refine (bk_insert w1.heap.size v4 l.length i (l.flatMap bkE.f) (bkE.f x) _ _ (by first | exact hrow5 | exact hrow5.alloc _) hi (by omega) (by first | exact Bk.new _ _ _ | exact Bk.below (w := (w1.alloc (.cells (bkE.f x).toArray 95)).drew) (Bk.new w1 _ _) hb4 (by simp)) rfl (bkE.one x) (flat_one l) (Below.size (Hid.out (by (try go_split_ands); assumption))) (fun e => by first | (have h := (hrow5.lt _ e).2; omega) | (have h := (hrow4.lt _ e).1; simp at h; omega))).mono ?_
         rintro e w5 ⟨v5, rfl, hrow6, hob5, hg5⟩
         have hb5 : Below w1.heap.size w1 w5 := Below.grown (Hid.out (by (try go_split_ands); assumption)) hg5 (Below.size (Hid.out (by (try go_split_ands); assumption))) (fun j hj => (hrow5.lt _ hj).1))))
  all_goals
    have HBF : Hid (Below w1.heap.size w1 w5) := by (try go_split_ands); assumption
    have HR5 : Hid (w5.ownsRow w1.heap.size 95 bkE.k v5 (insAt l i x).length ((insAt l i x).flatMap bkE.f)) := by
      show w5.ownsRow _ _ _ _ _ _
      rw [insAt_len l x hi, ← insAt_flat bkE]
      exact hrow6
    obtain ⟨A6, k6, rfl, x1, x2, x3⟩ := sl_of_row2 (E := bkE) HR5.out
    have HX1 := Lib.hid x1
    have HX3 : Hid (∀ a, A6 = some a → w.heap.size ≤ a.block) := fun a ha => Nat.le_trans HB1.out.size (x3 a ha)
    clear x1 x3 hrow4 hrow5 hrow6 hob5 hg5 hb4 hb5 HD HLW HCL HR5
    go_wp2
    go_ret
    exact ⟨i, A6, k6, hi, HLO.out, HHI.out, rfl, HX1.out, x2, HX3.out, below_next HB1.out HBF.out⟩
/-- a booking can be added -/
def AddOK (p : Pln) (l : List Bkg) (x : Bkg) : Prop := BkgOK p x ∧ l.length ≠ 512 ∧ ¬ ∃ y ∈ busyL l x.ct, y.frm < x.fin ∧ x.beg < y.til
theorem insAt_perm {α : Type} (l : List α) (i : Nat) (x : α) : (insAt l i x).Perm (x :: l) := by
  unfold insAt
  refine List.perm_middle.trans ?_
  rw [List.take_append_drop]
theorem bks_ins {p : Pln} {l : List Bkg} {x : Bkg} {i : Nat} (hl : BksOK p l) (hx : AddOK p l x) (hi : i ≤ l.length) (hlo : ∀ (j : Nat) (y : Bkg), j < i → l[j]? = some y → bkC y x < 0) (hhi : ∀ (j : Nat) (y : Bkg), i ≤ j → l[j]? = some y → 0 ≤ bkC y x) : BksOK p (insAt l i x) := by
  obtain ⟨h1, h2, h3⟩ := hl
  obtain ⟨hx1, hx2, hx3⟩ := hx
  have hno : ∀ y ∈ l, y.ct = x.ct → ¬ (y.beg < x.fin ∧ x.beg < y.fin) := fun y hy he hc => hx3 ⟨⟨y.beg, y.fin⟩, by
    unfold busyL
    exact List.mem_map.2 ⟨y, List.mem_filter.2 ⟨hy, by simpa using he⟩, rfl⟩, hc⟩
  have hxv : x.beg < x.fin := by obtain ⟨_, _, c, _, _, h, _⟩ := hx1; exact h
  have hv : ∀ y ∈ l, y.beg < y.fin := fun y hy => by obtain ⟨_, _, c, _, _, h, _⟩ := h2 y hy; exact h
  refine ⟨by rw [insAt_len l x hi]; omega, fun b hb => ?_, ?_⟩
  · rcases List.mem_cons.1 ((insAt_perm l i x).mem_iff.1 hb) with rfl | h
    · exact hx1
    · exact h2 b h
  · unfold insAt
    rw [← List.take_append_drop i l] at h3
    obtain ⟨p1, p2, p3⟩ := List.pairwise_append.1 h3
    refine List.pairwise_append.2 ⟨p1, List.pairwise_cons.2 ⟨fun b hb => ?_, p2⟩, fun a ha b hb => ?_⟩
    · obtain ⟨j, hj, rfl⟩ := List.getElem_of_mem hb
      rw [List.length_drop] at hj
      have e : (l.drop i)[j]? = some (l.drop i)[j] := List.getElem?_eq_getElem (by rw [List.length_drop]; exact hj)
      rw [List.getElem?_drop] at e
      have h5 := hhi (i + j) _ (by omega) e
      have h6 := hno _ (List.mem_of_getElem? e)
      have h7 := hv _ (List.mem_of_getElem? e)
      generalize (l.drop i)[j] = b at *
      have h8 : ¬ bkC b x < 0 := by omega
      rw [bkC_iff] at h8
      unfold bkLt
      by_cases he : b.ct = x.ct
      · have := h6 he; omega
      · omega
    · rcases List.mem_cons.1 hb with rfl | hb
      · obtain ⟨j, hj, rfl⟩ := List.getElem_of_mem ha
        rw [List.length_take] at hj
        have e : (l.take i)[j]? = some (l.take i)[j] := List.getElem?_eq_getElem (by rw [List.length_take]; exact hj)
        rw [List.getElem?_take, if_pos (by omega)] at e
        have h5 := hlo j _ (by omega) e
        have h6 := hno _ (List.mem_of_getElem? e)
        generalize (l.take i)[j] = a at *
        rw [bkC_iff] at h5
        unfold bkLt
        by_cases he : a.ct = b.ct
        · have := h6 he; omega
        · omega
      · exact p3 a ha b hb
/-- what Add answers: the bookings with one more, in order, or an error -/
def AddRes (p : Pln) (l : List Bkg) (x : Bkg) (w : World) (e : Ending) (w' : World) : Prop := ((AddOK p l x ∧ ∃ l' A c, l'.Perm (x :: l) ∧ BksOK p l' ∧ e = .returned (.tuple #[.slice A l'.length c, .int .i64 0]) ∧ SlAt bkE w' A l' ∧ l'.length ≤ c ∧ ∀ a, A = some a → w.heap.size ≤ a.block) ∨ (¬ AddOK p l x ∧ ∃ q : Int, q ≠ 0 ∧ e = .returned (.tuple #[.slice none 0 0, .int .i64 q]))) ∧ Below w.heap.size w w'
theorem bkClos_any (y : Spn) (x : Bkg) (g : Nat) (w : World) (hg : Bk w g 95 (bkA x)) :
    Calls Tryz.prog 90 #[.agg #[.int .i64 y.frm, .int .i64 y.til], .pointer (some ⟨g, 0, none⟩)] w (RetIff (y.frm < x.fin ∧ x.beg < y.til) w) := by
  have HB0 : Hid (Below w.heap.size w (w.alloc (.cells #[.int .i64 y.frm, .int .i64 y.til] 142))) := (Below.refl _ _).alloc (Nat.le_refl _) _
  have c1 := (hg.alloc (.cells #[.int .i64 y.frm, .int .i64 y.til] 142)).cell 1
  have c2 := (hg.alloc (.cells #[.int .i64 y.frm, .int .i64 y.til] 142)).cell 2
  clear hg
  go_enter Tryz.func90, Tryz.ntmps90
  by_cases h1 : y.frm < x.fin
  · by_cases h2 : x.beg < y.til
    · go_wp2
      go_ret
      exact retIff_of (by simp [h1, h2]) HB0.out
    · go_wp2
      go_ret
      exact retIff_of (by simp [h2]) HB0.out
  · go_wp2
    go_ret
    exact retIff_of (by simp; omega) HB0.out
set_option maxHeartbeats 2000000 in
set_option maxRecDepth 100000 in
theorem bkClos_idx (A : Option Addr) (cA : Nat) (l : List Spn) (g1 : Nat) (p : Spn → Prop) (w : World) (hA : SlAt spE w A l) (hl : l.length ≤ 1000000) (hF : ∀ x ∈ l, ∀ w', Below w.heap.size w w' → Calls Tryz.prog 90 #[.agg #[.int .i64 x.frm, .int .i64 x.til], .pointer (some ⟨g1, 0, none⟩)] w' (RetIff (p x) w')) :
    Calls Tryz.prog 148 #[.slice A l.length cA, .func (.func 90) #[] #[.pointer (some ⟨g1, 0, none⟩)]] w (IdxPost p l w) := by
  have HA := Lib.hid hA
  have HF := Lib.hid hF
  clear hA hF
  go_enter Tryz.func148, Tryz.ntmps148
  go_wp2
  go_loopw [5, 8] (fun _ i wr => ∃ k : Nat, k ≤ l.length ∧ i = .int .i64 k ∧ Below w.heap.size w wr ∧ ∀ x ∈ l.take k, ¬ p x) (fun _ i _ => l.length - (intOf i).toNat)
  case atStart => exact ⟨0, Nat.zero_le _, rfl, Below.refl _ _, by simp⟩
  case round =>
    obtain ⟨k, hk, rfl, hbw, hno⟩ := hrel
    have HB := Lib.hid hbw
    have HNO := Lib.hid hno
    clear hbw hno
    by_cases hlt : k < l.length
    · obtain ⟨b, off, rfl, hr⟩ := HA.out.one (by omega)
      obtain ⟨r, hrk⟩ : ∃ r, l[k]? = some r := ⟨_, List.getElem?_eq_getElem hlt⟩
      have HRK := Lib.hid hrk
      have hrg : wr.rangeAt b (off + k * 2) (spE.f r) := range_below (hr k r hrk) HB.out
      have c0 : wr.cell? ⟨b, off + k * 2, none⟩ = some (.int .i64 r.frm) := hrg 0 _ rfl
      have c1 : wr.cell? ⟨b, off + k * 2 + 1, none⟩ = some (.int .i64 r.til) := hrg 1 _ rfl
      have HCL := Lib.hid (HF.out r (List.mem_of_getElem? hrk) wr HB.out)
      clear hr hrk hrg
      go_wp2_with fail
      refine HCL.out.mono ?_
      rintro e w2 ⟨v, rfl, hv, hb2⟩
      have HB2 := Lib.hid (below_next HB.out hb2)
      have HV := Lib.hid hv
      clear hb2 HCL hv c0 c1
      cases v with
      | false =>
        have HN : Hid (∀ x ∈ l.take (k + 1), ¬ p x) := by
          intro x hx
          rw [take_snoc HRK.out] at hx
          rcases List.mem_append.1 hx with h | h
          · exact HNO.out x h
          · rw [List.mem_singleton.1 h]
            intro hp
            have := HV.out.2 hp
            cases this
        go_wp2
        go_roundw
        case rel => exact ⟨k + 1, by omega, by go_num, HB2.out, HN.out⟩
        case measure => simp [intOf]; omega
      | true =>
        have HP := Lib.hid (HV.out.1 rfl)
        go_wp2
        go_ret
        exact ⟨_, rfl, .inr ⟨k, r, rfl, HRK.out, HP.out, HNO.out⟩, HB2.out⟩
    · have HN : Hid (∀ x ∈ l, ¬ p x) := by
        intro x hx
        refine HNO.out x ?_
        rw [List.take_of_length_le (by omega)]
        exact hx
      go_wp2
      go_ret
      exact ⟨_, rfl, .inl ⟨rfl, HN.out⟩, HB.out⟩
set_option maxHeartbeats 2000000 in
theorem bkClos_has (A : Option Addr) (cA : Nat) (l : List Spn) (g1 : Nat) (p : Spn → Prop) (w : World) (hA : SlAt spE w A l) (hl : l.length ≤ 1000000) (hF : ∀ x ∈ l, ∀ w', Below w.heap.size w w' → Calls Tryz.prog 90 #[.agg #[.int .i64 x.frm, .int .i64 x.til], .pointer (some ⟨g1, 0, none⟩)] w' (RetIff (p x) w')) :
    Calls Tryz.prog 88 #[.slice A l.length cA, .func (.func 90) #[] #[.pointer (some ⟨g1, 0, none⟩)]] w (RetIff (∃ x ∈ l, p x) w) := by
  have HI := Lib.hid (bkClos_idx A cA l g1 p w hA hl hF)
  clear hA hF
  go_enter Tryz.func88, Tryz.ntmps88
  go_wp2_with fail
  refine HI.out.mono ?_
  rintro e w1 ⟨z, rfl, hz, hb⟩
  have HB := Lib.hid hb
  have HZ := Lib.hid (idx_has hz)
  clear hz hb HI
  go_wp2
  go_ret
  exact retIff_of (by have := HZ.out; simpa using this) HB.out
set_option maxHeartbeats 4000000 in
set_option maxRecDepth 100000 in
theorem bkAdd_any (Aq : Option Addr) (cq : Nat) (C : Option Addr) (cc : Nat) (p : Pln) (B : Option Addr) (cb : Nat) (l : List Bkg) (x : Bkg) (w : World) (hp : PlnAt w Aq cq C cc p) (hl : SlAt bkE w B l) (hok : PlnOK p ∧ BksOK p l) :
    Calls Tryz.prog 37 #[.agg #[.slice Aq p.q.length cq, .slice C p.c.length cc], .slice B l.length cb, .agg #[.int .i64 x.ct, .int .i64 x.beg, .int .i64 x.fin, .int .i64 x.tick]] w (AddRes p l x w) := by
  have hll := hok.2.1
  have HB0 : Hid (Below w.heap.size w ((w.alloc (.cells #[.slice Aq p.q.length cq, .slice C p.c.length cc] 25)).alloc (.cells (bkA x) 95))) := ((Below.refl _ _).alloc (Nat.le_refl _) _).alloc (by simp) _
  have HK := Lib.hid ((Bk.new w 25 #[.slice Aq p.q.length cq, .slice C p.c.length cc]).alloc (.cells (bkA x) 95))
  have HX : Hid (Bk ((w.alloc (.cells #[.slice Aq p.q.length cq, .slice C p.c.length cc] 25)).alloc (.cells (bkA x) 95)) (w.heap.size + 1) 95 (bkA x)) := by
    have h := Bk.new (w.alloc (.cells #[.slice Aq p.q.length cq, .slice C p.c.length cc] 25)) 95 (bkA x)
    rwa [World.size_alloc] at h
  have HCK := Lib.hid (fun w hp hl => bkCheck_any Aq cq C cc p B cb l w hp hl (by unfold maxLen; omega))
  have HVA := Lib.hid (fun w hp => bkValid_any Aq cq C cc p x w hp)
  have HBU := Lib.hid (fun w hl => busy_any B cb l x.ct w hl (by omega))
  have hmono : ∀ (j k : Nat) (y z : Bkg), j < k → l[j]? = some y → l[k]? = some z → bkC z x < 0 → bkC y x < 0 := by
    intro j k y z hjk hy hz hc
    obtain ⟨h1, rfl⟩ := List.getElem?_eq_some_iff.1 hy
    obtain ⟨h2, rfl⟩ := List.getElem?_eq_some_iff.1 hz
    have := List.pairwise_iff_getElem.1 hok.2.2.2 j k h1 h2 hjk
    rw [bkC_iff] at hc ⊢
    unfold bkLt at this
    omega
  have HIN := Lib.hid (fun A' cA' w hl => bkInsert_any A' cA' l x w hl (by omega) hmono)
  have HP := Lib.hid hp
  have HL := Lib.hid hl
  have HOK := Lib.hid hok
  have e0 := HX.out.cell 0
  have e1 := HX.out.cell 1
  have e2 := HX.out.cell 2
  have e3 := HX.out.cell 3
  clear hp hl hok hmono e0 e1 e2 e3
  go_enter Tryz.func37, Tryz.ntmps37
  go_wp2_with fail
  generalize (w.alloc (.cells #[.slice Aq p.q.length cq, .slice C p.c.length cc] 25)).alloc (.cells (bkA x) 95) = W at HB0 HK HX ⊢
  generalize w.heap.size = g0 at HK HX ⊢
  refine (HCK.out _ (HP.out.below HB0.out) (HL.out.below HB0.out)).mono ?_
  rintro e w1 ⟨q, rfl, hq, hb1⟩
  obtain rfl : q = 0 := hq.2 HOK.out
  have HB1 := Lib.hid (below_next HB0.out hb1)
  have HK1 := Lib.hid (HK.out.below hb1 HK.out.lt)
  have HX1 := Lib.hid (HX.out.below hb1 HX.out.lt)
  have d0 := HK1.out.cell 0
  have d1 : w1.cell? ⟨g0, 1, none⟩ = some (.slice C p.c.length cc) := HK1.out.cell 1
  have x0 := HX1.out.cell 0
  have x1 : w1.cell? ⟨g0 + 1, 1, none⟩ = some (.int .i64 x.beg) := HX1.out.cell 1
  have x2 : w1.cell? ⟨g0 + 1, 2, none⟩ = some (.int .i64 x.fin) := HX1.out.cell 2
  have x3 : w1.cell? ⟨g0 + 1, 3, none⟩ = some (.int .i64 x.tick) := HX1.out.cell 3
  clear hq hb1 HB0 HK HX HCK
  go_wp2_with fail
  refine (HVA.out _ (HP.out.below HB1.out)).mono ?_
  rintro e w2 ⟨v, rfl, hv, hb2⟩
  have HV := Lib.hid hv
  have HB2 := Lib.hid (below_next HB1.out hb2)
  have HX2 := Lib.hid (HX1.out.below hb2 HX1.out.lt)
  clear hv hb2 HB1 HK1 HX1 d0 d1 x0 x1 x2 x3
  cases v with
  | false =>
    have HN : Hid (¬ AddOK p l x) := fun h => by have := HV.out.2 h.1; cases this
    go_wp2
    go_ret2
    exact ⟨.inr ⟨HN.out, 2, by decide, rfl⟩, HB2.out⟩
  | true =>
    by_cases h5 : l.length = 512
    · have HN : Hid (¬ AddOK p l x) := fun h => h.2.1 h5
      have hb : ((l.length : Int) == 512) = true := by simp [h5]
      clear h5
      go_wp2
      go_ret2
      exact ⟨.inr ⟨HN.out, 4, by decide, rfl⟩, HB2.out⟩
    · have H5 := Lib.hid h5
      have hb : ((l.length : Int) == 512) = false := by simp; omega
      have x0 := HX2.out.cell 0
      clear h5
      go_wp2_with fail
      refine (HBU.out _ (HL.out.below HB2.out)).mono ?_
      rintro e w3 ⟨A3, k3, rfl, hs3, hc3, hbk3, hb3⟩
      have HB3 := Lib.hid (below_next HB2.out hb3)
      have HX3 := Lib.hid (HX2.out.below hb3 HX2.out.lt)
      have hbl : (busyL l x.ct).length ≤ 1000000 := Nat.le_trans (busyL_len _ _) (by omega)
      have HCF := Lib.hid (bkClos_has A3 k3 (busyL l x.ct) (g0 + 1) (fun y => y.frm < x.fin ∧ x.beg < y.til) w3 hs3 hbl (fun y _ w' hb' => bkClos_any y x (g0 + 1) w' (HX3.out.below hb' HX3.out.lt)))
      have hmf := fun (fn : Fn) (first cap : Array Value) (w : World) => (rfl : (Instr.makeFunc fn first cap).run Tryz.prog w = .ok (.func fn first cap) w)
      clear hs3 hc3 hbk3 hb3 x0 hbl
      go_wp2_with fail
      refine HCF.out.mono ?_
      rintro e w4 ⟨v, rfl, hv4, hb4⟩
      have HV4 := Lib.hid hv4
      have HB4 := Lib.hid (below_next HB3.out hb4)
      have HX4 := Lib.hid (HX3.out.below hb4 HX3.out.lt)
      clear hv4 hb4 HX3 HCF hmf
      cases v with
      | true =>
        have HN : Hid (¬ AddOK p l x) := fun h => h.2.2 (HV4.out.1 rfl)
        go_wp2
        go_ret2
        exact ⟨.inr ⟨HN.out, 14, by decide, rfl⟩, HB4.out⟩
      | false =>
        have HY : Hid (AddOK p l x) := ⟨by have := HV.out; simpa using this, H5.out, fun h => by have := HV4.out.2 h; cases this⟩
        have x0 := HX4.out.cell 0
        have x1 : w4.cell? ⟨g0 + 1, 1, none⟩ = some (.int .i64 x.beg) := HX4.out.cell 1
        have x2 : w4.cell? ⟨g0 + 1, 2, none⟩ = some (.int .i64 x.fin) := HX4.out.cell 2
        have x3 : w4.cell? ⟨g0 + 1, 3, none⟩ = some (.int .i64 x.tick) := HX4.out.cell 3
        go_wp2_with fail
        refine (HIN.out _ _ _ (HL.out.below HB4.out)).mono ?_
        rintro e w5 ⟨i, A5, k5, hi, hlo, hhi, rfl, hs5, hc5, hbk5, hb5⟩
        have HF : Hid (AddRes p l x w (.returned (.tuple #[.slice A5 (insAt l i x).length k5, .int .i64 0])) w5) :=
          ⟨.inl ⟨HY.out, insAt l i x, A5, k5, insAt_perm l i x, bks_ins HOK.out.2 HY.out hi hlo hhi, rfl, hs5, hc5, fun a ha => Nat.le_trans HB4.out.size (hbk5 a ha)⟩, below_next HB4.out hb5⟩
        clear hlo hhi hs5 hc5 hbk5 hb5 x0 x1 x2 x3
        go_wp2
        go_ret2
        exact HF.out
end Go.Proofs.YtebkgbmijocdjaaGreat.Tp
