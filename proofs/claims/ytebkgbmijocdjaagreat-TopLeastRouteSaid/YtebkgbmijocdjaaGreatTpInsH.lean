/- slices.BinarySearchFunc, Clone and Insert at holds, walked. Condition: the slice lies in memory, of at most a million elements. -/
import Derived.Test.YtebkgbmijocdjaaGreatTpIns
namespace Go.Proofs.YtebkgbmijocdjaaGreat.Tp
open Go Go.RowKit

theorem infohd : (Tryz.prog.info? 99).map (fun i => (i.zero, i.size, i.bytes)) = some (some (.agg #[.int .i64 0, .int .i64 0, .int .i64 0, .int .i64 0, .int .i64 0]), 5, 40) := by kernel_rfl
/-- where a search by 'hdC' ends -/
def hdFound (l : List Hld) (x : Hld) (w : World) (e : Ending) (w' : World) : Prop := ∃ (i : Nat) (f : Bool), e = .returned (.tuple #[.int .i64 i, .bool f]) ∧ i ≤ l.length ∧ (∀ (j : Nat) (y : Hld), j < i → l[j]? = some y → hdC y x < 0) ∧ (∀ (j : Nat) (y : Hld), i ≤ j → l[j]? = some y → 0 ≤ hdC y x) ∧ Below w.heap.size w w'
set_option maxHeartbeats 4000000 in
set_option maxRecDepth 100000 in
theorem hd_search (A : Option Addr) (cA : Nat) (l : List Hld) (x : Hld) (w : World) (hA : SlAt hdE w A l) (hl : l.length ≤ 1000000) (hmono : ∀ (j k : Nat) (y z : Hld), j < k → l[j]? = some y → l[k]? = some z → hdC z x < 0 → hdC y x < 0) :
    Calls Tryz.prog 93 #[.slice A l.length cA, .agg #[.int .i64 x.node, .int .i64 x.frm, .int .i64 x.til, .int .i64 x.size, .int .i64 x.tick], .func (.func 94) #[] #[]] w (hdFound l x w) := by
  have HA := Lib.hid hA
  have HM := Lib.hid hmono
  have HB0 : Hid (Below w.heap.size w (w.alloc (.cells #[.int .i64 x.node, .int .i64 x.frm, .int .i64 x.til, .int .i64 x.size, .int .i64 x.tick] 99))) := (Below.refl _ _).alloc (Nat.le_refl _) _
  have HK := Lib.hid (Bk.new w 99 #[.int .i64 x.node, .int .i64 x.frm, .int .i64 x.til, .int .i64 x.size, .int .i64 x.tick])
  clear hA hmono
  go_enter Tryz.func93, Tryz.ntmps93
  go_wp2
  generalize w.alloc (.cells #[.int .i64 x.node, .int .i64 x.frm, .int .i64 x.til, .int .i64 x.size, .int .i64 x.tick] 99) = W at HB0 HK ⊢
  generalize w.heap.size = g0 at HK ⊢
  go_loopw [9, 10, 11] (fun i j _ wr => ∃ lo hi : Nat, lo ≤ hi ∧ hi ≤ l.length ∧ i = .int .i64 lo ∧ j = .int .i64 hi ∧ Below W.heap.size W wr ∧ (∀ (j : Nat) (y : Hld), j < lo → l[j]? = some y → hdC y x < 0) ∧ (∀ (j : Nat) (y : Hld), hi ≤ j → l[j]? = some y → 0 ≤ hdC y x)) (fun i j _ _ => (intOf j).toNat - (intOf i).toNat)
  case atStart => exact ⟨0, l.length, Nat.zero_le _, Nat.le_refl _, rfl, rfl, Below.refl _ _, fun _ _ h => absurd h (Nat.not_lt_zero _), fun j y h1 h2 => by have := (List.getElem?_eq_some_iff.1 h2).1; omega⟩
  case round =>
    obtain ⟨lo, hi, hlh, hhl, rfl, rfl, hbw, hlo, hhi⟩ := hrel
    have HB := Lib.hid hbw
    have HLO := Lib.hid hlo
    have HHI := Lib.hid hhi
    have HBW := Lib.hid (below_next HB0.out hbw)
    clear hbw hlo hhi
    by_cases hlt : lo < hi
    · obtain ⟨m, hm⟩ : ∃ m : Nat, m = (lo + hi) / 2 := ⟨_, rfl⟩
      have hm1 : lo ≤ m := by omega
      have hm2 : m < hi := by omega
      have HMD : Hid (m = (lo + hi) / 2) := hm
      obtain ⟨b, off, rfl, hr⟩ := (HA.out.below HBW.out).one (by omega)
      obtain ⟨r, hrk⟩ : ∃ r, l[m]? = some r := ⟨_, List.getElem?_eq_getElem (by omega)⟩
      have HRK := Lib.hid hrk
      have HXG : Hid (wr.rangeAt b (off + m * 5) (hdE.f r)) := hr m r hrk
      have HCM := Lib.hid (fun w => hdCompare_any r x w)
      have HD : Hid (∀ w', Below wr.heap.size wr w' → ((w'.cell? ⟨b, off + m * 5, none⟩ = some (.int .i64 r.node) ∧ w'.cell? ⟨b, off + m * 5 + 1, none⟩ = some (.int .i64 r.frm) ∧ w'.cell? ⟨b, off + m * 5 + 2, none⟩ = some (.int .i64 r.til) ∧ w'.cell? ⟨b, off + m * 5 + 3, none⟩ = some (.int .i64 r.size) ∧ w'.cell? ⟨b, off + m * 5 + 4, none⟩ = some (.int .i64 r.tick)) ∧ w'.cell? ⟨g0, 0, none⟩ = some (.int .i64 x.node) ∧ w'.cell? ⟨g0, 1, none⟩ = some (.int .i64 x.frm) ∧ w'.cell? ⟨g0, 2, none⟩ = some (.int .i64 x.til) ∧ w'.cell? ⟨g0, 3, none⟩ = some (.int .i64 x.size) ∧ w'.cell? ⟨g0, 4, none⟩ = some (.int .i64 x.tick))) := fun w' hb' => by
        have h2 := HK.out.below (below_next HB.out hb') HK.out.lt
        have h5 := range_below HXG.out hb'
        exact ⟨⟨h5 0 _ rfl, h5 1 _ rfl, h5 2 _ rfl, h5 3 _ rfl, h5 4 _ rfl⟩, h2.cell 0, h2.cell 1, h2.cell 2, h2.cell 3, h2.cell 4⟩
      clear hr hrk hm
      go_wp2_with fail
      have hmm : ((lo : Int) + (hi : Int)) / 2 = (m : Int) := by have := HMD.out; omega
      rw [hmm]
      clear hmm
      have hm3 : (0 : Int) ≤ (m : Int) := by omega
      have hm4 : (m : Int) < (l.length : Int) := by omega
      by_cases hc : hdC r x < 0
      · have d1 : decide (hdC r x < 0) = true := by simpa using hc
        have HLN : Hid (∀ (j : Nat) (y : Hld), j < m + 1 → l[j]? = some y → hdC y x < 0) := fun j y h1 h2 => by
          by_cases e : j = m
          · rw [e, HRK.out] at h2
            cases h2
            exact hc
          · exact HM.out j m y r (by omega) h2 HRK.out hc
        clear hc
        go_region_held3 (fun w' => ((w'.cell? ⟨b, off + m * 5, none⟩ = some (.int .i64 r.node) ∧ w'.cell? ⟨b, off + m * 5 + 1, none⟩ = some (.int .i64 r.frm) ∧ w'.cell? ⟨b, off + m * 5 + 2, none⟩ = some (.int .i64 r.til) ∧ w'.cell? ⟨b, off + m * 5 + 3, none⟩ = some (.int .i64 r.size) ∧ w'.cell? ⟨b, off + m * 5 + 4, none⟩ = some (.int .i64 r.tick)) ∧ w'.cell? ⟨g0, 0, none⟩ = some (.int .i64 x.node) ∧ w'.cell? ⟨g0, 1, none⟩ = some (.int .i64 x.frm) ∧ w'.cell? ⟨g0, 2, none⟩ = some (.int .i64 x.til) ∧ w'.cell? ⟨g0, 3, none⟩ = some (.int .i64 x.size) ∧ w'.cell? ⟨g0, 4, none⟩ = some (.int .i64 x.tick)) ∧ Hid (Below wr.heap.size wr w')) (((try go_split_ands); first | exact held_start HD (Below.refl _ _).drew | exact held_step HD (by assumption) hb4))
          ((go_at_call 94
            refine (HCM.out _).mono ?_
            rintro e w4 ⟨rfl, hb4⟩))
        have HBF : Hid (Below wr.heap.size wr w4) := by (try go_split_ands); assumption
        go_wp2
        go_roundw
        case rel => exact ⟨m + 1, hi, by omega, by omega, by go_num, rfl, HB.out.trans (HBF.out.mono HB.out.size), HLN.out, HHI.out⟩
        case measure => simp [intOf]; omega
      · have d1 : decide (hdC r x < 0) = false := by simpa using hc
        have HLN : Hid (∀ (j : Nat) (y : Hld), m ≤ j → l[j]? = some y → 0 ≤ hdC y x) := fun j y h1 h2 => by
          by_cases e : j = m
          · rw [e, HRK.out] at h2
            cases h2
            omega
          · apply Int.not_lt.1
            intro h3
            exact hc (HM.out m j r y (by omega) HRK.out h2 h3)
        clear hc
        go_region_held3 (fun w' => ((w'.cell? ⟨b, off + m * 5, none⟩ = some (.int .i64 r.node) ∧ w'.cell? ⟨b, off + m * 5 + 1, none⟩ = some (.int .i64 r.frm) ∧ w'.cell? ⟨b, off + m * 5 + 2, none⟩ = some (.int .i64 r.til) ∧ w'.cell? ⟨b, off + m * 5 + 3, none⟩ = some (.int .i64 r.size) ∧ w'.cell? ⟨b, off + m * 5 + 4, none⟩ = some (.int .i64 r.tick)) ∧ w'.cell? ⟨g0, 0, none⟩ = some (.int .i64 x.node) ∧ w'.cell? ⟨g0, 1, none⟩ = some (.int .i64 x.frm) ∧ w'.cell? ⟨g0, 2, none⟩ = some (.int .i64 x.til) ∧ w'.cell? ⟨g0, 3, none⟩ = some (.int .i64 x.size) ∧ w'.cell? ⟨g0, 4, none⟩ = some (.int .i64 x.tick)) ∧ Hid (Below wr.heap.size wr w')) (((try go_split_ands); first | exact held_start HD (Below.refl _ _).drew | exact held_step HD (by assumption) hb4))
          ((go_at_call 94
            refine (HCM.out _).mono ?_
            rintro e w4 ⟨rfl, hb4⟩))
        have HBF : Hid (Below wr.heap.size wr w4) := by (try go_split_ands); assumption
        go_wp2
        go_roundw
        case rel => exact ⟨lo, m, hm1, by omega, rfl, by go_num, HB.out.trans (HBF.out.mono HB.out.size), HLO.out, HLN.out⟩
        case measure => simp [intOf]; omega
    · have hee : lo = hi := by omega
      have HHI2 : Hid (∀ (j : Nat) (y : Hld), lo ≤ j → l[j]? = some y → 0 ≤ hdC y x) := by
        have h := HHI.out
        rw [← hee] at h
        exact h
      clear hee
      by_cases hin : lo < l.length
      · obtain ⟨b, off, rfl, hr⟩ := (HA.out.below HBW.out).one (by omega)
        obtain ⟨m, hm⟩ : ∃ m : Nat, m = lo := ⟨_, rfl⟩
        obtain ⟨r, hrk⟩ : ∃ r, l[m]? = some r := ⟨_, List.getElem?_eq_getElem (by omega)⟩
        have HXG : Hid (wr.rangeAt b (off + m * 5) (hdE.f r)) := hr m r hrk
        have HCM := Lib.hid (fun w => hdCompare_any r x w)
        have HD : Hid (∀ w', Below wr.heap.size wr w' → ((w'.cell? ⟨b, off + m * 5, none⟩ = some (.int .i64 r.node) ∧ w'.cell? ⟨b, off + m * 5 + 1, none⟩ = some (.int .i64 r.frm) ∧ w'.cell? ⟨b, off + m * 5 + 2, none⟩ = some (.int .i64 r.til) ∧ w'.cell? ⟨b, off + m * 5 + 3, none⟩ = some (.int .i64 r.size) ∧ w'.cell? ⟨b, off + m * 5 + 4, none⟩ = some (.int .i64 r.tick)) ∧ w'.cell? ⟨g0, 0, none⟩ = some (.int .i64 x.node) ∧ w'.cell? ⟨g0, 1, none⟩ = some (.int .i64 x.frm) ∧ w'.cell? ⟨g0, 2, none⟩ = some (.int .i64 x.til) ∧ w'.cell? ⟨g0, 3, none⟩ = some (.int .i64 x.size) ∧ w'.cell? ⟨g0, 4, none⟩ = some (.int .i64 x.tick))) := fun w' hb' => by
          have h2 := HK.out.below (below_next HB.out hb') HK.out.lt
          have h5 := range_below HXG.out hb'
          exact ⟨⟨h5 0 _ rfl, h5 1 _ rfl, h5 2 _ rfl, h5 3 _ rfl, h5 4 _ rfl⟩, h2.cell 0, h2.cell 1, h2.cell 2, h2.cell 3, h2.cell 4⟩
        clear hr hrk
        subst hm
        have hm3 : (0 : Int) ≤ (m : Int) := by omega
        have hm4 : (m : Int) < (l.length : Int) := by omega
        have d0 : decide ((m : Int) < (l.length : Int)) = true := by simpa using hin
        go_wp2_with fail
        go_region_held3 (fun w' => ((w'.cell? ⟨b, off + m * 5, none⟩ = some (.int .i64 r.node) ∧ w'.cell? ⟨b, off + m * 5 + 1, none⟩ = some (.int .i64 r.frm) ∧ w'.cell? ⟨b, off + m * 5 + 2, none⟩ = some (.int .i64 r.til) ∧ w'.cell? ⟨b, off + m * 5 + 3, none⟩ = some (.int .i64 r.size) ∧ w'.cell? ⟨b, off + m * 5 + 4, none⟩ = some (.int .i64 r.tick)) ∧ w'.cell? ⟨g0, 0, none⟩ = some (.int .i64 x.node) ∧ w'.cell? ⟨g0, 1, none⟩ = some (.int .i64 x.frm) ∧ w'.cell? ⟨g0, 2, none⟩ = some (.int .i64 x.til) ∧ w'.cell? ⟨g0, 3, none⟩ = some (.int .i64 x.size) ∧ w'.cell? ⟨g0, 4, none⟩ = some (.int .i64 x.tick)) ∧ Hid (Below wr.heap.size wr w')) (((try go_split_ands); first | exact held_start HD (Below.refl _ _).drew | exact held_step HD (by assumption) hb4))
          ((go_at_call 94
            refine (HCM.out _).mono ?_
            rintro e w4 ⟨rfl, hb4⟩))
        have HBF : Hid (Below wr.heap.size wr w4) := by (try go_split_ands); assumption
        go_wp2
        go_ret2
        exact ⟨m, _, rfl, by omega, HLO.out, HHI2.out, below_next HB0.out (HB.out.trans (HBF.out.mono HB.out.size))⟩
      · have d0 : decide ((lo : Int) < (l.length : Int)) = false := by simpa using hin
        go_wp2_with fail
        go_quiet (fail)
        go_wp2
        go_ret2
        exact ⟨lo, _, rfl, by omega, HLO.out, HHI2.out, below_drawN (below_next HB0.out HB.out) _⟩
set_option maxHeartbeats 4000000 in
set_option maxRecDepth 100000 in
theorem hd_clone (A : Option Addr) (cA : Nat) (l : List Hld) (w : World) (hA : SlAt hdE w A l) (hl : l.length ≤ 1000000) :
    Calls Tryz.prog 96 #[.slice A l.length cA] w (RetRow 99 hdE l w) := by
  cases A with
  | none =>
    have h0 : l = [] := by
      cases l with
      | nil => rfl
      | cons x l => obtain ⟨b, off, hb, _⟩ := hA 0 x rfl; cases hb
    subst h0
    have hn := fun (w : World) => Lib.run_eql_slice_nil (P := Tryz.prog) w 27 99 none 0 cA 0 0 Tryz.underlying27
    go_enter Tryz.func96, Tryz.ntmps96
    go_wp2
    go_ret
    exact ⟨_, rfl, World.ownsRow_nil _ _ _ _, Below.refl _ _⟩
  | some ad =>
    obtain ⟨b0, o0, e0⟩ := ad
    obtain ⟨i0, hi0, hz0, hz1, hz2⟩ := info_parts infohd
    have hn := fun (w : World) => Lib.run_eql_slice_nil (P := Tryz.prog) w 27 99 (some ⟨b0, o0, e0⟩) l.length cA 0 0 Tryz.underlying27
    have HA := Lib.hid hA
    have HO : Hid ((w.alloc (.cells #[] 99)).ownsRow w.heap.size 99 5 (.slice (some ⟨w.heap.size, 0, none⟩) 0 0) 0 []) := World.ownsRow_made w #[] 0 (Nat.le_refl _) (by unfold maxLen; omega) rfl
    have HN : Hid (∀ j u, (l.flatMap hdE.f)[j]? = some u → (w.alloc (.cells #[] 99)).cell? ((⟨b0, o0, e0⟩ : Addr).add j) = some u) := by
      intro j u hj
      cases hl0 : l with
      | nil => rw [hl0] at hj; simp at hj
      | cons x l' =>
        obtain ⟨b, off, hb, _⟩ := hA 0 x (by rw [hl0]; rfl)
        cases hb
        have := cells_flat (hA.below ((Below.refl w.heap.size w).alloc (Nat.le_refl _) (.cells #[] 99))) j u hj
        rw [Addr.add_lit]
        exact this
    clear hA
    go_enter Tryz.func96, Tryz.ntmps96
    go_wp2_with (at_builtin; refine wpList_append_own_at _ rfl _ _ 27 rfl w.heap.size 99 i0 (.agg #[.int .i64 0, .int .i64 0, .int .i64 0, .int .i64 0, .int .i64 0]) 5 40 Tryz.underlying27 hi0 hz0 hz1 hz2 rfl (by decide) _ _ _ rfl HO.out ⟨b0, o0, e0⟩ l.length cA (l.flatMap hdE.f) rfl (flat_len (E := hdE) l) HN.out ?d2 ?d3 ?d4 ?d5 ?_)
    case d2 => exact flat_one (E := hdE) l
    case d3 => unfold maxLen; omega
    case d4 => omega
    case d5 => simp
    intro v' w4 hown' hg' _ _
    have HW : Hid (w4.ownsRow w.heap.size 99 5 v' l.length (l.flatMap hdE.f)) := hown'
    have HB : Hid (Below w.heap.size w w4) := ((Below.refl _ _).alloc (Nat.le_refl _) _).grown hg' (by simp) (fun j hj => by simp [Value.ownBlock] at hj; omega)
    clear hown' hg'
    go_wp2
    go_ret
    exact ⟨_, rfl, HW.out, HB.out⟩
/-- what an insertion leaves -/
def hdInsd (base : Nat) (v : Value) (n i : Nat) (xs ys : List Value) (w : World) (e : Ending) (w' : World) : Prop := ∃ v', e = .returned v' ∧ w'.ownsRow base 99 5 v' (n + 1) (xs.take (i * 5) ++ ys ++ xs.drop (i * 5)) ∧ (v'.ownBlock = v.ownBlock ∨ v'.ownBlock = some w.heap.size) ∧ w.grownBy w' v.ownBlock
set_option maxHeartbeats 4000000 in
set_option maxRecDepth 100000 in
theorem hd_insert_end (base : Nat) (v : Value) (n : Nat) (xs ys : List Value) (vb : Nat) (w : World) (hrow : w.ownsRow base 99 5 v n xs) (hn : n ≤ 1000000) (hy : Bk w vb 99 ys.toArray) (hyl : ys.length = 5) (h1 : ∀ u ∈ ys, u.oneCell' = true) (hbase : base ≤ w.heap.size) :
    Calls Tryz.prog 95 #[v, .int .i64 n, .slice (some ⟨vb, 0, none⟩) 1 1] w (hdInsd base v n n xs ys w) := by
  obtain ⟨i0, hi0, hz0, hz1, hz2⟩ := info_parts infohd
  have HR := Lib.hid hrow
  have HY : Hid (∀ j u, ys[j]? = some u → w.cell? ((⟨vb, 0, none⟩ : Addr).add j) = some u) := fun j u hj => by
    rw [Addr.add_mid, Nat.zero_add, hy.cell]
    simpa using hj
  have HX : Hid (xs.take (n * 5) ++ ys ++ xs.drop (n * 5) = xs ++ ys) := by
    show _ = _
    rw [List.take_of_length_le (by rw [hrow.1]; exact Nat.le_refl _), List.drop_of_length_le (by rw [hrow.1]; exact Nat.le_refl _), List.append_nil]
  have H1 := Lib.hid h1
  have HL := Lib.hid hyl
  clear hy h1 hyl
  obtain ⟨c, A, hv, hnc, hc63⟩ : ∃ (c : Nat) (A : Option Addr), v = .slice A n c ∧ n ≤ c ∧ c ≤ 9223372036854775807 := by
    rcases hrow.2 with ⟨rfl, rfl⟩ | ⟨g, cap, cur, rfl, _, _, h4, h5, _⟩
    · exact ⟨0, none, rfl, Nat.le_refl _, by omega⟩
    · exact ⟨cap, _, rfl, h4, h5⟩
  clear hrow
  subst hv
  by_cases hcn : c = n
  · obtain rfl : n = c := hcn.symm
    go_enter Tryz.func95, Tryz.ntmps95
    go_wp2_with (at_builtin; refine wpList_append_own_at _ rfl _ _ 27 rfl base 99 i0 (.agg #[.int .i64 0, .int .i64 0, .int .i64 0, .int .i64 0, .int .i64 0]) 5 40 Tryz.underlying27 hi0 hz0 hz1 hz2 rfl (by decide) _ _ _ rfl HR.out ⟨vb, 0, none⟩ 1 1 ys rfl HL.out HY.out H1.out ?a3 ?a4 hbase ?_)
    case a3 => unfold maxLen; omega
    case a4 => omega
    intro v' w4 hown' hg' _ hob
    have HW := Lib.hid (show hdInsd base (.slice A n n) n n xs ys w (.returned v') w4 from ⟨v', rfl, by rw [HX.out]; exact hown', hob, hg'⟩)
    clear hown' hg' hob
    go_wp2
    go_ret
    exact HW.out
  · go_enter Tryz.func95, Tryz.ntmps95
    go_wp2_with (at_builtin; refine wpList_append_own_at _ rfl _ _ 27 rfl base 99 i0 (.agg #[.int .i64 0, .int .i64 0, .int .i64 0, .int .i64 0, .int .i64 0]) 5 40 Tryz.underlying27 hi0 hz0 hz1 hz2 rfl (by decide) _ _ _ rfl HR.out ⟨vb, 0, none⟩ 1 1 ys rfl HL.out HY.out H1.out ?d3 ?d4 hbase ?_)
    case d3 => unfold maxLen; omega
    case d4 => omega
    intro v' w4 hown' hg' _ hob
    have HW := Lib.hid (show hdInsd base (.slice A n c) n n xs ys w (.returned v') w4 from ⟨v', rfl, by rw [HX.out]; exact hown', hob, hg'⟩)
    clear hown' hg' hob
    go_wp2
    go_ret
    exact HW.out
set_option maxHeartbeats 4000000 in
set_option maxRecDepth 100000 in
theorem hd_insert_shift (base g c : Nat) (cur : Array Value) (n i : Nat) (xs ys : List Value) (vb : Nat) (w : World) (hxl : xs.length = n * 5) (hg : Bk w g 99 cur) (hcs : cur.size = c * 5) (htk : cur.toList.take (n * 5) = xs) (hi : i < n) (hroom : n + 1 ≤ c) (hc63 : c ≤ maxLen) (hy : Bk w vb 99 ys.toArray) (hyl : ys.length = 5) (h1 : ∀ u ∈ ys, u.oneCell' = true) (h2 : ∀ u ∈ xs, u.oneCell' = true) (hbase : base ≤ g) (hvb : vb ≠ g) :
    Calls Tryz.prog 95 #[.slice (some ⟨g, 0, none⟩) n c, .int .i64 i, .slice (some ⟨vb, 0, none⟩) 1 1] w (hdInsd base (.slice (some ⟨g, 0, none⟩) n c) n i xs ys w) := by
  obtain ⟨i0, hi0, hz0, hz1, hz2⟩ := info_parts infohd
  have hsz : (Tryz.prog.info? 99).map (·.size) = some 5 := by rw [hi0]; simp [hz1]
  have hin : i ≤ n := by omega
  have hcur : ∀ j u, xs[j]? = some u → cur[j]? = some u := fun j u hj => by
    rw [← htk, List.getElem?_take] at hj
    split at hj
    · simpa using hj
    · cases hj
  have hdl : (xs.drop (i * 5)).length = (n - i) * 5 := by rw [List.length_drop, hxl, Nat.sub_mul]
  obtain ⟨R1, hR1⟩ : ∃ R1 : List Value, R1 = cur.toList.take ((i + 1) * 5) ++ xs.drop (i * 5) ++ cur.toList.drop ((i + 1) * 5 + (xs.drop (i * 5)).length) := ⟨_, rfl⟩
  obtain ⟨W1, hW1⟩ : ∃ W1, W1 = w.drew.setRow g R1.toArray := ⟨_, rfl⟩
  have hcp1 : ∀ ty dc sc, (Builtin.copy_ #[27, 27] ty #[.slice (some ⟨g, (i + 1) * 5, none⟩) (n - i) dc, .slice (some ⟨g, i * 5, none⟩) (n + 1 - i) sc]).run Tryz.prog w.drew = .ok (goInt (Nat.min (n + 1 - i) (n - i))) W1 := fun ty dc sc => by
    rw [hW1, hR1]
    refine run_copy_k w.drew _ _ ty 99 5 g _ _ dc _ _ sc cur 99 (xs.drop (i * 5)) Tryz.underlying27 hsz hg ?_ ?_ ?_ (fun u hu => h2 u (List.mem_of_mem_drop hu))
    · rw [hdl, show Nat.min (n + 1 - i) (n - i) = n - i by simp only [Nat.min_def]; split <;> omega]
    · intro j u hj
      rw [Addr.add_mid]
      rw [List.getElem?_drop] at hj
      exact (Bk.cell (w := w) hg _).trans (hcur _ u hj)
    · rw [hdl, hcs]; omega
  have hg1 : Bk W1 g 99 R1.toArray := by
    rw [hW1]; exact setRow_heap w.drew g cur _ _ (0, 0) hg
  have hy1 : Bk W1 vb 99 ys.toArray := by
    rw [hW1]; exact (setRow_other w.drew g vb _ hvb).trans hy
  have hl1 : R1.length = c * 5 := by
    rw [hR1]
    have h5 : (i + 1) * 5 ≤ c * 5 := Nat.mul_le_mul_right _ (by omega)
    have h6 : (i + 1) * 5 + (n - i) * 5 ≤ c * 5 := by omega
    rw [List.length_append, List.length_append, hdl, List.length_take, List.length_drop, Array.length_toList, hcs]
    omega
  obtain ⟨W2, hW2⟩ : ∃ W2, W2 = W1.setRow g (R1.take (i * 5) ++ ys ++ R1.drop (i * 5 + ys.length)).toArray := ⟨_, rfl⟩
  have hcp2 : ∀ ty dc, (Builtin.copy_ #[27, 27] ty #[.slice (some ⟨g, i * 5, none⟩) (n + 1 - i) dc, .slice (some ⟨vb, 0, none⟩) 1 1]).run Tryz.prog W1 = .ok (goInt (Nat.min 1 (n + 1 - i))) W2 := fun ty dc => by
    rw [hW2]
    refine run_copy_k W1 _ _ ty 99 5 g _ _ dc _ _ 1 _ 99 ys Tryz.underlying27 hsz hg1 ?_ ?_ ?_ h1
    · rw [hyl, show Nat.min 1 (n + 1 - i) = 1 by simp only [Nat.min_def]; split <;> omega]
    · intro j u hj
      rw [Addr.add_mid, Nat.zero_add, hy1.cell]
      simpa using hj
    · rw [hyl, List.size_toArray, hl1]; omega
  have HF : Hid (hdInsd base (.slice (some ⟨g, 0, none⟩) n c) n i xs ys w (.returned (.slice (some ⟨g, 0, none⟩) (n + 1) c)) W2) := by
    refine ⟨_, rfl, ⟨?_, .inr ⟨g, c, _, rfl, hbase, by rw [hW2]; exact setRow_heap W1 g _ _ _ (0, 0) hg1, by omega, hc63, ?_, ?_⟩⟩, .inl rfl, ?_⟩
    · rw [List.length_append, List.length_append, hdl, hyl, List.length_take, hxl]; omega
    · rw [List.size_toArray, List.length_append, List.length_append, List.length_take, List.length_drop, hl1, hyl]; omega
    · have e1 : (i + 1) * 5 = i * 5 + 5 := by omega
      have e2 : cur.toList = xs ++ cur.toList.drop (n * 5) := by rw [← htk]; exact (List.take_append_drop _ _).symm
      show List.take _ _ = _
      rw [hR1, hdl]
      have e3 : ∀ r : List Value, (cur.toList.take ((i + 1) * 5) ++ xs.drop (i * 5) ++ r).take (i * 5) = xs.take (i * 5) := fun r => by
        rw [List.append_assoc, List.take_append_of_le_length (by rw [List.length_take, Array.length_toList, hcs]; omega), List.take_take, show min (i * 5) ((i + 1) * 5) = i * 5 by omega]
        conv => lhs; rw [e2]
        rw [List.take_append_of_le_length (by rw [hxl]; omega)]
      have e4 : ∀ r : List Value, (cur.toList.take ((i + 1) * 5) ++ xs.drop (i * 5) ++ r).drop (i * 5 + ys.length) = xs.drop (i * 5) ++ r := fun r => by
        rw [hyl, ← e1, List.append_assoc, List.drop_append_of_le_length (by rw [List.length_take, Array.length_toList, hcs]; omega)]
        rw [List.drop_of_length_le (by rw [List.length_take]; omega), List.nil_append]
      rw [e3, e4, ← List.append_assoc, List.take_left' (by rw [List.length_append, List.length_append, hdl, hyl, List.length_take, hxl]; omega)]
    · exact ⟨by rw [hW2, hW1]; rfl, by rw [hW2, hW1]; rfl, by rw [hW2, hW1]; rfl, by rw [hW2, hW1]; simp, fun k hk hne => by
        have hkg : k ≠ g := fun e => hne (by rw [e]; rfl)
        rw [hW2, setRow_other W1 g k _ hkg, hW1, setRow_other w.drew g k _ hkg]; rfl⟩
  have hov : ∀ lb cb, (callFunc 151 #[.slice (some ⟨vb, 0, none⟩) 1 1, .slice (some ⟨g, (i + 1) * 5, none⟩) lb cb]).run Tryz.prog w = .ok (.value (.bool false)) w := fun lb cb => by
    rw [run_callFunc_extern Tryz.func151 (by kernel_rfl) (by kernel_rfl) (by kernel_rfl) (e := Extern.SlicesOverlaps.overlaps #[27, 27] #[4]) (by kernel_rfl),
      Lib.run_overlaps_apart w 27 4 99 Tryz.underlying27 5 Tryz.sizeOf99 ⟨vb, 0, none⟩ ⟨g, (i + 1) * 5, none⟩ 1 1 lb cb hvb 99 99 ys.toArray.size cur.size (shape_bk hy) (shape_bk hg) (by omega) (hy.free 0) (hy.free _)]
    rfl
  have hc1 : (c : Int) ≤ 9223372036854775807 := by unfold maxLen at hc63; omega
  have hz1 : ¬ ((i : Int) = (n : Int)) := by omega
  have hw1 : IntKind.i64.wrap ((i : Int) + 1) = (i : Int) + 1 := by rw [IntKind.wrap_i64]; omega
  have hb1 : (0 : Int) ≤ (i : Int) + 1 := by omega
  have htn : ((i : Int) + 1).toNat = i + 1 := by omega
  have hb2 : ¬ (c = i + 1) := by omega
  have hb3 : (i : Int) ≤ (n : Int) + 1 := by omega
  have hb4 : ¬ (c = i) := by omega
  have hb5 : ¬ ((c : Int) < (n : Int) + 1) := by omega
  have HH := Lib.hid (And.intro hg (And.intro hy (And.intro hg1 hy1)))
  clear hW1 hW2 hR1 hg1 hy1 hg hy hcur hdl hl1 htk hcs hxl h1 h2 hyl hz0 hz2 hsz hbase hvb hc63
  go_enter Tryz.func95, Tryz.ntmps95
  go_wp2_with (simp only [hov])
  go_region_law (refine step_copy_run rfl _ _ 27 27 rfl _ _ (by simp [Act.eval, Act.put]) (by simp [Act.eval, Act.put]) (hcp1 _ _ _) ?_)
  go_wp2_with (refine wpList_copy_run _ rfl _ _ 27 27 rfl _ _ rfl rfl (hcp2 _ _) ?_)
  go_ret
  exact HF.out
set_option maxHeartbeats 4000000 in
set_option maxRecDepth 100000 in
theorem hd_insert_grow (base g c : Nat) (cur : Array Value) (n i : Nat) (xs ys : List Value) (vb : Nat) (w : World) (hxl : xs.length = n * 5) (hg : Bk w g 99 cur) (hcs : cur.size = c * 5) (htk : cur.toList.take (n * 5) = xs) (hi : i < n) (hnc : n ≤ c) (hroom : c < n + 1) (hn : n ≤ 1000000) (hy : Bk w vb 99 ys.toArray) (hyl : ys.length = 5) (h1 : ∀ u ∈ ys, u.oneCell' = true) (h2 : ∀ u ∈ xs, u.oneCell' = true) (hbase : base ≤ w.heap.size) :
    Calls Tryz.prog 95 #[.slice (some ⟨g, 0, none⟩) n c, .int .i64 i, .slice (some ⟨vb, 0, none⟩) 1 1] w (hdInsd base (.slice (some ⟨g, 0, none⟩) n c) n i xs ys w) := by
  obtain ⟨i0, hi0, hz0, hz1, hz2⟩ := info_parts infohd
  have hsz : (Tryz.prog.info? 99).map (·.size) = some 5 := by rw [hi0]; simp [hz1]
  have hcur : ∀ j u, xs[j]? = some u → w.cell? ⟨g, j, none⟩ = some u := fun j u hj => by
    rw [← htk, List.getElem?_take] at hj
    split at hj
    · rw [hg.cell]; simpa using hj
    · cases hj
  have hdl : (xs.drop (i * 5)).length = (n - i) * 5 := by rw [List.length_drop, hxl, Nat.sub_mul]
  have htl : (xs.take (i * 5)).length = i * 5 := by rw [List.length_take, hxl]; omega
  have hold : (Builtin.firstCells i0.size i (.slice (some ⟨g, 0, none⟩) i c)).run Tryz.prog w.drew = .ok (xs.take (i * 5)).toArray w.drew := by
    rw [hz1]
    refine run_firstCells_some w.drew 5 i ⟨g, 0, none⟩ i c (xs.take (i * 5)) htl (fun j v hj => ?_)
    rw [Addr.add_mid, Nat.zero_add]
    rw [List.getElem?_take] at hj
    split at hj
    · exact hcur j v hj
    · cases hj
  obtain ⟨GC, hGC⟩ : ∃ GC, GC = grownCap w (n + 1) c 99 := ⟨_, rfl⟩
  have hGn : n + 1 ≤ GC := by rw [hGC]; exact grownCap_ge w _ _ _
  have hGM : GC ≤ maxLen := by
    rw [hGC]; exact grownCap_le_maxLen w (n + 1) c 99 (by unfold maxLen; omega)
  obtain ⟨ROW, hROW⟩ : ∃ ROW : Array Value, ROW = (xs.take (i * 5)).toArray ++ Builtin.zeroCells (Value.agg #[.int .i64 0, .int .i64 0, .int .i64 0, .int .i64 0, .int .i64 0]).cells (n + 1 - i) ++ Builtin.zeroCells (Value.agg #[.int .i64 0, .int .i64 0, .int .i64 0, .int .i64 0, .int .i64 0]).cells (GC - (n + 1)) := ⟨_, rfl⟩
  have hrz : ∀ ty, (Builtin.append_ #[27, 3] ty #[.slice (some ⟨g, 0, none⟩) i c, .int .i64 ((n : Int) + 1 - (i : Int))]).run Tryz.prog w = .ok (.slice (some ⟨w.heap.size, 0, none⟩) (n + 1) GC) (w.drew.alloc (.cells ROW 99)) := fun ty => by
    have h := Lib.run_append_grow_zeros w 27 3 ty 99 i0 _ .i64 .i64 Tryz.underlying27 Tryz.underlying3 hi0 hz0 (some ⟨g, 0, none⟩) i c (xs.take (i * 5)) hold (n + 1 - i) (by omega) (by omega) (by omega) (by omega) (by rw [hz2]; omega) (by rw [hz2, show i + (n + 1 - i) = n + 1 by omega]; exact growslice_fits hroom (by omega))
    rw [show i + (n + 1 - i) = n + 1 by omega, ← hGC, ← hROW] at h
    rw [show (n : Int) + 1 - (i : Int) = ((n + 1 - i : Nat) : Int) by omega]
    exact h
  have hZ : ∀ m, (Builtin.zeroCells (Value.agg #[.int .i64 0, .int .i64 0, .int .i64 0, .int .i64 0, .int .i64 0]).cells m).size = m * 5 := fun m => by simp [Builtin.zeroCells, Value.cells]
  have hRs : ROW.size = GC * 5 := by
    rw [hROW, Array.size_append, Array.size_append, hZ, hZ, List.size_toArray, htl]; omega
  have hRt : ROW.toList.take (i * 5) = xs.take (i * 5) := by
    rw [hROW, Array.toList_append, Array.toList_append, List.append_assoc, List.take_append_of_le_length (by rw [htl]; exact Nat.le_refl _), List.take_of_length_le (by rw [htl]; exact Nat.le_refl _)]
  obtain ⟨N, hN⟩ : ∃ N, N = w.heap.size := ⟨_, rfl⟩
  have hgN : g ≠ N := by have := hg.lt; omega
  have hvN : vb ≠ N := by have := hy.lt; omega
  obtain ⟨W1, hW1⟩ : ∃ W1, W1 = w.drew.alloc (.cells ROW 99) := ⟨_, rfl⟩
  have hb1 : Bk W1 N 99 ROW := by rw [hW1, hN]; exact Bk.new w.drew _ _
  have hy1 : Bk W1 vb 99 ys.toArray := by rw [hW1]; exact Bk.alloc (w := w.drew) hy _
  have hg1 : Bk W1 g 99 cur := by rw [hW1]; exact Bk.alloc (w := w.drew) hg _
  obtain ⟨R2, hR2⟩ : ∃ R2 : List Value, R2 = ROW.toList.take (i * 5) ++ ys ++ ROW.toList.drop (i * 5 + ys.length) := ⟨_, rfl⟩
  have hl2 : R2.length = GC * 5 := by
    have h5 : ROW.toList.length = GC * 5 := by rw [Array.length_toList, hRs]
    rw [hR2, hRt, List.length_append, List.length_append, htl, List.length_drop, h5, hyl]; omega
  obtain ⟨W2, hW2⟩ : ∃ W2, W2 = W1.setRow N R2.toArray := ⟨_, rfl⟩
  have hcp1 : ∀ ty dc, (Builtin.copy_ #[27, 27] ty #[.slice (some ⟨N, i * 5, none⟩) (n + 1 - i) dc, .slice (some ⟨vb, 0, none⟩) 1 1]).run Tryz.prog W1 = .ok (goInt (Nat.min 1 (n + 1 - i))) W2 := fun ty dc => by
    rw [hW2, hR2]
    refine run_copy_k W1 _ _ ty 99 5 N _ _ dc _ _ 1 _ 99 ys Tryz.underlying27 hsz hb1 ?_ ?_ ?_ h1
    · rw [hyl, show Nat.min 1 (n + 1 - i) = 1 by simp only [Nat.min_def]; split <;> omega]
    · intro j u hj
      rw [Addr.add_mid, Nat.zero_add, hy1.cell]
      simpa using hj
    · rw [hyl, hRs]; omega
  have hb2 : Bk W2 N 99 R2.toArray := by rw [hW2]; exact setRow_heap W1 N _ _ _ (0, 0) hb1
  have hg2 : Bk W2 g 99 cur := by rw [hW2]; exact (setRow_other W1 N g _ hgN).trans hg1
  obtain ⟨R3, hR3⟩ : ∃ R3 : List Value, R3 = R2.take ((i + 1) * 5) ++ xs.drop (i * 5) ++ R2.drop ((i + 1) * 5 + (xs.drop (i * 5)).length) := ⟨_, rfl⟩
  obtain ⟨W3, hW3⟩ : ∃ W3, W3 = W2.drew.setRow N R3.toArray := ⟨_, rfl⟩
  have hcp2 : ∀ ty dc sc, (Builtin.copy_ #[27, 27] ty #[.slice (some ⟨N, (i + 1) * 5, none⟩) (n - i) dc, .slice (some ⟨g, i * 5, none⟩) (n - i) sc]).run Tryz.prog W2.drew = .ok (goInt (Nat.min (n - i) (n - i))) W3 := fun ty dc sc => by
    rw [hW3, hR3]
    refine run_copy_k W2.drew _ _ ty 99 5 N _ _ dc _ _ sc R2.toArray 99 (xs.drop (i * 5)) Tryz.underlying27 hsz hb2 ?_ ?_ ?_ (fun u hu => h2 u (List.mem_of_mem_drop hu))
    · rw [hdl, show Nat.min (n - i) (n - i) = n - i from Nat.min_self _]
    · intro j u hj
      rw [Addr.add_mid]
      rw [List.getElem?_drop] at hj
      have := hcur _ u hj
      rw [hg.cell] at this
      exact (Bk.cell (w := W2) hg2 _).trans this
    · rw [hdl, List.size_toArray, hl2]; omega
  have HF : Hid (hdInsd base (.slice (some ⟨g, 0, none⟩) n c) n i xs ys w (.returned (.slice (some ⟨N, 0, none⟩) (n + 1) GC)) W3) := by
    have e1 : (i + 1) * 5 = i * 5 + 5 := by omega
    have e5 : R2.take ((i + 1) * 5) = xs.take (i * 5) ++ ys := by
      rw [hR2, hRt, List.take_left' (by rw [List.length_append, htl, hyl]; exact e1.symm)]
    refine ⟨_, rfl, ⟨?_, .inr ⟨N, GC, _, rfl, by rw [hN]; exact hbase, by rw [hW3]; exact setRow_heap W2.drew N _ _ _ (0, 0) hb2, hGn, hGM, ?_, ?_⟩⟩, .inr (by rw [hN]; rfl), ?_⟩
    · rw [List.length_append, List.length_append, hdl, hyl, htl]; omega
    · rw [List.size_toArray, hR3, e5, List.length_append, List.length_append, List.length_append, hdl, List.length_drop, hl2, hyl, htl]; omega
    · show List.take _ _ = _
      rw [hR3, e5, List.take_left' (by rw [List.length_append, List.length_append, hdl, hyl, htl]; omega)]
    · exact ⟨by rw [hW3, hW2, hW1]; rfl, by rw [hW3, hW2, hW1]; rfl, by rw [hW3, hW2, hW1]; rfl, by rw [hW3, hW2, hW1]; simp, fun k hk hne => by
        have hkN : k ≠ N := by omega
        rw [hW3, setRow_other W2.drew N k _ hkN]
        show W2.heap[k]? = _
        rw [hW2, setRow_other W1 N k _ hkN, hW1]
        exact Below.heap_alloc w.drew _ k hk⟩
  have hW1' : w.drew.alloc (.cells ROW 99) = W1 := hW1.symm
  rw [hW1', ← hN] at hrz
  have hc1 : (c : Int) ≤ 9223372036854775807 := by omega
  have hGG : (GC : Int) ≤ 9223372036854775807 := by unfold maxLen at hGM; omega
  have hz1' : ¬ ((i : Int) = (n : Int)) := by omega
  have hw1 : IntKind.i64.wrap ((i : Int) + 1) = (i : Int) + 1 := by rw [IntKind.wrap_i64]; omega
  have hq1 : (0 : Int) ≤ (i : Int) + 1 := by omega
  have htn : ((i : Int) + 1).toNat = i + 1 := by omega
  have hq2 : ¬ (GC = i + 1) := by omega
  have hq3 : ¬ (GC = i) := by omega
  have hin : i ≤ n := by omega
  have hq5 : (i : Int) ≤ (n : Int) := by omega
  have hq4 : ¬ (c = i) := by omega
  have hq6 : ((c : Int) < (n : Int) + 1) := by omega
  have HH := Lib.hid (And.intro hg (And.intro hy (And.intro hg1 hy1)))
  clear hW1 hW2 hW3 hR2 hR3 hROW hGC hN hg1 hy1 hg hy hcur hdl htl htk hcs hxl h1 h2 hyl hz0 hz1 hz2 hsz hbase hGM hGn hRs hRt hZ hl2 hb1 hb2 hg2 hW1' hold hgN hvN
  go_enter Tryz.func95, Tryz.ntmps95
  go_wp2_with (first
    | (at_builtin; refine Lib.wpList_append_run _ rfl _ _ _ _ rfl _ _ rfl rfl _ _ (hrz _) ?_)
    | (refine wpList_copy_run _ rfl _ _ 27 27 rfl _ _ rfl rfl (hcp1 _ _) ?_))
  go_region_law (refine step_copy_run rfl _ _ 27 27 rfl _ _ (by simp [Act.eval, Act.put]) (by simp [Act.eval, Act.put]) (hcp2 _ _ _) ?_)
  go_wp2
  go_ret
  exact HF.out
theorem hd_insert (base : Nat) (v : Value) (n i : Nat) (xs ys : List Value) (vb : Nat) (w : World) (hrow : w.ownsRow base 99 5 v n xs) (hi : i ≤ n) (hn : n ≤ 1000000) (hy : Bk w vb 99 ys.toArray) (hyl : ys.length = 5) (h1 : ∀ u ∈ ys, u.oneCell' = true) (h2 : ∀ u ∈ xs, u.oneCell' = true) (hbase : base ≤ w.heap.size) (hvb : v.ownBlock ≠ some vb) :
    Calls Tryz.prog 95 #[v, .int .i64 i, .slice (some ⟨vb, 0, none⟩) 1 1] w (hdInsd base v n i xs ys w) := by
  by_cases he : i = n
  · subst he
    exact hd_insert_end base v i xs ys vb w hrow hn hy hyl h1 hbase
  · obtain ⟨hxl, h⟩ := hrow
    rcases h with ⟨rfl, rfl⟩ | ⟨g, c, cur, rfl, hbg, hg, hnc, hcm, hcs, htk⟩
    · omega
    · by_cases hroom : n + 1 ≤ c
      · exact hd_insert_shift base g c cur n i xs ys vb w hxl hg hcs htk (by omega) hroom hcm hy hyl h1 h2 hbg (fun e => hvb (by rw [e]; rfl))
      · exact hd_insert_grow base g c cur n i xs ys vb w hxl hg hcs htk (by omega) hnc (by omega) hn hy hyl h1 h2 hbase
end Go.Proofs.YtebkgbmijocdjaaGreat.Tp
