/- route.Bookings of the program, walked. Condition: the hops lie in memory; fewer than 20.
What route.Admit's two loops come to, in plain words. -/
import Derived.Test.YtebkgbmijocdjaaGreatTpSrtK
import Derived.Test.YtebkgbmijocdjaaGreatTpAdm
import Derived.Test.YtebkgbmijocdjaaGreatTpBkAdd
import Derived.Test.YtebkgbmijocdjaaGreatTpSAdd
import Derived.Test.YtebkgbmijocdjaaGreatTpChk
namespace Go.Proofs.YtebkgbmijocdjaaGreat.Tp
open Go Go.RowKit Go.Lib Go.Proofs

theorem swo_bk : Sort.SWO (ltOf bkC) := swo_lx 2 (fun x => [x.ct, x.beg]) (fun _ => rfl) bkC (fun _ _ => rfl)
theorem stableC_small [Inhabited Bkg] (blk cap : Nat) (d : Array Bkg) (w : World) (hH : Sort.HoldsK bkE.f bkE.k w blk 0 d) (hb : blk < w.heap.size) (h20 : d.size < 20) :
    Calls Tryz.prog 147 #[.slice (some ⟨blk, 0, none⟩) d.size cap, .int .i64 d.size, .func (.func 86) #[] #[]] w fun e w' => e = .returned (.tuple #[]) ∧ ∃ (d' : Array Bkg) (n : Nat) (os : Array Obj), Sort.PermIn 0 d.size d d' ∧ w' = sortWorldK bkE.f bkE.k w blk 0 n d' os := by
  have hcon := AnyQ.insertionSortCmpFunc Tryz.insBk bkE.k Tryz.isAgg95 Tryz.sizeOf95 bkE.f bkE.len bkE.one bkC 86 #[] blk 0 cap 0 d.size d w (enters_of Tryz.func86 (by kernel_rfl) rfl) (fun m os dk _ x y => by
    refine (bkCmpR_d x y _).mono ?_
    rintro e w' ⟨rfl, h⟩
    exact ⟨rfl, h.grows⟩) hH hb (Nat.zero_le _) (Nat.le_refl _) (by omega)
  change Calls Tryz.prog 190 _ _ _ at hcon
  have hp := (Sort.insertionSort_holds (lt := ltOf bkC) swo_bk d 0 d.size (Nat.zero_le _) (Nat.le_refl _)).1
  have HC := Lib.hid hcon
  generalize Sort.insertionSort (ltOf bkC) d 0 d.size = d' at HC hp
  have HP := Lib.hid hp
  have h1 : ¬ (20 : Int) ≤ (d.size : Int) := by omega
  have h2 : ¬ (20 : Int) < (d.size : Int) := by omega
  have h3 : (d.size : Int) < 20 := by omega
  clear hcon hp hH
  go_enter Tryz.func147, Tryz.ntmps147
  go_wp2_with fail
  go_loop [7, 8] (fun a b => a = .int .i64 0 ∧ b = .int .i64 20) (fun _ _ => 0)
  case atStart => exact ⟨rfl, rfl⟩
  case round =>
    obtain ⟨rfl, rfl⟩ := hrel
    go_wp2_with (go_at_call 190; refine HC.out.mono ?_; rintro e w' ⟨rfl, n, os, rfl⟩)
    go_loop [6] (fun a => a = .int .i64 20) (fun _ => 0)
    case atStart => rfl
    case round =>
      obtain rfl := hrel
      go_wp2
      go_end0
      exact ⟨rfl, d', HP.out, n, os, rfl⟩
theorem stable_small [Inhabited Bkg] (blk cap : Nat) (d : Array Bkg) (w : World) (hH : Sort.HoldsK bkE.f bkE.k w blk 0 d) (hb : blk < w.heap.size) (h20 : d.size < 20) :
    Calls Tryz.prog 85 #[.slice (some ⟨blk, 0, none⟩) d.size cap, .func (.func 86) #[] #[]] w fun e w' => e = .returned (.tuple #[]) ∧ ∃ (d' : Array Bkg) (n : Nat) (os : Array Obj), Sort.PermIn 0 d.size d d' ∧ w' = sortWorldK bkE.f bkE.k w blk 0 n d' os := by
  have HC := Lib.hid (stableC_small blk cap d w hH hb h20)
  clear hH hb h20
  go_enter Tryz.func85, Tryz.ntmps85
  go_wp2_with fail
  refine HC.out.mono ?_
  rintro e w' ⟨rfl, d', n, os, hp, rfl⟩
  have HP := Lib.hid hp
  clear hp
  go_wp2
  go_end0
  exact ⟨rfl, d', n, os, HP.out, rfl⟩
theorem sortBks_any (base : Nat) (v : Value) (l : List Bkg) (w : World) (hR : w.ownsRow base 95 bkE.k v l.length (l.flatMap bkE.f)) (hne : l ≠ []) (hn : l.length < 20) :
    Calls Tryz.prog 85 #[v, .func (.func 86) #[] #[]] w (SortKPost bkE 95 base v l w) := by
  letI : Inhabited Bkg := ⟨⟨0, 0, 0, 0⟩⟩
  exact sortK_any bkE (by decide) _ _ _ base v l w hR hne fun blk cap hH hb => stable_small blk cap l.toArray w hH hb (by simp; omega)
set_option maxHeartbeats 4000000 in
set_option maxRecDepth 100000 in
theorem bookings_any (A : Option Addr) (cA : Nat) (l : List Hop) (tk : Int) (w : World) (hl : SlAt hpE w A l) (h0 : l ≠ []) (h20 : l.length < 20) :
    Calls Tryz.prog 36 #[.slice A l.length cA, .int .i64 tk] w fun e w' => ∃ L, L.Perm (bksL l tk) ∧ RetSl bkE L w e w' := by
  have HL := Lib.hid hl
  have hl0 : 0 < l.length := List.length_pos_iff.2 h0
  obtain ⟨i0, hi0, hz0, hz1, hz2⟩ := info_parts infobk
  have HI := Lib.hid (And.intro hi0 (And.intro hz0 (And.intro hz1 hz2)))
  clear hl h0 hi0 hz0 hz1 hz2
  go_enter Tryz.func36, Tryz.ntmps36
  go_wp2
  go_loopw [5, 7, 10] (fun v _ i wr => ∃ k : Nat, k ≤ l.length ∧ i = .int .i64 k ∧ Below w.heap.size w wr ∧ wr.ownsRow w.heap.size 95 4 v (bksL (l.take k) tk).length ((bksL (l.take k) tk).flatMap bkE.f)) (fun _ _ i _ => l.length - (intOf i).toNat)
  case atStart => exact ⟨0, Nat.zero_le _, rfl, Below.refl _ _, World.ownsRow_nil _ _ _ _⟩
  case round =>
    obtain ⟨k, hk, rfl, hb, hown⟩ := hrel
    have HB := Lib.hid hb
    have HO := Lib.hid hown
    by_cases hlt : k < l.length
    · obtain ⟨b, off, rfl, hr⟩ := (HL.out.below HB.out).one (by omega)
      obtain ⟨h, hh⟩ : ∃ h, l[k]? = some h := ⟨_, List.getElem?_eq_getElem hlt⟩
      have hrg : wr.rangeAt b (off + k * 4) (hpE.f h) := hr k h hh
      have c0 : wr.cell? ⟨b, off + k * 4, none⟩ = some (.int .i64 h.ct) := hrg 0 _ rfl
      have c1 : wr.cell? ⟨b, off + k * 4 + 1, none⟩ = some (.int .i64 h.beg) := hrg 1 _ rfl
      have c2 : wr.cell? ⟨b, off + k * 4 + 2, none⟩ = some (.int .i64 h.fin) := hrg 2 _ rfl
      have c3 : wr.cell? ⟨b, off + k * 4 + 3, none⟩ = some (.int .i64 h.arr) := hrg 3 _ rfl
      have HTS : Hid (bksL (l.take (k + 1)) tk = bksL (l.take k) tk ++ [⟨h.ct, h.beg, h.fin, tk⟩]) := by
        show _ = _
        rw [take_snoc hh]
        simp [bksL]
      have hpl : (bksL (l.take k) tk).length ≤ 20 := by simp [bksL]; omega
      have HBN : Hid (Below w.heap.size w (wr.alloc (.cells #[.int .i64 h.ct, .int .i64 h.beg, .int .i64 h.fin, .int .i64 h.arr] 41))) := HB.out.alloc HB.out.size _
      have HON : Hid ((wr.alloc (.cells #[.int .i64 h.ct, .int .i64 h.beg, .int .i64 h.fin, .int .i64 h.arr] 41)).ownsRow w.heap.size 95 4 u5 (bksL (l.take k) tk).length ((bksL (l.take k) tk).flatMap bkE.f)) := HO.out.alloc _
      generalize bksL (l.take k) tk = M at HO HON HTS hpl
      clear hh hr hrg hb hown HO HB
      obtain ⟨hi0, hz0, hz1, hz2⟩ := HI.out
      go_wp2_with (at_builtin; refine wpList_append_own_at _ rfl _ _ 26 rfl w.heap.size 95 i0 (.agg #[.int .i64 0, .int .i64 0, .int .i64 0, .int .i64 0]) 4 32 Tryz.underlying26 hi0 hz0 hz1 hz2 rfl (by decide) _ _ _ rfl (HON.out.alloc _) ⟨wr.heap.size + 1, 0, none⟩ 1 1 [.int .i64 h.ct, .int .i64 h.beg, .int .i64 h.fin, .int .i64 tk] rfl rfl ?d1 ?d2 ?d3 ?d4 ?d5 ?_)
      case d1 => exact fun j u hu => by rw [Addr.add_mid, Nat.zero_add]; exact new_at _ [.int .i64 h.ct, .int .i64 h.beg, .int .i64 h.fin, .int .i64 tk] _ (by simp) j u hu
      case d2 => exact fun u hu => bkE.one ⟨h.ct, h.beg, h.fin, tk⟩ u hu
      case d3 => unfold maxLen; omega
      case d4 => omega
      case d5 => have := HBN.out.size; simp at this ⊢; omega
      intro v' w4 hown' hg' _ _
      have HB4 : Hid (Below w.heap.size w w4) := (HBN.out.alloc HBN.out.size _).grown hg' (by have := HBN.out.size; simp at this ⊢; omega) (fun j hj => (HON.out.lt j hj).1)
      have HO4 : Hid (w4.ownsRow w.heap.size 95 4 v' (bksL (l.take (k + 1)) tk).length ((bksL (l.take (k + 1)) tk).flatMap bkE.f)) := by
        show w4.ownsRow _ _ _ _ _ _
        rw [HTS.out, List.length_append, List.flatMap_append, show [(⟨h.ct, h.beg, h.fin, tk⟩ : Bkg)].flatMap bkE.f = [.int .i64 h.ct, .int .i64 h.beg, .int .i64 h.fin, .int .i64 tk] from rfl]
        exact hown'
      clear hown' hg' hi0 hz0 hz1 hz2
      go_wp2
      go_roundw
      case rel => exact ⟨k + 1, by omega, by go_num, HB4.out, HO4.out⟩
      case measure => simp [intOf]; omega
    · have HO2 : Hid (wr.ownsRow w.heap.size 95 bkE.k u5 (bksL l tk).length ((bksL l tk).flatMap bkE.f)) := by
        have h := HO.out
        rwa [List.take_of_length_le (by omega)] at h
      have hbn : (bksL l tk).length = l.length := by simp [bksL]
      have HSO := Lib.hid (sortBks_any w.heap.size u5 (bksL l tk) wr HO2.out (fun e => by rw [e] at hbn; simp at hbn; omega) (by omega))
      clear hb hown hbn
      go_wp2_with fail
      refine HSO.out.mono ?_
      rintro e w2 ⟨rfl, L', hp, hr2, hg2⟩
      have hb2 : Below w.heap.size w w2 := HB.out.grown hg2 HB.out.size (fun j hj => (HO2.out.lt j hj).1)
      obtain ⟨A1, c1, rfl, hs1, hc1, hbk⟩ := sl_of_row2 (E := bkE) hr2
      have HF : Hid (RetSl bkE L' w (.returned (.slice A1 L'.length c1)) w2) := ⟨A1, c1, rfl, hs1, hc1, hbk, hb2⟩
      have HPM := Lib.hid hp
      clear hp hr2 hg2 hb2 hs1 hc1 hbk HSO HO2 HO HB
      go_wp2
      go_ret
      exact ⟨L', HPM.out, HF.out⟩
end Go.Proofs.YtebkgbmijocdjaaGreat.Tp
namespace Go.Proofs.YtebkgbmijocdjaaGreat.Tp
open Go Go.RowKit

/-- a route that is admitted, with the validity of its holds -/
def AdmitD (t : Tbl) (q : Rq) (l : List Hop) : Prop := AdmitOK t q l ∧ ∀ x ∈ holdsL t.p q l 0, HldOK t.p x
theorem way_bks {p : Pln} {q : Rq} (hq : RqOK p q) : ∀ {l : List Hop} {n a : Int}, wayChk p q n a l → ∀ h ∈ l, BkgOK p ⟨h.ct, h.beg, h.fin, 0⟩
  | [], _, _, _, h, hm => by simp at hm
  | x :: l, n, a, ⟨c, hc, _, _, _, h1, h2, h3, hw⟩, h, hm => by
    rcases List.mem_cons.1 hm with rfl | e
    · have hct := (hq.1.2.2.1 c (List.mem_of_getElem? hc.2)).1
      have hd := dur_bd hct hq.2.2.2.2.1.1
      have e1 : h.fin = h.beg + dur c q.size := by rw [h3]
      exact ⟨⟨by simp, by simp⟩, hc.1, c, hc.2, h1, by show h.beg < h.fin; omega, by show h.fin ≤ c.fin; omega⟩
    · exact way_bks hq hw h e
theorem apartB_symm {a b : Bkg} (h : apartB a b) : apartB b a := h.symm
theorem adm_bk {t : Tbl} {q : Rq} {l : List Hop} {Lb lk : List Bkg} {k : Nat} {x : Bkg} (hA : AdmitOK t q l) (hL : Lb.Perm (bksL l 0)) (hk : lk.Perm (Lb.take k ++ t.b)) (hx : Lb[k]? = some x) : AddOK t.p lk x := by
  obtain ⟨hT, hR, ⟨hn, _⟩, hP, _⟩ := hA
  have hkl : k < Lb.length := (List.getElem?_eq_some_iff.1 hx).1
  have hLl : Lb.length = l.length := by rw [hL.length_eq]; simp [bksL]
  refine ⟨?_, ?_, ?_⟩
  · have hm : x ∈ bksL l 0 := hL.subset (List.mem_of_getElem? hx)
    obtain ⟨h, hh, rfl⟩ := List.mem_map.1 hm
    exact way_bks hR.1 hR.2.2.2.1 h hh
  · rw [hk.length_eq, List.length_append, List.length_take]
    omega
  · rintro ⟨y, hy, h1, h2⟩
    obtain ⟨b, hb, hbc, rfl⟩ := mem_busyL.1 hy
    have hb2 := hk.subset hb
    have hP2 : (Lb ++ t.b).Pairwise apartB := ((hL.append_right t.b).pairwise_iff (fun h => apartB_symm h)).2 hP
    have hsp : Lb = Lb.take k ++ x :: Lb.drop (k + 1) := by
      obtain ⟨h3, h4⟩ := List.getElem?_eq_some_iff.1 hx
      rw [← h4, ← List.drop_eq_getElem_cons h3, List.take_append_drop]
    have hap : apartB x b := by
      rw [hsp, List.append_assoc, List.cons_append] at hP2
      rcases List.mem_append.1 hb2 with h | h
      · exact apartB_symm ((List.pairwise_append.1 hP2).2.2 b h x (by simp))
      · exact (List.pairwise_cons.1 (List.pairwise_append.1 hP2).2.1).1 b (by simp [h])
    simp only at h1 h2
    rcases hap with h | h <;> (unfold bkLt at h; omega)
theorem adm_step {α : Type} {Lb lk l' tb : List α} {k : Nat} {x : α} (hk : lk.Perm (Lb.take k ++ tb)) (hx : Lb[k]? = some x) (hl : l'.Perm (x :: lk)) : l'.Perm (Lb.take (k + 1) ++ tb) := by
  rw [take_snoc hx, List.append_assoc]
  refine hl.trans ((hk.cons x).trans ?_)
  rw [List.singleton_append]
  exact List.perm_middle.symm
theorem adm_hd {t : Tbl} {q : Rq} {l : List Hop} {Lh hk : List Hld} {k : Nat} {x : Hld} (hA : AdmitD t q l) (hL : Lh.Perm (holdsL t.p q l 0)) (hll : (holdsL t.p q l 0).length = l.length) (hp : hk.Perm (Lh.take k ++ t.h)) (hx : Lh[k]? = some x) : AddHOK t.p hk x := by
  obtain ⟨⟨hT, hR, ⟨_, hn⟩, _, hU⟩, hV⟩ := hA
  have hkl : k < Lh.length := (List.getElem?_eq_some_iff.1 hx).1
  have hLl : Lh.length = l.length := by rw [hL.length_eq, hll]
  have hm : x ∈ holdsL t.p q l 0 := hL.subset (List.mem_of_getElem? hx)
  have hxo := hV x hm
  refine ⟨hxo, ?_, fun qn hqn tm => ?_⟩
  · rw [hp.length_eq, List.length_append, List.length_take]
    omega
  · have h1 := hU x.node.toNat qn hqn tm
    have h0 : ((x.node.toNat : Nat) : Int) = x.node := Int.toNat_of_nonneg hxo.1
    rw [h0] at h1
    have hs := adm_step (tb := t.h) hp hx (List.Perm.refl (x :: hk))
    rw [used_perm hs, used_app]
    have h2 : used (holdsL t.p q l 0 ++ t.h) x.node tm = used (Lh ++ t.h) x.node tm := used_perm ((hL.append_right t.h).symm) _ _
    rw [h2, used_app] at h1
    have h3 : used Lh x.node tm = used (Lh.take (k + 1)) x.node tm + used (Lh.drop (k + 1)) x.node tm := by rw [← used_app, List.take_append_drop]
    have h4 : 0 ≤ used (Lh.drop (k + 1)) x.node tm := used_nonneg fun h hh => by
      have := hV h (hL.subset (List.mem_of_mem_drop hh))
      unfold HldOK at this
      omega
    omega
theorem adm_end {t : Tbl} {q : Rq} {l : List Hop} {Lb lk : List Bkg} {Lh hk : List Hld} (hT : TblOK t) (hR : RouteOK t.p q l) (hn : t.b.length + l.length ≤ 512 ∧ t.h.length + l.length ≤ 512) (hLb : Lb.Perm (bksL l 0)) (hLh : Lh.Perm (holdsL t.p q l 0)) (h1 : lk.Perm (Lb ++ t.b)) (h2 : BksOK t.p lk) (h3 : hk.Perm (Lh ++ t.h)) (h4 : HdsOK t.p hk) : AdmitD t q l := by
  refine ⟨⟨hT, hR, hn, ?_, fun n qn hq tm => ?_⟩, fun x hx => ?_⟩
  · have h5 : lk.Pairwise apartB := h2.2.2.imp (fun h => .inl h)
    exact ((h1.trans (hLb.append_right t.b)).pairwise_iff (fun h => apartB_symm h)).1 h5
  · have := h4.2.2.2 n qn hq tm
    rwa [used_perm (h3.trans (hLh.append_right t.h))] at this
  · exact h4.2.1 x (h3.symm.subset (List.mem_append_left _ (hLh.symm.subset hx)))
end Go.Proofs.YtebkgbmijocdjaaGreat.Tp
