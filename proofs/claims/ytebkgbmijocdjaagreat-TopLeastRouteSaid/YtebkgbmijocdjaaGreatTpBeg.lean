/- mailboattop.top30Begins, walked: it returns some integers. Conditions: the tables lie in memory, the contact is one of the plan. -/
import Derived.BigQuiet
import Derived.Test.YtebkgbmijocdjaaGreatTpSrt
import Derived.Test.YtebkgbmijocdjaaGreatTpDel
import Derived.Test.YtebkgbmijocdjaaGreatTpBld
import Derived.Lib.RowBridge
namespace Go.Proofs.YtebkgbmijocdjaaGreat.Tp
open Go Go.RowKit

theorem compactInts_any (base : Nat) (v : Value) (ts : List Int) (w : World) (hR : w.ownsRow base 3 1 v ts.length (ts.flatMap intE.f)) (hn : ts.length ≤ 1000000) :
    Calls Tryz.prog 100 #[v] w fun e w' => ∃ (L : List Int) (v' : Value), e = .returned v' ∧ L.length ≤ ts.length ∧ w'.ownsRow base 3 1 v' L.length (L.flatMap intE.f) ∧ w.grownBy w' v.ownBlock := by
  have hR0 := hR
  obtain ⟨hxl, h⟩ := hR
  rcases h with ⟨rfl, h0⟩ | ⟨g, cap, cur, rfl, hbg, hg, hnc, hcm, hcs, htk⟩
  · refine (Tryz.slices_Compact_int_empty none 0 w).mono ?_
    rintro e w' ⟨rfl, rfl⟩
    exact ⟨[], _, rfl, Nat.zero_le _, World.ownsRow_nil _ _ _ _, (grown_below (Below.refl _ _) none).but _⟩
  · have hcell : ∀ j (hj : j < ts.length), cur[j]? = some (.int .i64 ts[j]) := fun j hj => by
      have h1 : (cur.toList.take (ts.length * 1))[j]? = (ts.flatMap intE.f)[j]? := by rw [htk]
      rw [int_flat, List.getElem?_map, List.getElem?_eq_getElem hj, List.getElem?_take, if_pos (by omega)] at h1
      simpa using h1
    have hH : Sort.Holds (Value.int .i64) w g 0 ts.toArray := fun j hj => by
      have hj' : j < ts.length := by simpa using hj
      have hb : Bk w g 3 cur := hg
      rw [Nat.zero_add]
      refine ⟨?_, hb.free _⟩
      rw [hb.cell, hcell j hj']
      simp [hj']
    refine (Tryz.slices_Compact_int g 0 cap ts w hH (by omega) (by omega)).mono ?_
    rintro e w' ⟨rfl, q, rfl⟩
    have hle := Lib.compact_length_le ts
    generalize Lib.compact ts = L at hle ⊢
    have hgl : g < w.heap.size := (Array.getElem?_eq_some_iff.1 hg).1
    have h1 : (Sort.putRow (Value.int .i64) (Sort.ahead w q) g 0 (L ++ List.replicate (ts.length - L.length) 0).toArray).heap[g]? = some (.cells (Sort.putCells (Value.int .i64) 0 (L ++ List.replicate (ts.length - L.length) 0).toArray cur) 3 (0, 0)) := by
      simp [Sort.putRow, Sort.mapBlock, Sort.ahead, Array.getElem?_modify, hg, Sort.onCells]
    have h2 : ∀ k, k < w.heap.size → k ≠ g → (Sort.putRow (Value.int .i64) (Sort.ahead w q) g 0 (L ++ List.replicate (ts.length - L.length) 0).toArray).heap[k]? = w.heap[k]? := fun k hk hne => by
      simp [Sort.putRow, Sort.mapBlock, Sort.ahead, Array.getElem?_modify]
      exact fun e => absurd e.symm hne
    refine ⟨L, _, rfl, hle, ⟨by rw [flat_len]; rfl, .inr ⟨g, cap, _, rfl, hbg, h1, by omega, hcm, by simp [Sort.putCells, hcs], ?_⟩⟩, ⟨rfl, rfl, rfl, ?_, fun k hk hne => h2 k hk (fun e => hne (by rw [e]; rfl))⟩⟩
    · rw [int_flat]
      apply List.ext_getElem?
      intro j
      rw [List.getElem?_take, List.getElem?_map]
      by_cases hj : j < L.length
      · have hjc : j < cur.size := (Array.getElem?_eq_some_iff.1 (hcell j (by omega))).1
        rw [if_pos (by omega), Array.getElem?_toList]
        simp [Sort.putCells, hjc, hj]
        rw [if_pos (by omega), List.getElem?_append_left hj, List.getElem?_eq_getElem hj]
        rfl
      · rw [if_neg (by omega), List.getElem?_eq_none (by omega)]
        rfl
    · show _ ≤ (Sort.putRow (Value.int .i64) (Sort.ahead w q) g 0 _).heap.size
      simp [Sort.putRow, Sort.mapBlock, Sort.ahead]
/-- some integers are returned -/
def RetInts (w : World) (e : Ending) (w' : World) : Prop := ∃ L : List Int, L.length ≤ 3000 ∧ RetSl intE L w e w'
set_option maxHeartbeats 8000000 in
set_option maxRecDepth 100000 in
theorem begins_any (Aq : Option Addr) (cq : Nat) (Ac : Option Addr) (cc : Nat) (B : Option Addr) (cb : Nat) (H : Option Addr) (ch : Nat) (t : Tbl) (ct : Nat) (c : Ct) (at_ : Int) (w : World) (ht : TblAt w Aq cq Ac cc B cb H ch t) (hok : TblOK t) (hc : t.p.c[ct]? = some c) :
    Calls Tryz.prog 40 #[.agg #[.slice Aq t.p.q.length cq, .slice Ac t.p.c.length cc, .slice B t.b.length cb, .slice H t.h.length ch], .int .i64 ct, .int .i64 at_] w (RetInts w) := by
  have HT := Lib.hid ht
  have HB0 : Hid (Below w.heap.size w (w.alloc (.cells (tbA Aq cq Ac cc B cb H ch t) 29))) := (Below.refl _ _).alloc (Nat.le_refl _) _
  have HK0 : Hid (Bk (w.alloc (.cells (tbA Aq cq Ac cc B cb H ch t) 29)) w.heap.size 29 (tbA Aq cq Ac cc B cb H ch t)) := Bk.new _ _ _
  have hcl : ct < t.p.c.length := (List.getElem?_eq_some_iff.1 hc).1
  have hb512 := hok.2.1.1
  have hh512 := hok.2.2.1
  have hi0 : (0 : Int) ≤ (ct : Int) := by omega
  have hi1 : (ct : Int) < (t.p.c.length : Int) := by omega
  obtain ⟨bc, oc, rfl, hr⟩ := (ht.below HB0.out).p.c.one (by omega)
  have hrg := hr ct c hc
  have c2 : (w.alloc (.cells (tbA Aq cq (some ⟨bc, oc, none⟩) cc B cb H ch t) 29)).cell? ⟨bc, oc + ct * 7 + 2, none⟩ = some (.int .i64 c.beg) := hrg 2 _ rfl
  have a1 : (w.alloc (.cells (tbA Aq cq (some ⟨bc, oc, none⟩) cc B cb H ch t) 29)).cell? ⟨w.heap.size, 1, none⟩ = some (.slice (some ⟨bc, oc, none⟩) t.p.c.length cc) := HK0.out.cell 1
  have hcm := ht.p.cm
  unfold maxLen at hcm
  clear ht hok hc hr hrg
  go_enter Tryz.func40, Tryz.ntmps40
  obtain ⟨i2, hi2, hw1, hw2, hw3⟩ := info_parts infoin
  have HI := Lib.hid (And.intro hi2 (And.intro hw1 (And.intro hw2 hw3)))
  clear hi2 hw1 hw2 hw3
  have HBE : Hid ((w.alloc (.cells (tbA Aq cq (some ⟨bc, oc, none⟩) cc B cb H ch t) 29)).heap.size = w.heap.size + 1) := by show _ = _; simp
  have KEY : Hid (∀ first : Int, ∃ v, v = first) := fun f => ⟨f, rfl⟩
  clear KEY
  have HST : Hid (∀ (W : World) (first : Int), Below w.heap.size w W → Bk W w.heap.size 29 (tbA Aq cq (some ⟨bc, oc, none⟩) cc B cb H ch t) → True) := fun _ _ _ _ => trivial
  clear HST
  have HB2 : Hid (Below (w.alloc (.cells (tbA Aq cq (some ⟨bc, oc, none⟩) cc B cb H ch t) 29)).heap.size (w.alloc (.cells (tbA Aq cq (some ⟨bc, oc, none⟩) cc B cb H ch t) 29)) ((w.alloc (.cells (tbA Aq cq (some ⟨bc, oc, none⟩) cc B cb H ch t) 29)).alloc (.cells #[.int .i64 (max at_ c.beg)] 3))) := (Below.refl _ _).alloc (Nat.le_refl _) _
  have HK2 := Lib.hid (HK0.out.below HB2.out HK0.out.lt)
  have HB3 : Hid (Below w.heap.size w ((w.alloc (.cells (tbA Aq cq (some ⟨bc, oc, none⟩) cc B cb H ch t) 29)).alloc (.cells #[.int .i64 (max at_ c.beg)] 3))) := below_next HB0.out HB2.out
  have HR2 : Hid (((w.alloc (.cells (tbA Aq cq (some ⟨bc, oc, none⟩) cc B cb H ch t) 29)).alloc (.cells #[.int .i64 (max at_ c.beg)] 3)).ownsRow (w.heap.size + 1) 3 1 (.slice (some ⟨w.heap.size + 1, 0, none⟩) 1 1) [max at_ c.beg].length ([max at_ c.beg].flatMap intE.f)) := by
    refine ⟨rfl, .inr ⟨w.heap.size + 1, 1, #[.int .i64 (max at_ c.beg)], rfl, Nat.le_refl _, ?_, Nat.le_refl _, by unfold maxLen; decide, rfl, rfl⟩⟩
    have h := Bk.new (w.alloc (.cells (tbA Aq cq (some ⟨bc, oc, none⟩) cc B cb H ch t) 29)) 3 #[.int .i64 (max at_ c.beg)]
    rwa [World.size_alloc] at h
  have a2 : ((w.alloc (.cells (tbA Aq cq (some ⟨bc, oc, none⟩) cc B cb H ch t) 29)).alloc (.cells #[.int .i64 (max at_ c.beg)] 3)).cell? ⟨w.heap.size, 2, none⟩ = some (.slice B t.b.length cb) := HK2.out.cell 2
  go_wp2_with fail
  clear c2 a1 a2 HB0 HK0 HB2 HBE
  generalize ((w.alloc (.cells (tbA Aq cq (some ⟨bc, oc, none⟩) cc B cb H ch t) 29)).alloc (.cells #[.int .i64 (max at_ c.beg)] 3)) = W at HK2 HB3 HR2 ⊢
  generalize hn0 : w.heap.size = n0 at HK2 HB3 HR2 ⊢
  go_loopw [8, 10, 27] (fun o _ i wr => ∃ (k : Nat) (out : List Int), k ≤ t.b.length ∧ i = .int .i64 k ∧ Below n0 w wr ∧ Bk wr n0 29 (tbA Aq cq (some ⟨bc, oc, none⟩) cc B cb H ch t) ∧ wr.ownsRow (n0 + 1) 3 1 o out.length (out.flatMap intE.f) ∧ out.length ≤ 1 + k) (fun _ _ i _ => t.b.length - (intOf i).toNat)
  case atStart => exact ⟨0, [max at_ c.beg], Nat.zero_le _, rfl, HB3.out, HK2.out, HR2.out, Nat.le_refl _⟩
  case round =>
    obtain ⟨k, out, hk, rfl, hbw, hkb, hro, hol⟩ := hrel
    have HB := Lib.hid hbw
    have HK := Lib.hid hkb
    have HOL := Lib.hid hol
    obtain ⟨A1, c1, rfl, -, -⟩ := sl_of_row (E := intE) hro
    have HRO := Lib.hid hro
    have HZ : Hid (n0 + 1 ≤ wr.heap.size) := hkb.lt
    clear hbw hkb hro hol HK2 HB3 HR2
    by_cases hlt : k < t.b.length
    · obtain ⟨b2, o2, rfl, hr⟩ := (HT.out.below (w' := wr) (by rw [hn0]; exact HB.out)).b.one (by omega)
      obtain ⟨r, hrk⟩ : ∃ r, t.b[k]? = some r := ⟨_, List.getElem?_eq_getElem hlt⟩
      have hrg := hr k r hrk
      have c0 : wr.cell? ⟨b2, o2 + k * 4, none⟩ = some (.int .i64 r.ct) := hrg 0 _ rfl
      have c1 : wr.cell? ⟨b2, o2 + k * 4 + 1, none⟩ = some (.int .i64 r.beg) := hrg 1 _ rfl
      have c2 : wr.cell? ⟨b2, o2 + k * 4 + 2, none⟩ = some (.int .i64 r.fin) := hrg 2 _ rfl
      have c3 : wr.cell? ⟨b2, o2 + k * 4 + 3, none⟩ = some (.int .i64 r.tick) := hrg 3 _ rfl
      have hk0 : (0 : Int) ≤ (k : Int) := by omega
      have hk1 : (k : Int) < (t.b.length : Int) := by omega
      have hk5 : (k : Int) ≤ 512 := by omega
      have HBX : Hid (Below wr.heap.size wr (wr.alloc (.cells (bkA r) 95))) := (Below.refl _ _).alloc (Nat.le_refl _) _
      have HB5 : Hid (Below n0 w (wr.alloc (.cells (bkA r) 95))) := HB.out.trans (HBX.out.mono (by have := HZ.out; omega))
      have HK5 := Lib.hid (HK.out.below HBX.out HK.out.lt)
      have HR5 := Lib.hid (row_next HRO.out HBX.out)
      clear hr hrk hrg
      by_cases e1 : r.ct = (ct : Int)
      · have d1 : (r.ct == (ct : Int)) = true := by simpa using e1
        clear e1
        by_cases e2 : max at_ c.beg < r.fin
        · have d2 : decide (max at_ c.beg < r.fin) = true := by simpa using e2
          obtain ⟨hi2, hw1, hw2, hw3⟩ := HI.out
          have HB6 : Hid (Below (wr.alloc (.cells (bkA r) 95)).heap.size (wr.alloc (.cells (bkA r) 95)) ((wr.alloc (.cells (bkA r) 95)).alloc (.cells #[.int .i64 r.fin] 3))) := (Below.refl _ _).alloc (Nat.le_refl _) _
          have HR6 := Lib.hid (row_next HR5.out HB6.out)
          have HK6 := Lib.hid (HK5.out.below HB6.out HK5.out.lt)
          have HB7 : Hid (Below n0 w ((wr.alloc (.cells (bkA r) 95)).alloc (.cells #[.int .i64 r.fin] 3))) := HB5.out.trans (HB6.out.mono (by have := HZ.out; have := HBX.out.size; omega))
          go_wp2_with (at_builtin; refine wpList_append_own_at _ rfl _ _ 22 rfl (n0 + 1) 3 i2 (.int .i64 0) 1 8 Tryz.underlying22 hi2 hw1 hw2 hw3 rfl (by decide) _ _ _ rfl HR6.out ⟨_, 0, none⟩ 1 1 [.int .i64 r.fin] rfl rfl ?d1 ?d2 ?d3 ?d4 ?d5 ?_)
          case d1 => exact fun j u hu => by rw [Addr.add_mid, Nat.zero_add]; exact new_at _ [.int .i64 r.fin] _ (by simp) j u hu
          case d2 => exact fun u hu => by rw [List.mem_singleton.1 hu]; rfl
          case d3 => have := HOL.out; unfold maxLen; omega
          case d4 => have := HOL.out; omega
          case d5 => exact HK6.out.lt
          intro v8 w8 g2 g3 _ _
          have hb8 := HB7.out.grown g3 (by have := HK6.out.lt; omega) (fun r' e' => by have := (row_lt HR6.out r' e').1; omega)
          have hk8 := HK6.out.grown g3 (bk_not_row HK6.out (by decide) HR6.out)
          have HG : Hid (Below n0 w w8 ∧ Bk w8 n0 29 (tbA Aq cq (some ⟨bc, oc, none⟩) cc (some ⟨b2, o2, none⟩) cb H ch t) ∧ w8.ownsRow (n0 + 1) 3 1 v8 (out ++ [r.fin]).length ((out ++ [r.fin]).flatMap intE.f) ∧ (out ++ [r.fin]).length ≤ 1 + (k + 1)) := ⟨hb8, hk8, by rw [List.length_append, List.flatMap_append]; exact g2, by rw [List.length_append]; show out.length + 1 ≤ 1 + (k + 1); have h : out.length ≤ 1 + k := HOL.out; omega⟩
          clear g2 g3 hb8 hk8 hi2 hw1 hw2 hw3
          go_wp2
          go_roundw
          case rel => exact ⟨k + 1, out ++ [r.fin], by omega, by go_num, HG.out.1, HG.out.2.1, HG.out.2.2.1, HG.out.2.2.2⟩
          case measure => simp [intOf]; omega
        · have d2 : decide (max at_ c.beg < r.fin) = false := by simpa using e2
          go_wp2
          go_roundw
          case rel => exact ⟨k + 1, out, by omega, by go_num, HB5.out, HK5.out, HR5.out, by have := HOL.out; omega⟩
          case measure => simp [intOf]; omega
      · have d1 : (r.ct == (ct : Int)) = false := by simpa using e1
        go_wp2
        go_roundw
        case rel => exact ⟨k + 1, out, by omega, by go_num, HB5.out, HK5.out, HR5.out, by have := HOL.out; omega⟩
        case measure => simp [intOf]; omega
    · have hkk : k = t.b.length := by omega
      subst hkk
      have a3 : wr.cell? ⟨n0, 2, none⟩ = some (.slice B t.b.length cb) := HK.out.cell 2
      have a4 : wr.cell? ⟨n0, 3, none⟩ = some (.slice H t.h.length ch) := HK.out.cell 3
      go_wp2_with fail
      clear a3 a4
      go_loopw [8, 12, 50] (fun o _ i wr => ∃ (k : Nat) (out : List Int), k ≤ t.h.length ∧ i = .int .i64 k ∧ Below n0 w wr ∧ Bk wr n0 29 (tbA Aq cq (some ⟨bc, oc, none⟩) cc B cb H ch t) ∧ wr.ownsRow (n0 + 1) 3 1 o out.length (out.flatMap intE.f) ∧ out.length ≤ 1 + t.b.length + k) (fun _ _ i _ => t.h.length - (intOf i).toNat)
      case atStart => exact ⟨0, out, Nat.zero_le _, rfl, HB.out, HK.out, HRO.out, HOL.out⟩
      case round =>
        obtain ⟨k, out, hk, rfl, hbw, hkb, hro, hol⟩ := hrel
        have HB := Lib.hid hbw
        have HK := Lib.hid hkb
        have HOL := Lib.hid hol
        obtain ⟨A1, c1, rfl, -, -⟩ := sl_of_row (E := intE) hro
        have HRO := Lib.hid hro
        have HZ : Hid (n0 + 1 ≤ wr.heap.size) := hkb.lt
        clear hbw hkb hro hol
        by_cases hlt2 : k < t.h.length
        · obtain ⟨b2, o2, rfl, hr⟩ := (HT.out.below (w' := wr) (by rw [hn0]; exact HB.out)).h.one (by omega)
          obtain ⟨r, hrk⟩ : ∃ r, t.h[k]? = some r := ⟨_, List.getElem?_eq_getElem hlt2⟩
          have hrg := hr k r hrk
          have c0 : wr.cell? ⟨b2, o2 + k * 5, none⟩ = some (.int .i64 r.node) := hrg 0 _ rfl
          have c1 : wr.cell? ⟨b2, o2 + k * 5 + 1, none⟩ = some (.int .i64 r.frm) := hrg 1 _ rfl
          have c2 : wr.cell? ⟨b2, o2 + k * 5 + 2, none⟩ = some (.int .i64 r.til) := hrg 2 _ rfl
          have c3 : wr.cell? ⟨b2, o2 + k * 5 + 3, none⟩ = some (.int .i64 r.size) := hrg 3 _ rfl
          have c4 : wr.cell? ⟨b2, o2 + k * 5 + 4, none⟩ = some (.int .i64 r.tick) := hrg 4 _ rfl
          have hk0 : (0 : Int) ≤ (k : Int) := by omega
          have hk1 : (k : Int) < (t.h.length : Int) := by omega
          have hk5 : (k : Int) ≤ 512 := by omega
          have HBX : Hid (Below wr.heap.size wr (wr.alloc (.cells (hdA r) 99))) := (Below.refl _ _).alloc (Nat.le_refl _) _
          have HB5 : Hid (Below n0 w (wr.alloc (.cells (hdA r) 99))) := HB.out.trans (HBX.out.mono (by have := HZ.out; omega))
          have HK5 := Lib.hid (HK.out.below HBX.out HK.out.lt)
          have HR5 := Lib.hid (row_next HRO.out HBX.out)
          clear hr hrk hrg
          by_cases e2 : max at_ c.beg < r.til
          · have d2 : decide (max at_ c.beg < r.til) = true := by simpa using e2
            obtain ⟨hi2, hw1, hw2, hw3⟩ := HI.out
            have HB6 : Hid (Below (wr.alloc (.cells (hdA r) 99)).heap.size (wr.alloc (.cells (hdA r) 99)) ((wr.alloc (.cells (hdA r) 99)).alloc (.cells #[.int .i64 r.til] 3))) := (Below.refl _ _).alloc (Nat.le_refl _) _
            have HR6 := Lib.hid (row_next HR5.out HB6.out)
            have HK6 := Lib.hid (HK5.out.below HB6.out HK5.out.lt)
            have HB7 : Hid (Below n0 w ((wr.alloc (.cells (hdA r) 99)).alloc (.cells #[.int .i64 r.til] 3))) := HB5.out.trans (HB6.out.mono (by have := HZ.out; have := HBX.out.size; omega))
            go_wp2_with (at_builtin; refine wpList_append_own_at _ rfl _ _ 22 rfl (n0 + 1) 3 i2 (.int .i64 0) 1 8 Tryz.underlying22 hi2 hw1 hw2 hw3 rfl (by decide) _ _ _ rfl HR6.out ⟨_, 0, none⟩ 1 1 [.int .i64 r.til] rfl rfl ?d1 ?d2 ?d3 ?d4 ?d5 ?_)
            case d1 => exact fun j u hu => by rw [Addr.add_mid, Nat.zero_add]; exact new_at _ [.int .i64 r.til] _ (by simp) j u hu
            case d2 => exact fun u hu => by rw [List.mem_singleton.1 hu]; rfl
            case d3 => have := HOL.out; unfold maxLen; omega
            case d4 => have := HOL.out; omega
            case d5 => exact HK6.out.lt
            intro v8 w8 g2 g3 _ _
            have hb8 := HB7.out.grown g3 (by have := HK6.out.lt; omega) (fun r' e' => by have := (row_lt HR6.out r' e').1; omega)
            have hk8 := HK6.out.grown g3 (bk_not_row HK6.out (by decide) HR6.out)
            have HG := Lib.hid (And.intro hb8 (And.intro hk8 (And.intro (show w8.ownsRow (n0 + 1) 3 1 v8 (out ++ [r.til]).length ((out ++ [r.til]).flatMap intE.f) by rw [List.length_append, List.flatMap_append]; exact g2) (show (out ++ [r.til]).length ≤ 1 + t.b.length + (k + 1) by rw [List.length_append]; show out.length + 1 ≤ _; have h : out.length ≤ 1 + t.b.length + k := HOL.out; omega))))
            clear g2 g3 hb8 hk8 hi2 hw1 hw2 hw3
            go_wp2
            go_roundw
            case rel => exact ⟨k + 1, out ++ [r.til], by omega, by go_num, HG.out.1, HG.out.2.1, HG.out.2.2.1, HG.out.2.2.2⟩
            case measure => simp [intOf]; omega
          · have d2 : decide (max at_ c.beg < r.til) = false := by simpa using e2
            go_wp2
            go_roundw
            case rel => exact ⟨k + 1, out, by omega, by go_num, HB5.out, HK5.out, HR5.out, by have := HOL.out; omega⟩
            case measure => simp [intOf]; omega
        · have HOL2 : Hid (out.length ≤ 3000) := by have := HOL.out; show _ ≤ _; omega
          go_wp2_with fail
          refine (sortInts_any (n0 + 1) (.slice A1 out.length c1) out wr HRO.out (by have := HOL2.out; omega)).mono ?_
          rintro e w5 ⟨rfl, hr5, hg5⟩
          have hb5 := HB.out.grown hg5 (by have := HZ.out; omega) (fun r' e' => by have := (row_lt HRO.out r' e').1; omega)
          have hms : (out.mergeSort).length = out.length := List.length_mergeSort _
          have HR5 : Hid (w5.ownsRow (n0 + 1) 3 1 (.slice A1 out.length c1) out.mergeSort.length (out.mergeSort.flatMap intE.f)) := by show w5.ownsRow _ _ _ _ _ _; rw [hms]; exact hr5
          have HB5 := Lib.hid hb5
          have HC := Lib.hid (compactInts_any (n0 + 1) (.slice A1 out.length c1) out.mergeSort w5 HR5.out (by rw [hms]; have := HOL2.out; omega))
          have HZ5 : Hid (n0 + 1 ≤ w5.heap.size) := by have := hg5.size; have := HZ.out; show _ ≤ _; omega
          have HMS : Hid (out.mergeSort.length ≤ 3000) := by rw [hms]; exact HOL2.out
          clear hr5 hg5 hb5 hms
          go_wp2_with fail
          refine HC.out.mono ?_
          rintro e w6 ⟨LL, v6, rfl, hl6, hr6, hg6⟩
          have hb6 := HB5.out.grown hg6 (by have := HZ5.out; omega) (fun r' e' => by have := (row_lt HR5.out r' e').1; omega)
          obtain ⟨A6, c6, rfl, hs6, hc6, hba6⟩ := sl_of_row2 (E := intE) hr6
          have HF : Hid (RetInts w (.returned (.slice A6 LL.length c6)) w6) := ⟨LL, by have := HMS.out; omega, A6, c6, rfl, hs6, hc6, fun a ha => by have := hba6 a ha; omega, by rw [hn0]; exact hb6⟩
          clear hl6 hr6 hg6 hb6 hs6 hc6 hba6
          go_wp2
          go_ret
          exact HF.out
end Go.Proofs.YtebkgbmijocdjaaGreat.Tp
