/- The law CrcDetects, walked. Conditions: a length below the model's greatest; numbers that fit their kinds. -/
import Derived.Test.YtjfbmaeapokgaaaCrcAwake
import Derived.Test.YtjfbmaeapokgaaaCrcBurst
import Derived.StillTailTactics
import Derived.BigQuiet
import Derived.OpenShut
import Derived.Deep.CutRange
namespace Go.Proofs.Ytjfbmaeapokgaaa
open Go Go.RowKit
open Crc (upd sum chg)

theorem BRow.put {w : World} {base g n cap : Nat} {xs : List Value} (h : BRow w base (.slice (some ⟨g, 0, none⟩) n cap) n xs) (k : Nat) (hk : k < n) (v : Value) : BRow (w.setCell ⟨g, k, none⟩ v) base (.slice (some ⟨g, 0, none⟩) n cap) n (xs.set k v) := by
  obtain ⟨g', cap', h1, h2, h3, h4, h5, h6, h7, h8⟩ := h
  cases h1
  have hs := (h8 k (by omega)).1
  have hc : ∀ j, (w.setCell ⟨g, k, none⟩ v).cell? ⟨g, j, none⟩ = if k = j then some v else w.cell? ⟨g, j, none⟩ := by
    intro j
    by_cases e : k = j
    · subst e; rw [if_pos rfl]; exact World.cell?_setCell_same' _ _ _ hs
    · rw [if_neg e]; exact World.cell?_setCell_other _ _ _ _ (by simp)
  refine ⟨g, cap, rfl, h2, by simpa [World.setCell] using h3, h4, h5, by simpa using h6, fun j hj => ?_, fun j hj => ⟨?_, ?_⟩⟩
  · rw [hc j]
    by_cases e : k = j
    · subst e; rw [if_pos rfl, List.getElem?_set_self (by omega)]
    · rw [if_neg e, List.getElem?_set_ne e]; exact h7 j hj
  · rw [hc j]
    by_cases e : k = j
    · rw [if_pos e]; rfl
    · rw [if_neg e]; exact (h8 j hj).1
  · rw [World.frozen?_setCell]; exact (h8 j hj).2
theorem BRow.str {w : World} {base n : Nat} {v : Value} {l : List UInt8} (hl : l.length = n) (h : BRow w base v n (l.map byteV)) :
    (convert 22 9 v).run Try.prog w = .ok (.string (str l)) w := by
  obtain ⟨g, cap, rfl⟩ := h.form
  refine conv_bytes hl (fun j hj => ?_)
  rw [Nat.zero_add, h.cells j hj, List.getElem?_map, List.getElem?_eq_getElem (by omega)]; rfl
theorem xor_byte2 (x y : UInt8) : bits .xor .u8 (x.toNat : Int) (y.toNat : Int) = ((x ^^^ y).toNat : Int) := by
  rw [UInt8.toNat_xor]; exact xor8 _ _ (UInt8.toNat_lt x) (UInt8.toNat_lt y)
theorem chg_yes {l : List UInt8} {a k : Nat} {bs : List UInt8} {b : UInt8} (h : a + k < l.length) (hb : bs[k]? = some b) : chg l a bs (k + 1) = (chg l a bs k).set (a + k) ((chg l a bs k)[a + k]?.getD 0 ^^^ b) := by
  rw [chg, if_pos h, hb]; rfl
theorem chg_no {l : List UInt8} {a k : Nat} {bs : List UInt8} (h : ¬ a + k < l.length) : chg l a bs (k + 1) = chg l a bs k := by rw [chg, if_neg h]

set_option maxHeartbeats 4000000 in
set_option maxRecDepth 100000 in
theorem changed_any (s : ByteArray) (hs : s.size ≤ 140737488355328) (a : Nat) (ha : a < 65536) (b0 b1 b2 b3 : UInt8) (w : World) :
    Calls Try.prog 14 #[.string s, .int .u16 (a : Int), .agg #[.int .u8 (b0.toNat : Int), .int .u8 (b1.toNat : Int), .int .u8 (b2.toNat : Int), .int .u8 (b3.toNat : Int)]] w fun e w' => e = .returned (.string (str (chg s.data.toList a [b0, b1, b2, b3] 4))) ∧ Below w.heap.size w w' := by
  have hsl : s.data.toList.length = s.size := by simp
  generalize hC : Obj.cells #[.int .u8 (b0.toNat : Int), .int .u8 (b1.toNat : Int), .int .u8 (b2.toNat : Int), .int .u8 (b3.toNat : Int)] 27 = C
  obtain ⟨v, w1, hcv, hrow, hb1⟩ := brow_of_string s (w.alloc C) hs
  have k0 : Bk w1 w.heap.size 27 #[.int .u8 (b0.toNat : Int), .int .u8 (b1.toNat : Int), .int .u8 (b2.toNat : Int), .int .u8 (b3.toNat : Int)] := by
    have h := Bk.new w 27 #[.int .u8 (b0.toNat : Int), .int .u8 (b1.toNat : Int), .int .u8 (b2.toNat : Int), .int .u8 (b3.toNat : Int)]
    rw [hC] at h
    exact h.below hb1 (by rw [World.size_alloc]; omega)
  have c0 : w1.cell? ⟨w.heap.size, 0, none⟩ = some (.int .u8 (b0.toNat : Int)) := k0.cell 0
  have c1 : w1.cell? ⟨w.heap.size, 1, none⟩ = some (.int .u8 (b1.toNat : Int)) := k0.cell 1
  have c2 : w1.cell? ⟨w.heap.size, 2, none⟩ = some (.int .u8 (b2.toNat : Int)) := k0.cell 2
  have c3 : w1.cell? ⟨w.heap.size, 3, none⟩ = some (.int .u8 (b3.toNat : Int)) := k0.cell 3
  have hB1 : Below w.heap.size w w1 := ((Below.refl _ _).alloc (Nat.le_refl _) C).trans (hb1.mono (by rw [World.size_alloc]; omega))
  have HB1 := Lib.hid hB1
  have HR : Hid (BRow w1 (w.alloc C).heap.size v s.size ((chg s.data.toList a [b0, b1, b2, b3] 0).map byteV)) := hrow
  have hbase : w.heap.size ≤ (w.alloc C).heap.size := by rw [World.size_alloc]; omega
  generalize (w.alloc C).heap.size = base at HR hbase
  obtain ⟨g, cap, rfl⟩ := hrow.form
  clear hrow hb1 hB1 k0
  rw [← hC] at hcv
  clear hC
  have SL := Lib.hid hsl
  clear hsl
  have i0 : ∀ w : World, (Instr.index 27 (.agg #[.int .u8 (b0.toNat : Int), .int .u8 (b1.toNat : Int), .int .u8 (b2.toNat : Int), .int .u8 (b3.toNat : Int)]) (.int .i64 0)).run Try.prog w = .ok (.int .u8 (b0.toNat : Int)) w := fun _ => by kernel_rfl
  have i1 : ∀ w : World, (Instr.index 27 (.agg #[.int .u8 (b0.toNat : Int), .int .u8 (b1.toNat : Int), .int .u8 (b2.toNat : Int), .int .u8 (b3.toNat : Int)]) (.int .i64 1)).run Try.prog w = .ok (.int .u8 (b1.toNat : Int)) w := fun _ => by kernel_rfl
  have i2 : ∀ w : World, (Instr.index 27 (.agg #[.int .u8 (b0.toNat : Int), .int .u8 (b1.toNat : Int), .int .u8 (b2.toNat : Int), .int .u8 (b3.toNat : Int)]) (.int .i64 2)).run Try.prog w = .ok (.int .u8 (b2.toNat : Int)) w := fun _ => by kernel_rfl
  have i3 : ∀ w : World, (Instr.index 27 (.agg #[.int .u8 (b0.toNat : Int), .int .u8 (b1.toNat : Int), .int .u8 (b2.toNat : Int), .int .u8 (b3.toNat : Int)]) (.int .i64 3)).run Try.prog w = .ok (.int .u8 (b3.toNat : Int)) w := fun _ => by kernel_rfl
  go_enter Try.func14, Try.ntmps14
  go_wp2
  clear hcv c0 c1 c2 c3
  have hgb : Hid (base ≤ g) := by obtain ⟨g', cap', h1, h2, _⟩ := HR.out; cases h1; exact h2
  go_loopw [8, 9, 10, 14] (fun _ _ _ i wr => ∃ k : Nat, k ≤ 4 ∧ i = .int .i64 k ∧ BRow wr base (.slice (some ⟨g, 0, none⟩) s.size cap) s.size ((chg s.data.toList a [b0, b1, b2, b3] k).map byteV) ∧ Below w.heap.size w wr) (fun _ _ _ i _ => 4 - (intOf i).toNat)
  case atStart => exact ⟨0, by omega, rfl, HR.out, HB1.out⟩
  case round =>
    clear HR HB1
    obtain ⟨k, hk, rfl, ho, hbw⟩ := hrel
    have HO := Lib.hid ho
    have HBW := Lib.hid hbw
    clear ho hbw
    have hno : ¬ a + k < s.size → Hid (BRow wr base (.slice (some ⟨g, 0, none⟩) s.size cap) s.size ((chg s.data.toList a [b0, b1, b2, b3] (k + 1)).map byteV)) := fun h => by
      rw [chg_no (by rw [SL.out]; exact h)]; exact HO
    have hyes : ∀ b : UInt8, [b0, b1, b2, b3][k]? = some b → a + k < s.size → Hid (∃ p : UInt8, wr.cell? ⟨g, a + k, none⟩ = some (.int .u8 (p.toNat : Int)) ∧ wr.frozen? ⟨g, a + k, none⟩ = false ∧ BRow (wr.setCell ⟨g, a + k, none⟩ (.int .u8 ((p ^^^ b).toNat : Int))) base (.slice (some ⟨g, 0, none⟩) s.size cap) s.size ((chg s.data.toList a [b0, b1, b2, b3] (k + 1)).map byteV)) := fun b hb h => by
      refine ⟨(chg s.data.toList a [b0, b1, b2, b3] k)[a + k]?.getD 0, ?_, ?_, ?_⟩
      · rw [HO.out.cells _ h, List.getElem?_map, List.getElem?_eq_getElem (by rw [Crc.chg_len, SL.out]; exact h)]; rfl
      · obtain ⟨g', cap', h1, _, _, h4, _, _, _, h8⟩ := HO.out
        cases h1
        exact (h8 _ (by omega)).2
      · rw [chg_yes (by rw [SL.out]; exact h) hb, List.map_set]
        exact HO.out.put _ h _
    have HYES := Lib.hid hyes
    have HNO := Lib.hid hno
    clear hyes hno
    by_cases hlt : k < 4
    · match k, hlt with
      | 0, _ =>
        by_cases h : a + 0 < s.size
        · obtain ⟨p, q1, q2, q3⟩ := (HYES.out b0 rfl h).out
          have hx := xor_byte2 p b0
          try simp only [Nat.add_zero] at q1 q2 q3 h
          generalize p ^^^ b0 = u at hx q3
          have Q3 := Lib.hid q3
          have hi : (a : Int) + 0 < s.size := by omega
          clear q3
          go_wp2
          go_roundw
          case rel => exact ⟨1, by omega, by go_num, Q3.out, HBW.out.setCell (p := ⟨g, a, none⟩) (Nat.le_trans hbase hgb.out) _⟩
          case measure => simp [intOf]
        · have Q3 := HNO.out h
          have hi : ¬ (a : Int) + 0 < s.size := by omega
          try simp only [Nat.add_zero] at h
          go_wp2
          go_roundw
          case rel => exact ⟨1, by omega, by go_num, Q3.out, HBW.out⟩
          case measure => simp [intOf]
      | 1, _ =>
        by_cases h : a + 1 < s.size
        · obtain ⟨p, q1, q2, q3⟩ := (HYES.out b1 rfl h).out
          have hx := xor_byte2 p b1
          try simp only [Nat.add_zero] at q1 q2 q3 h
          generalize p ^^^ b1 = u at hx q3
          have Q3 := Lib.hid q3
          have hi : (a : Int) + 1 < s.size := by omega
          clear q3
          go_wp2
          go_roundw
          case rel => exact ⟨2, by omega, by go_num, Q3.out, HBW.out.setCell (p := ⟨g, a + 1, none⟩) (Nat.le_trans hbase hgb.out) _⟩
          case measure => simp [intOf]
        · have Q3 := HNO.out h
          have hi : ¬ (a : Int) + 1 < s.size := by omega
          try simp only [Nat.add_zero] at h
          go_wp2
          go_roundw
          case rel => exact ⟨2, by omega, by go_num, Q3.out, HBW.out⟩
          case measure => simp [intOf]
      | 2, _ =>
        by_cases h : a + 2 < s.size
        · obtain ⟨p, q1, q2, q3⟩ := (HYES.out b2 rfl h).out
          have hx := xor_byte2 p b2
          try simp only [Nat.add_zero] at q1 q2 q3 h
          generalize p ^^^ b2 = u at hx q3
          have Q3 := Lib.hid q3
          have hi : (a : Int) + 2 < s.size := by omega
          clear q3
          go_wp2
          go_roundw
          case rel => exact ⟨3, by omega, by go_num, Q3.out, HBW.out.setCell (p := ⟨g, a + 2, none⟩) (Nat.le_trans hbase hgb.out) _⟩
          case measure => simp [intOf]
        · have Q3 := HNO.out h
          have hi : ¬ (a : Int) + 2 < s.size := by omega
          try simp only [Nat.add_zero] at h
          go_wp2
          go_roundw
          case rel => exact ⟨3, by omega, by go_num, Q3.out, HBW.out⟩
          case measure => simp [intOf]
      | 3, _ =>
        by_cases h : a + 3 < s.size
        · obtain ⟨p, q1, q2, q3⟩ := (HYES.out b3 rfl h).out
          have hx := xor_byte2 p b3
          try simp only [Nat.add_zero] at q1 q2 q3 h
          generalize p ^^^ b3 = u at hx q3
          have Q3 := Lib.hid q3
          have hi : (a : Int) + 3 < s.size := by omega
          clear q3
          go_wp2
          go_roundw
          case rel => exact ⟨4, by omega, by go_num, Q3.out, HBW.out.setCell (p := ⟨g, a + 3, none⟩) (Nat.le_trans hbase hgb.out) _⟩
          case measure => simp [intOf]
        · have Q3 := HNO.out h
          have hi : ¬ (a : Int) + 3 < s.size := by omega
          try simp only [Nat.add_zero] at h
          go_wp2
          go_roundw
          case rel => exact ⟨4, by omega, by go_num, Q3.out, HBW.out⟩
          case measure => simp [intOf]
    · obtain rfl : k = 4 := by omega
      have hcv := HO.out.str (by rw [Crc.chg_len]; exact SL.out)
      go_wp2
      go_ret
      exact ⟨rfl, HBW.out⟩

set_option maxHeartbeats 4000000 in
set_option maxRecDepth 100000 in
theorem lawDetects (s : ByteArray) (hs : s.size ≤ maxLen) (a : Nat) (b0 b1 b2 b3 : UInt8) (w : World) :
    Calls Try.prog 4 #[.string s, .int .u16 (a : Int), .agg #[.int .u8 (b0.toNat : Int), .int .u8 (b1.toNat : Int), .int .u8 (b2.toNat : Int), .int .u8 (b3.toNat : Int)]] w fun e w' => e = .returned (.bool true) ∧ Below w.heap.size w w' := by
  have K0 := Bk.new w 27 #[.int .u8 (b0.toNat : Int), .int .u8 (b1.toNat : Int), .int .u8 (b2.toNat : Int), .int .u8 (b3.toNat : Int)]
  have HB : Hid (Below w.heap.size w (w.alloc (.cells #[.int .u8 (b0.toNat : Int), .int .u8 (b1.toNat : Int), .int .u8 (b2.toNat : Int), .int .u8 (b3.toNat : Int)] 27))) := (Below.refl _ _).alloc (Nat.le_refl _) _
  have H0 := Lib.hid K0
  clear K0
  have hsm := hs
  unfold maxLen at hs
  go_enter Try.func4, Try.ntmps4
  by_cases h0 : s.size = 0
  · go_wp2_with fail
    refine (awake_any _).mono ?_
    rintro e w1 ⟨rfl, hb1⟩
    replace HB := Lib.hid (HB.out.trans (hb1.mono HB.out.size))
    clear hb1
    go_wp2
    go_ret
    exact ⟨rfl, HB.out⟩
  · have h0b : ((s.size : Int) == 0) = false := by rw [beq_eq_false_iff_ne]; omega
    by_cases h3 : 300 < s.size
    · go_wp2_with fail
      refine (awake_any _).mono ?_
      rintro e w1 ⟨rfl, hb1⟩
      replace HB := Lib.hid (HB.out.trans (hb1.mono HB.out.size))
      clear hb1
      go_wp2
      go_ret
      exact ⟨rfl, HB.out⟩
    · go_upto_region 3 with fail
      generalize w.alloc (.cells #[.int .u8 (b0.toNat : Int), .int .u8 (b1.toNat : Int), .int .u8 (b2.toNat : Int), .int .u8 (b3.toNat : Int)] 27) = W at H0 HB ⊢
      have c0 : W.cell? ⟨w.heap.size, 0, none⟩ = some (.int .u8 (b0.toNat : Int)) := H0.out.cell 0
      have c1 : W.cell? ⟨w.heap.size, 1, none⟩ = some (.int .u8 (b1.toNat : Int)) := H0.out.cell 1
      have c2 : W.cell? ⟨w.heap.size, 2, none⟩ = some (.int .u8 (b2.toNat : Int)) := H0.out.cell 2
      have c3 : W.cell? ⟨w.heap.size, 3, none⟩ = some (.int .u8 (b3.toNat : Int)) := H0.out.cell 3
      have hw : IntKind.u16.wrap (s.size : Int) = (s.size : Int) := by rw [IntKind.wrap_u16]; omega
      have hw2 : (s.size : Int) % 65536 = (s.size : Int) := by omega
      have hm : (a : Int) % (s.size : Int) = ((a % s.size : Nat) : Int) := by rw [Int.natCast_emod]
      have hm2 : (a : Int).tmod (s.size : Int) = ((a % s.size : Nat) : Int) := rfl
      have hlt : a % s.size < s.size := Nat.mod_lt _ (by omega)
      generalize hn : a % s.size = n at hm hm2 hlt
      clear hn
      have HCH := Lib.hid (changed_any s (by omega) n (by omega) b0 b1 b2 b3)
      have HD := Lib.hid (Crc.chg_detect s.data.toList n [b0, b1, b2, b3] (by simp; omega))
      have hl : (str (chg s.data.toList n [b0, b1, b2, b3] 4)).size = s.size := by rw [str_size, Crc.chg_len]; simp
      generalize chg s.data.toList n [b0, b1, b2, b3] 4 = t at HCH HD hl
      have ST := Lib.hid (sum_any (str t) (by rw [hl]; exact hsm))
      have SS := Lib.hid (sum_any s hsm)
      rw [str_list] at ST
      clear hl
      go_wp2
      refine wp_region_still_tail 7 (by kernel_rfl) (by kernel_rfl) ?_
      simp only [List.take_succ_cons, List.take_zero, List.drop_succ_cons, List.drop_zero]
      repeat still_step
      refine wpStill_nil ?_
      change wpList _ _ _ _ _ W.drew
      have HBD : Hid (Below w.heap.size w W.drew) := HB.out.drew
      generalize W.drew = V at HBD ⊢
      clear c0 c1 c2 c3 hw hw2 hm hm2 H0 HB
      go_wp2_with fail
      refine (HCH.out _).mono ?_
      rintro e w1 ⟨rfl, hb1⟩
      have HB := Lib.hid (HBD.out.trans (hb1.mono HBD.out.size))
      clear hb1
      by_cases he : s = str t
      · have hts : t = s.data.toList := by rw [he]; rfl
        subst hts
        clear he
        rw [str_self] at ST ⊢
        generalize sum s.data.toList = u at ST SS
        go_wp2_with fail
        refine (SS.out _).mono ?_
        rintro e w2 ⟨rfl, hb2⟩
        replace HB := Lib.hid (HB.out.trans (hb2.mono HB.out.size))
        clear hb2
        go_wp2_with fail
        refine (SS.out _).mono ?_
        rintro e w3 ⟨rfl, hb3⟩
        replace HB := Lib.hid (HB.out.trans (hb3.mono HB.out.size))
        clear hb3
        go_wp2_with fail
        refine (awake_any _).mono ?_
        rintro e w4 ⟨rfl, hb4⟩
        replace HB := Lib.hid (HB.out.trans (hb4.mono HB.out.size))
        clear hb4
        go_wp2
        go_ret
        exact ⟨rfl, HB.out⟩
      · have hne : ¬ sum s.data.toList = sum t := by
          intro h
          have e := HD.out
          rw [decide_eq_true h, decide_eq_true_iff] at e
          exact he (by rw [← e]; rfl)
        generalize sum s.data.toList = u at SS hne
        generalize sum t = v at ST hne
        have hbs : (s.toList == (str t).toList) = false := by rw [Lib.toList_data, Lib.toList_data, beq_eq_false_iff_ne, str_list]; intro h; exact he (by rw [← h]; rfl)
        have hbu : ((u : Int) == (v : Int)) = false := by rw [beq_eq_false_iff_ne]; omega
        clear hne
        have HE := Lib.hid he
        clear he
        go_wp2_with fail
        refine (SS.out _).mono ?_
        rintro e w2 ⟨rfl, hb2⟩
        replace HB := Lib.hid (HB.out.trans (hb2.mono HB.out.size))
        clear hb2
        go_wp2_with fail
        refine (ST.out _).mono ?_
        rintro e w3 ⟨rfl, hb3⟩
        replace HB := Lib.hid (HB.out.trans (hb3.mono HB.out.size))
        clear hb3
        go_wp2_with fail
        refine (awake_any _).mono ?_
        rintro e w4 ⟨rfl, hb4⟩
        replace HB := Lib.hid (HB.out.trans (hb4.mono HB.out.size))
        clear hb4
        go_wp2
        go_ret
        exact ⟨rfl, HB.out⟩

/-- The same at the row's own numbers. -/
theorem lawDetectsI (s : ByteArray) (a : Int) (b0 b1 b2 b3 : UInt8) (hs : s.size ≤ maxLen) (ha : (Lit.int .u16 a).wf = true) (w : World) :
    Calls Try.prog 4 #[.string s, .int .u16 a, .agg #[.int .u8 (b0.toNat : Int), .int .u8 (b1.toNat : Int), .int .u8 (b2.toNat : Int), .int .u8 (b3.toNat : Int)]] w fun e w' => e = .returned (.bool true) ∧ Below w.heap.size w w' := by
  have hb := bounds_u16 ha
  obtain ⟨a, rfl⟩ := Int.eq_ofNat_of_zero_le hb.1
  exact lawDetects s hs a b0 b1 b2 b3 w
end Go.Proofs.Ytjfbmaeapokgaaa
