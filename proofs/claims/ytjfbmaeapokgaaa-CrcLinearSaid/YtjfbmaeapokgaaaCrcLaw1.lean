/- The law CrcLinear, walked. Condition: lengths below the model's greatest. -/
import Derived.Test.YtjfbmaeapokgaaaCrcAwake
import Derived.StillTailTactics
import Derived.OwnWalk
import Derived.BigQuiet
namespace Go.Proofs.Ytjfbmaeapokgaaa
open Go Go.RowKit
open Crc (upd sum xorL)

theorem min_four (x y z : Nat) (ts : Array TypeId) (t : TypeId) (w : World) : (Builtin.min_ ts t #[.int .i64 (x : Int), .int .i64 (y : Int), .int .i64 (z : Int), .int .i64 300]).run Try.prog w = .ok (.int .i64 ((min (min (min x y) z) 300 : Nat) : Int)) w := by
  have e : ((min (min (min x y) z) 300 : Nat) : Int) = (if (300 : Int) < (if (z : Int) < (if (y : Int) < (x : Int) then (y : Int) else x) then (z : Int) else (if (y : Int) < (x : Int) then (y : Int) else x)) then 300 else (if (z : Int) < (if (y : Int) < (x : Int) then (y : Int) else x) then (z : Int) else (if (y : Int) < (x : Int) then (y : Int) else x))) := by
    repeat' split
    all_goals omega
  rw [e]
  simp [Builtin.min_, Builtin.min2, List.foldlM]

/-- the row after k rounds -/
def rowD (D : List UInt8) (k : Nat) : List UInt8 := D.take k ++ List.replicate (D.length - k) 0
theorem rowD_zero (D : List UInt8) : rowD D 0 = List.replicate D.length 0 := by simp [rowD]
theorem rowD_all (D : List UInt8) : rowD D D.length = D := by simp [rowD]
theorem rowD_len (D : List UInt8) (k : Nat) (h : k ≤ D.length) : (rowD D k).length = D.length := by simp [rowD]; omega
theorem rowD_set {D : List UInt8} {k : Nat} {v : UInt8} (hv : D[k]? = some v) : (rowD D k).set k v = rowD D (k + 1) := by
  obtain ⟨h, rfl⟩ := List.getElem?_eq_some_iff.1 hv
  have hl : (D.take k).length = k := by simp; omega
  unfold rowD
  rw [List.set_append_right _ _ (by omega), hl, Nat.sub_self, show D.length - k = D.length - (k + 1) + 1 by omega, List.replicate_succ, List.set_cons_zero, List.take_succ_eq_append_getElem h, List.append_assoc]
  rfl
theorem list_at {s : ByteArray} {k : Nat} {p : UInt8} (h : k < s.size) (hp : s[k] = p) : s.data.toList[k]? = some p := by
  rw [List.getElem?_eq_getElem (by simpa using h), ← hp]; rfl
theorem xor_byte (x y : UInt8) : bits .xor .u8 (x.toNat : Int) (y.toNat : Int) = ((x ^^^ y).toNat : Int) := by
  rw [UInt8.toNat_xor]; exact xor8 _ _ (UInt8.toNat_lt x) (UInt8.toNat_lt y)
theorem size_list (s : ByteArray) : s.data.toList.length = s.size := by simp

set_option maxHeartbeats 4000000 in
set_option maxRecDepth 100000 in
theorem lawLinear (a b c : ByteArray) (ha : a.size ≤ maxLen) (hb : b.size ≤ maxLen) (hc : c.size ≤ maxLen) (w : World) :
    Calls Try.prog 3 #[.string a, .string b, .string c] w fun e w' => e = .returned (.bool true) ∧ Below w.heap.size w w' := by
  unfold maxLen at ha hb hc
  have hmin := fun w => min_four a.size b.size c.size #[3, 3, 3, 3] 3 w
  have hn1 : min (min (min a.size b.size) c.size) 300 ≤ a.size := by omega
  have hn2 : min (min (min a.size b.size) c.size) 300 ≤ b.size := by omega
  have hn3 : min (min (min a.size b.size) c.size) 300 ≤ c.size := by omega
  have hn4 : min (min (min a.size b.size) c.size) 300 ≤ 300 := by omega
  generalize min (min (min a.size b.size) c.size) 300 = n at hmin hn1 hn2 hn3 hn4
  go_enter Try.func3, Try.ntmps3
  have hx : (a.extract 0 n).size = n := by simp [ByteArray.size_extract]; omega
  have hy : (b.extract 0 n).size = n := by simp [ByteArray.size_extract]; omega
  have hz : (c.extract 0 n).size = n := by simp [ByteArray.size_extract]; omega
  have HX := Lib.hid hx
  have HY := Lib.hid hy
  have HZ := Lib.hid hz
  clear hx hy hz
  go_wp2
  go_quiet (fail)
  generalize a.extract 0 n = x at HX ⊢
  generalize b.extract 0 n = y at HY ⊢
  generalize c.extract 0 n = z at HZ ⊢
  generalize hW : w.drewN nq = W
  have HB : Hid (Below w.heap.size w W) := by show Below w.heap.size w W; rw [← hW]; exact below_drawN (Below.refl _ _) nq
  clear hW hmin hn1 hn2 hn3
  obtain ⟨i0, hi, hz0, hz1, hz2⟩ := info_parts infoByte
  go_wp2_with (at_make; refine wpList_make_full _ rfl _ _ 22 rfl W.heap.size 5 i0 (.int .u8 0) 1 Try.underlying22 hi hz0 hz1 .i64 .i64 _ _ n rfl rfl ?c1 ?c2 ?c3 ?c4 ?c5 ?_)
  case c1 => rfl
  case c2 => rfl
  case c3 => rw [hz2]; omega
  case c4 => unfold maxLen; omega
  case c5 => exact Nat.le_refl _
  intro w1 hown hg1
  have hD : (xorL (xorL x.data.toList y.data.toList) z.data.toList).length = n := by
    have h1 := size_list x; have h2 := size_list y; have h3 := size_list z
    rw [HX.out] at h1; rw [HY.out] at h2; rw [HZ.out] at h3
    rw [Crc.xorL_len _ _ (by rw [Crc.xorL_len _ _ (by omega)]; omega), Crc.xorL_len _ _ (by omega), h1]
  have hDk : ∀ (k : Nat) (p q r : UInt8), x.data.toList[k]? = some p → y.data.toList[k]? = some q → z.data.toList[k]? = some r → (xorL (xorL x.data.toList y.data.toList) z.data.toList)[k]? = some ((p ^^^ q) ^^^ r) := by
    intro k p q r h1 h2 h3
    simp only [xorL, List.getElem?_zipWith, h1, h2, h3]
  have HS : Hid (sum (xorL (xorL x.data.toList y.data.toList) z.data.toList) = sum x.data.toList ^^^ sum y.data.toList ^^^ sum z.data.toList) :=
    Crc.sum_linear _ _ _ (by rw [size_list, size_list, HX.out, HY.out]) (by rw [size_list, size_list, HY.out, HZ.out])
  generalize xorL (xorL x.data.toList y.data.toList) z.data.toList = D at hD hDk HS
  have HD := Lib.hid hD
  have HDK := Lib.hid hDk
  clear hD hDk
  have HO : Hid (w1.ownsRow W.heap.size 5 1 (.slice (some ⟨W.heap.size, 0, none⟩) n n) n ((rowD D 0).map byteV)) := by
    have e : (rowD D 0).map byteV = (madeCells #[.int .u8 0] n).toList := by rw [rowD_zero, HD.out, toList_madeCells_one, List.map_replicate]; rfl
    rw [e]; exact hown
  have HB1 : Hid (Below w.heap.size w w1) := HB.out.grown hg1 HB.out.size (fun g e => by cases e)
  have hbW := Lib.hid HB.out.size
  generalize W.heap.size = g at HO hbW ⊢
  clear hown hg1 HB
  go_wp2
  go_loopw [9, 29] (fun _ i wr => ∃ k : Nat, k ≤ n ∧ i = .int .i64 k ∧ wr.ownsRow g 5 1 (.slice (some ⟨g, 0, none⟩) n n) n ((rowD D k).map byteV) ∧ Below w.heap.size w wr) (fun _ i _ => n - (intOf i).toNat)
  case atStart => exact ⟨0, by omega, rfl, HO.out, HB1.out⟩
  case round =>
    obtain ⟨k, hk, rfl, ho, hbw⟩ := hrel
    by_cases hlt : k < n
    · have hkx : k < x.size := by rw [HX.out]; exact hlt
      have hky : k < y.size := by rw [HY.out]; exact hlt
      have hkz : k < z.size := by rw [HZ.out]; exact hlt
      have cf := ho.frozenAt k
      have co : (wr.cell? ⟨g, k, none⟩).isSome = true := by rw [ho.cellAt k (by omega), List.getElem?_map, List.getElem?_eq_getElem (by rw [rowD_len D k (by rw [HD.out]; omega), HD.out]; exact hlt)]; rfl
      obtain ⟨ov, co⟩ := Option.isSome_iff_exists.1 co
      obtain ⟨p, hp⟩ : ∃ p, x[k] = p := ⟨_, rfl⟩
      obtain ⟨q, hq⟩ : ∃ q, y[k] = q := ⟨_, rfl⟩
      obtain ⟨r, hr⟩ : ∃ r, z[k] = r := ⟨_, rfl⟩
      have hst := ho.stored k (.int .u8 ((((p ^^^ q) ^^^ r).toNat : Nat) : Int))
      have e1 : ((rowD D k).map byteV).set k (.int .u8 ((((p ^^^ q) ^^^ r).toNat : Nat) : Int)) = (rowD D (k + 1)).map byteV := by
        rw [← rowD_set (HDK.out k p q r (list_at hkx hp) (list_at hky hq) (list_at hkz hr)), List.map_set]; rfl
      rw [e1] at hst
      have hx1 := xor_byte p q
      have hx2 := xor_byte (p ^^^ q) r
      generalize p ^^^ q = u at hx1 hx2 hst
      generalize u ^^^ r = v at hx2 hst
      have HST := Lib.hid hst
      have HBW := Lib.hid hbw
      clear ho hbw hst e1
      go_wp2
      refine wp_region_still_tail 14 (by kernel_rfl) (by kernel_rfl) ?_
      simp only [List.take_succ_cons, List.take_zero, List.drop_succ_cons, List.drop_zero]
      repeat still_step
      refine wpStill_nil ?_
      go_wp2
      go_roundw
      case rel => exact ⟨k + 1, by omega, by go_num, HST.out.1.drew, (HBW.out.setCell (p := ⟨g, k, none⟩) hbW.out _).drew⟩
      case measure => simp [intOf]; omega
    · obtain rfl : k = n := by omega
      have e : rowD D k = D := by rw [← HD.out]; exact rowD_all D
      rw [e] at ho
      have hcv := conv_own HD.out ho
      have S0 := Lib.hid (sum_any (str D) (by rw [str_size, HD.out]; unfold maxLen; omega))
      rw [str_list, HS.out] at S0
      have SX := Lib.hid (sum_any x (by rw [HX.out]; unfold maxLen; omega))
      have SY := Lib.hid (sum_any y (by rw [HY.out]; unfold maxLen; omega))
      have SZ := Lib.hid (sum_any z (by rw [HZ.out]; unfold maxLen; omega))
      have lx := Crc.sum_lt x.data.toList
      have ly := Crc.sum_lt y.data.toList
      have lz := Crc.sum_lt z.data.toList
      clear HS HDK HO HB1
      generalize sum x.data.toList = sx at S0 SX lx
      generalize sum y.data.toList = sy at S0 SY ly
      generalize sum z.data.toList = sz at S0 SZ lz
      have x1 := xor64 sx sy lx ly
      have x2 := xor64 (sx ^^^ sy) sz (Crc.xor_lt _ _ lx ly) lz
      generalize sx ^^^ sy = u at x1 x2 S0
      generalize u ^^^ sz = v at x2 S0
      have HB := Lib.hid hbw
      clear ho hbw e lx ly lz
      go_wp2_with fail
      refine (S0.out _).mono ?_
      rintro e w2 ⟨rfl, hb2⟩
      replace HB := Lib.hid (HB.out.trans (hb2.mono HB.out.size))
      clear hb2 hcv
      go_wp2_with fail
      refine (SX.out _).mono ?_
      rintro e w3 ⟨rfl, hb3⟩
      replace HB := Lib.hid (HB.out.trans (hb3.mono HB.out.size))
      clear hb3
      go_wp2_with fail
      refine (SY.out _).mono ?_
      rintro e w4 ⟨rfl, hb4⟩
      replace HB := Lib.hid (HB.out.trans (hb4.mono HB.out.size))
      clear hb4
      go_wp2_with fail
      refine (SZ.out _).mono ?_
      rintro e w5 ⟨rfl, hb5⟩
      replace HB := Lib.hid (HB.out.trans (hb5.mono HB.out.size))
      clear hb5
      go_wp2_with fail
      refine (awake_any _).mono ?_
      rintro e w6 ⟨rfl, hb6⟩
      replace HB := Lib.hid (HB.out.trans (hb6.mono HB.out.size))
      clear hb6
      go_wp2
      go_ret
      exact ⟨rfl, HB.out⟩
end Go.Proofs.Ytjfbmaeapokgaaa
