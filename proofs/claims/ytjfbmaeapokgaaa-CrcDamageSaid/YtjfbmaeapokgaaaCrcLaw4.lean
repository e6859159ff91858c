/- A damaged frame cannot be opened, a beginning of one is too short: plain lists, and the calls. -/
import Derived.Test.YtjfbmaeapokgaaaCrcLaw3
import Derived.Test.YtjfbmaeapokgaaaCrcLaw2
import Derived.Deep.CutRange
namespace Go.Proofs.Ytjfbmaeapokgaaa
open Go Go.RowKit
open Crc (upd sum bytes4 chg stepN)

theorem seal_size {S : List UInt8} (h : S.length ≤ 65536) : (sealL S).length = (Vi.intL S.length).length + S.length + 4 := by
  rw [(seal_parts h).1]; simp [bytes4]; omega
theorem damage {S : List UInt8} (h : S.length ≤ 65536) (p : Nat) (bs : List UInt8) (h1 : (Vi.intL S.length).length ≤ p) (h2 : p ≤ (sealL S).length) :
    sealL S = chg (sealL S) p bs 4 ∨ openR (chg (sealL S) p bs 4) = ([], 0, 13) := by
  have hsz := seal_size h
  have hlen := Crc.chg_len (sealL S) p bs 4
  have hat := Crc.chg_at (sealL S) p bs 4
  have hfit : upd Crc.most (sealL S) = stepN 32 Crc.most := by
    rw [(seal_parts h).1]
    exact (Crc.frame_fits (Vi.intL S.length ++ S) (bytes4 (sum (Vi.intL S.length ++ S))) rfl).1 rfl
  have hpre : (sealL S).take (Vi.intL S.length).length = Vi.intL S.length := by
    rw [(seal_parts h).1, List.append_assoc, List.take_left]
  have hdet := fun hs => Crc.detects (l := sealL S) (t := chg (sealL S) p bs 4) (a := p) Crc.most hlen.symm h2 (fun j hj => hat j hj) hs
  generalize chg (sealL S) p bs 4 = t at hlen hat hdet ⊢
  generalize hI : Vi.intL (S.length : Int) = I at *
  have hp2 : t.take I.length = I := by
    refine Eq.trans ?_ hpre
    refine List.ext_getElem? (fun j => ?_)
    by_cases hj : j < I.length
    · rw [List.getElem?_take_of_lt hj, List.getElem?_take_of_lt hj]
      exact hat j (.inl (by omega))
    · rw [List.getElem?_eq_none (by rw [List.length_take]; omega), List.getElem?_eq_none (by rw [List.length_take]; omega)]
  have hrd : Vi.rd t = ((S.length : Int), I.length, 0) := by
    have e : t = I ++ t.drop I.length := by conv => lhs; rw [← List.take_append_drop I.length t, hp2]
    have := Vi.rd_enc (S.length : Int) (t.drop I.length) (Vi.small_inR _ h)
    rw [hI] at this
    rw [e]
    exact this
  by_cases hb : bytes4 (sum (t.take (I.length + S.length))) = (t.drop (I.length + S.length)).take 4
  · left
    have h4 : ((t.drop (I.length + S.length)).take 4).length = 4 := by rw [List.length_take, List.length_drop]; omega
    have h5 := (Crc.frame_fits _ _ h4).1 hb
    rw [← List.take_add, List.take_of_length_le (by omega)] at h5
    exact hdet (hfit.trans h5.symm)
  · right
    exact open_d hrd h (by omega) hb
theorem cut_short {S : List UInt8} (h : S.length ≤ 65536) (q : Nat) (hq : q < (sealL S).length) : openR ((sealL S).take q) = ([], 0, 12) := by
  have hsz := seal_size h
  have hpre : (sealL S).take (Vi.intL S.length).length = Vi.intL S.length := by
    rw [(seal_parts h).1, List.append_assoc, List.take_left]
  by_cases hk : q < (Vi.intL S.length).length
  · have e : (sealL S).take q = (Vi.intL S.length).take q := by
      rw [← hpre, List.take_take, Nat.min_eq_left (by omega)]
    rw [e]
    exact open_a (Vi.rd_short _ (Vi.small_inR _ h) q hk) (by decide)
  · have e : (sealL S).take q = Vi.intL S.length ++ ((sealL S).take q).drop (Vi.intL S.length).length := by
      conv => lhs; rw [← List.take_append_drop (Vi.intL S.length).length ((sealL S).take q), List.take_take, Nat.min_eq_left (by omega), hpre]
    have hrd := Vi.rd_enc (S.length : Int) (((sealL S).take q).drop (Vi.intL S.length).length) (Vi.small_inR _ h)
    rw [← e] at hrd
    exact open_c hrd h (by rw [List.length_take]; omega)

theorem cut_any (l : List UInt8) (hl : l.length ≤ 1000) (q : Nat) (h : openR (l.take q) = ([], 0, 12)) (w : World) :
    Calls Try.prog 22 #[.string ((str l).extract 0 q)] w fun e w' => e = .returned (.tuple #[.string ⟨#[]⟩, .int .i64 0, .int .i64 12]) ∧ Below w.heap.size w w' := by
  have e : ((str l).extract 0 q).data.toList = l.take q := by rw [ex_list, List.drop_zero, Nat.sub_zero, str_list]
  have hs : ((str l).extract 0 q).size ≤ 1000 := by
    have h2 : ((str l).extract 0 q).data.toList.length = ((str l).extract 0 q).size := by simp
    rw [← h2, e, List.length_take]
    omega
  refine (open_any ((str l).extract 0 q) (by unfold maxLen; omega) w).mono ?_
  rintro e' w' ⟨he, hb⟩
  rw [e, h] at he
  exact ⟨he, hb⟩
theorem open_str (l : List UInt8) (hl : l.length ≤ 1000) (w : World) : Calls Try.prog 22 #[.string (str l)] w (RetOpen w l) :=
  open_any (str l) (by rw [str_size]; unfold maxLen; omega) w

set_option maxHeartbeats 8000000 in
set_option maxRecDepth 100000 in
theorem lawDamage (s : ByteArray) (hs : s.size ≤ maxLen) (a : Nat) (ha : a < 65536) (b0 b1 b2 b3 : UInt8) (c : Nat) (hc : c < 65536) (w : World) :
    Calls Try.prog 9 #[.string s, .int .u16 (a : Int), .agg #[.int .u8 (b0.toNat : Int), .int .u8 (b1.toNat : Int), .int .u8 (b2.toNat : Int), .int .u8 (b3.toNat : Int)], .int .u16 (c : Int)] w fun e w' => e = .returned (.bool true) ∧ Below w.heap.size w w' := by
  have K0 := Bk.new w 27 #[.int .u8 (b0.toNat : Int), .int .u8 (b1.toNat : Int), .int .u8 (b2.toNat : Int), .int .u8 (b3.toNat : Int)]
  have HB : Hid (Below w.heap.size w (w.alloc (.cells #[.int .u8 (b0.toNat : Int), .int .u8 (b1.toNat : Int), .int .u8 (b2.toNat : Int), .int .u8 (b3.toNat : Int)] 27))) := (Below.refl _ _).alloc (Nat.le_refl _) _
  have hgw := World.size_alloc w (.cells #[.int .u8 (b0.toNat : Int), .int .u8 (b1.toNat : Int), .int .u8 (b2.toNat : Int), .int .u8 (b3.toNat : Int)] 27)
  have H0 := Lib.hid K0
  clear K0
  have hsm := hs
  unfold maxLen at hs
  go_enter Try.func9, Try.ntmps9
  by_cases h3 : 300 < s.size
  · clear hgw
    go_wp2_with fail
    refine (awake_any _).mono ?_
    rintro e w1 ⟨rfl, hb1⟩
    replace HB := Lib.hid (HB.out.trans (hb1.mono HB.out.size))
    clear hb1
    go_wp2
    go_ret
    exact ⟨rfl, HB.out⟩
  · have hl : s.data.toList.length = s.size := by simp
    have hS : s.data.toList.length ≤ 65536 := by omega
    have hsz := seal_size hS
    rw [hl] at hsz
    have hk9 := Vi.intL_len9 (s.size : Int)
    have hk1 : 1 ≤ (Vi.intL (s.size : Int)).length := (Vi.rd_canon (Vi.rd_enc (s.size : Int) [] (Vi.small_inR _ (by omega)))).2.1
    have HS := Lib.hid (seal_ok s (by omega))
    have hdam := fun p bs h1 h2 => damage hS p bs h1 h2
    have hcut := fun q hq => cut_short hS q hq
    rw [hl] at hdam
    generalize (Vi.intL (s.size : Int)).length = k at hsz hk9 hk1 hdam
    generalize sealL s.data.toList = L at hsz HS hdam hcut
    have hf := str_size L
    have hp0 : a % (s.size + 4) < s.size + 4 := Nat.mod_lt _ (by omega)
    have hq0 : c % L.length < L.length := Nat.mod_lt _ (by omega)
    have hd := hdam (k + a % (s.size + 4)) [b0, b1, b2, b3] (by omega) (by omega)
    have HC := Lib.hid (cut_any L (by omega) (c % L.length) (hcut _ hq0))
    have HCH := Lib.hid (changed_any (str L) (by rw [hf]; omega) (k + a % (s.size + 4)) (by omega) b0 b1 b2 b3)
    rw [str_list] at HCH
    have HO := Lib.hid (open_str (chg L (k + a % (s.size + 4)) [b0, b1, b2, b3] 4) (by rw [Crc.chg_len]; omega))
    generalize chg L (k + a % (s.size + 4)) [b0, b1, b2, b3] 4 = t at hd HCH HO
    have hd' : str L = str t ∨ openR t = ([], 0, 13) := hd.imp (fun h => by rw [h]) id
    have HD := Lib.hid hd'
    clear hd hd' hdam hcut
    have hm1 : (a : Int) % ((s.size : Int) + 4) = ((a % (s.size + 4) : Nat) : Int) := by rw [Int.natCast_emod]; rfl
    have hm2 : (a : Int).tmod ((s.size : Int) + 4) = ((a % (s.size + 4) : Nat) : Int) := rfl
    have hz1 : L.length ≤ k + s.size + 4 := by omega
    have hz2 : k + s.size + 4 ≤ L.length := by omega
    have hr1 : (c : Int) % (L.length : Int) = ((c % L.length : Nat) : Int) := by rw [Int.natCast_emod]
    have hr2 : (c : Int).tmod (L.length : Int) = ((c % L.length : Nat) : Int) := rfl
    generalize a % (s.size + 4) = p0 at hp0 HCH hm1 hm2
    generalize c % L.length = q0 at hq0 HC hr1 hr2
    generalize str L = F at hf HS HC HCH HD
    generalize L.length = f at hf hz1 hz2 hq0 hr1 hr2 hsz
    clear hsz
    have hnz : (((s.size : Int) + 4) == 0) = false := by rw [beq_eq_false_iff_ne]; omega
    have hnz2 : ((f : Int) == 0) = false := by rw [beq_eq_false_iff_ne]; omega
    have hnz3 : ¬ ((s.size : Int) + 4 = 0) := by omega
    have hv6 : IntKind.i64.wrap (p0 : Int) = (p0 : Int) := by rw [IntKind.wrap_i64]; omega
    have hv7 : IntKind.i64.wrap (a : Int) = (a : Int) := by rw [IntKind.wrap_i64]; omega
    have hv1 : IntKind.i64.wrap ((s.size : Int) + 4) = (s.size : Int) + 4 := by rw [IntKind.wrap_i64]; omega
    have hv2 : IntKind.i64.wrap ((f : Int) - (s.size : Int) - 4 + (p0 : Int)) = (f : Int) - (s.size : Int) - 4 + (p0 : Int) := by rw [IntKind.wrap_i64]; omega
    have hv3 : IntKind.u16.wrap ((f : Int) - (s.size : Int) - 4 + (p0 : Int)) = ((k + p0 : Nat) : Int) := by rw [IntKind.wrap_u16]; omega
    have hv4 : ((f : Int) - (s.size : Int) - 4 + (p0 : Int)) % 65536 = ((k + p0 : Nat) : Int) := by omega
    generalize k + p0 = n at HCH hv3 hv4
    have HV3 := Lib.hid hv3
    have HV4 := Lib.hid hv4
    have HV2 := Lib.hid hv2
    clear hv3 hv4 hv2
    go_wp2_with fail
    refine (HS.out _).mono ?_
    rintro e w1 ⟨rfl, hb1⟩
    have k1' := H0.out.below hb1 (by omega)
    have HB1 := Lib.hid (HB.out.trans (hb1.mono HB.out.size))
    clear hb1 H0 HB hgw
    go_upto_region 7 with fail
    have c0 : w1.cell? ⟨w.heap.size, 0, none⟩ = some (.int .u8 (b0.toNat : Int)) := k1'.cell 0
    have c1 : w1.cell? ⟨w.heap.size, 1, none⟩ = some (.int .u8 (b1.toNat : Int)) := k1'.cell 1
    have c2 : w1.cell? ⟨w.heap.size, 2, none⟩ = some (.int .u8 (b2.toNat : Int)) := k1'.cell 2
    have c3 : w1.cell? ⟨w.heap.size, 3, none⟩ = some (.int .u8 (b3.toNat : Int)) := k1'.cell 3
    have hv2 := HV2.out
    have hv3 := HV3.out
    have hv4 := HV4.out
    go_wp2
    refine wp_region_still_tail 11 (by kernel_rfl) (by kernel_rfl) ?_
    simp only [List.take_succ_cons, List.take_zero, List.drop_succ_cons, List.drop_zero]
    repeat still_step
    refine wpStill_nil ?_
    change wpList _ _ _ _ _ w1.drew
    have HB2 : Hid (Below w.heap.size w w1.drew) := HB1.out.drew
    generalize w1.drew = V at HB2 ⊢
    clear c0 c1 c2 c3 hv2 hv3 hv4 HV2 HV3 HV4 HB1 k1' hm1 hm2 hv1
    go_wp2_with fail
    refine (HCH.out _).mono ?_
    rintro e w2 ⟨rfl, hb2⟩
    have HB := Lib.hid (HB2.out.trans (hb2.mono HB2.out.size))
    clear hb2 HB2
    have r2 := HO.out
    unfold RetOpen at r2
    rcases HD.out with hE | hE
    · subst hE
      have R2 := Lib.hid r2
      clear r2
      go_wp2_with fail
      refine (R2.out _).mono ?_
      rintro e w3 ⟨rfl, hb3⟩
      replace HB := Lib.hid (HB.out.trans (hb3.mono HB.out.size))
      clear hb3
      go_wp2_with fail
      refine (HC.out _).mono ?_
      rintro e w4 ⟨rfl, hb4⟩
      replace HB := Lib.hid (HB.out.trans (hb4.mono HB.out.size))
      clear hb4
      go_wp2_with fail
      refine (awake_any _).mono ?_
      rintro e w5 ⟨rfl, hb5⟩
      replace HB := Lib.hid (HB.out.trans (hb5.mono HB.out.size))
      clear hb5
      go_wp2
      go_ret
      exact ⟨rfl, HB.out⟩
    · simp only [hE] at r2
      have R2 := Lib.hid r2
      clear r2 hE
      go_wp2_with fail
      refine (R2.out _).mono ?_
      rintro e w3 ⟨rfl, hb3⟩
      rw [show str [] = ⟨#[]⟩ from rfl]
      replace HB := Lib.hid (HB.out.trans (hb3.mono HB.out.size))
      clear hb3
      have hbb : ((str t).toList != F.toList) = true ∨ ((str t).toList != F.toList) = false := by cases ((str t).toList != F.toList) <;> simp
      rcases hbb with hbb | hbb
      all_goals
        have hbc : ((str t).toList == F.toList) = !((str t).toList != F.toList) := by simp [bne]
        rw [hbb] at hbc
        simp only [Bool.not_true, Bool.not_false] at hbc
        go_wp2_with fail
        refine (HC.out _).mono ?_
        rintro e w4 ⟨rfl, hb4⟩
        replace HB := Lib.hid (HB.out.trans (hb4.mono HB.out.size))
        clear hb4
        go_wp2_with fail
        refine (awake_any _).mono ?_
        rintro e w5 ⟨rfl, hb5⟩
        replace HB := Lib.hid (HB.out.trans (hb5.mono HB.out.size))
        clear hb5
        go_wp2
        go_ret
        exact ⟨rfl, HB.out⟩

/-- The same at the row's own numbers. -/
theorem lawDamageI (s : ByteArray) (a : Int) (b0 b1 b2 b3 : UInt8) (c : Int) (hs : s.size ≤ maxLen) (ha : (Lit.int .u16 a).wf = true) (hc : (Lit.int .u16 c).wf = true) (w : World) :
    Calls Try.prog 9 #[.string s, .int .u16 a, .agg #[.int .u8 (b0.toNat : Int), .int .u8 (b1.toNat : Int), .int .u8 (b2.toNat : Int), .int .u8 (b3.toNat : Int)], .int .u16 c] w fun e w' => e = .returned (.bool true) ∧ Below w.heap.size w w' := by
  have hb := bounds_u16 ha
  have hd := bounds_u16 hc
  obtain ⟨a, rfl⟩ := Int.eq_ofNat_of_zero_le hb.1
  obtain ⟨c, rfl⟩ := Int.eq_ofNat_of_zero_le hd.1
  exact lawDamage s hs a (by omega) b0 b1 b2 b3 c (by omega) w
end Go.Proofs.Ytjfbmaeapokgaaa
