/- The laws VersionCodes and VersionBytes, walked. Conditions: the list lies in memory; the program's table holds what its initialiser lays; a length below the model's greatest. -/
import Derived.Test.YtolohghpiccbaaaDoorVerLaws2
import Derived.Test.YtolohghpiccbaaaDoorVerCode
namespace Go.Proofs.YtolohghpiccbaaaDoor
open Go Go.RowKit
open Ver (at' chk okn)

theorem decL_max (l : List UInt8) : (decL l).length ≤ maxLen := Nat.le_trans (decL_len l) (by decide)
theorem decide_selfV (l : List Int) : decide (l = l) = true := decide_eq_true rfl
theorem encL_len (v : List Int) (h : chk v = 0) : (str (encL v)).size ≤ maxLen := by
  rw [str_size, (enc_ok h).2]
  have h1 := chk_inR h
  have h2 := ((Ver.chk_iff v).1 h).2.2.1
  have := Vi.rlist_enc v [] h1
  have h3 : ∀ l : List Int, ((l.map Vi.intL).flatten).length ≤ 9 * l.length := by
    intro l
    induction l with
    | nil => simp
    | cons x l ih => have := Vi.intL_len9 x; simp only [List.map_cons, List.flatten_cons, List.length_append, List.length_cons]; omega
  have h4 := h3 v
  have h5 := Vi.intL_len9 (v.length : Int)
  unfold Vi.listL
  rw [if_pos h1, List.length_append]
  unfold maxLen
  omega

set_option maxHeartbeats 4000000 in
set_option maxRecDepth 100000 in
theorem lawCodes (Aa : Option Addr) (ca : Nat) (a : List Int) (s : ByteArray) (w : World) (ha : IntsAt w Aa a) (hT : Tab w) (ma : a.length ≤ maxLen) (hs : s.size ≤ maxLen) :
    Calls Tryd.prog 9 #[.slice Aa a.length ca, .string s] w fun e w' => e = .returned (.bool true) ∧ Below w.heap.size w w' := by
  have hsm := hs
  unfold maxLen at hs
  have Ia := Lib.hid ha
  clear ha
  have HT := Lib.hid hT
  clear hT
  have HB : Hid (Below w.heap.size w w) := Below.refl _ _
  go_enter Tryd.func9, Tryd.ntmps9
  have hms : ∀ n ∈ [a.length], n ≤ maxLen := (by simp only [List.mem_cons, List.not_mem_nil, or_false]; intro n hn; rcases hn with rfl <;> assumption)
  have HMS := Lib.hid hms
  clear hms
  go_wp2_with fail
  refine (great_any w.heap.size [a.length] _ (vecs_one w 23 Aa a.length ca) (by simp) HMS.out).mono ?_
  rintro e w0 ⟨rfl, rfl⟩
  replace Ia := Lib.hid (Ia.out.alloc (.cells #[.slice Aa a.length ca] 23))
  replace HT := Lib.hid (HT.out.alloc (.cells #[.slice Aa a.length ca] 23))
  replace HB := Lib.hid (HB.out.alloc (Nat.le_refl _) (.cells #[.slice Aa a.length ca] 23))
  generalize w.alloc (.cells #[.slice Aa a.length ca] 23) = W at Ia HT HB ⊢
  cases hg : ([a.length] : List Nat).any (40 < ·)
  case true =>
    clear hg
    go_wp2_with fail
    refine (awake_any _ HT.out).mono ?_
    rintro e w1 ⟨rfl, hb1⟩
    replace Ia := Lib.hid (Ia.out.below hb1)
    replace HT := Lib.hid (HT.out.below hb1)
    replace HB := Lib.hid (HB.out.trans (hb1.mono HB.out.size))
    clear hb1
    go_wp2
    go_ret
    exact ⟨rfl, HB.out⟩
  case false =>
    clear hg
    by_cases g2 : 200 < s.size
    ·
      go_wp2_with fail
      refine (awake_any _ HT.out).mono ?_
      rintro e w2 ⟨rfl, hb2⟩
      replace Ia := Lib.hid (Ia.out.below hb2)
      replace HT := Lib.hid (HT.out.below hb2)
      replace HB := Lib.hid (HB.out.trans (hb2.mono HB.out.size))
      clear hb2
      go_wp2
      go_ret
      exact ⟨rfl, HB.out⟩
    go_wp2_with fail
    refine (encode_any Aa ca a _ Ia.out ma).mono ?_
    rintro e w3 ⟨rfl, hb3⟩
    replace Ia := Lib.hid (Ia.out.below hb3)
    replace HT := Lib.hid (HT.out.below hb3)
    replace HB := Lib.hid (HB.out.trans (hb3.mono HB.out.size))
    clear hb3
    go_wp2_with fail
    refine (encodeR_any Aa ca a _ Ia.out ma).mono ?_
    rintro e w4 ⟨rfl, hb4⟩
    replace Ia := Lib.hid (Ia.out.below hb4)
    replace HT := Lib.hid (HT.out.below hb4)
    replace HB := Lib.hid (HB.out.trans (hb4.mono HB.out.size))
    clear hb4
    go_wp2_with fail
    refine (decode_any s hsm _).mono ?_
    rintro e w5 ⟨A5, c5, rfl, hi5, hb5⟩
    have I5 := Lib.hid hi5
    clear hi5
    replace Ia := Lib.hid (Ia.out.below hb5)
    replace HT := Lib.hid (HT.out.below hb5)
    replace HB := Lib.hid (HB.out.trans (hb5.mono HB.out.size))
    clear hb5
    go_wp2_with fail
    refine (decodeR_any s hsm _).mono ?_
    rintro e w6 ⟨A6, c6, rfl, hi6, hb6⟩
    have I6 := Lib.hid hi6
    clear hi6
    replace Ia := Lib.hid (Ia.out.below hb6)
    replace HT := Lib.hid (HT.out.below hb6)
    replace I5 := Lib.hid (I5.out.below hb6)
    replace HB := Lib.hid (HB.out.trans (hb6.mono HB.out.size))
    clear hb6
    go_wp2_with fail
    refine (sameV_any A5 A6 c5 c6 _ _ _ I5.out I6.out (decL_max _) (decL_max _)).mono ?_
    rintro e w7 ⟨rfl, hb7⟩
    rw [decide_selfV]
    replace Ia := Lib.hid (Ia.out.below hb7)
    replace HT := Lib.hid (HT.out.below hb7)
    replace I5 := Lib.hid (I5.out.below hb7)
    replace I6 := Lib.hid (I6.out.below hb7)
    replace HB := Lib.hid (HB.out.trans (hb7.mono HB.out.size))
    clear hb7
    go_wp2_with fail
    refine (awake_any _ HT.out).mono ?_
    rintro e w8 ⟨rfl, hb8⟩
    replace Ia := Lib.hid (Ia.out.below hb8)
    replace HT := Lib.hid (HT.out.below hb8)
    replace I5 := Lib.hid (I5.out.below hb8)
    replace I6 := Lib.hid (I6.out.below hb8)
    replace HB := Lib.hid (HB.out.trans (hb8.mono HB.out.size))
    clear hb8
    go_wp2
    go_ret
    exact ⟨rfl, HB.out⟩

set_option maxHeartbeats 4000000 in
set_option maxRecDepth 100000 in
theorem lawBytes (Aa : Option Addr) (ca : Nat) (a : List Int) (s : ByteArray) (w : World) (ha : IntsAt w Aa a) (hT : Tab w) (ma : a.length ≤ maxLen) (hs : s.size ≤ maxLen) :
    Calls Tryd.prog 10 #[.slice Aa a.length ca, .string s] w fun e w' => e = .returned (.bool true) ∧ Below w.heap.size w w' := by
  have hsm := hs
  unfold maxLen at hs
  have Ia := Lib.hid ha
  clear ha
  have HT := Lib.hid hT
  clear hT
  have HB : Hid (Below w.heap.size w w) := Below.refl _ _
  go_enter Tryd.func10, Tryd.ntmps10
  have hms : ∀ n ∈ [a.length], n ≤ maxLen := (by simp only [List.mem_cons, List.not_mem_nil, or_false]; intro n hn; rcases hn with rfl <;> assumption)
  have HMS := Lib.hid hms
  clear hms
  go_wp2_with fail
  refine (great_any w.heap.size [a.length] _ (vecs_one w 23 Aa a.length ca) (by simp) HMS.out).mono ?_
  rintro e w0 ⟨rfl, rfl⟩
  replace Ia := Lib.hid (Ia.out.alloc (.cells #[.slice Aa a.length ca] 23))
  replace HT := Lib.hid (HT.out.alloc (.cells #[.slice Aa a.length ca] 23))
  replace HB := Lib.hid (HB.out.alloc (Nat.le_refl _) (.cells #[.slice Aa a.length ca] 23))
  generalize w.alloc (.cells #[.slice Aa a.length ca] 23) = W at Ia HT HB ⊢
  cases hg : ([a.length] : List Nat).any (40 < ·)
  case true =>
    clear hg
    go_wp2_with fail
    refine (awake_any _ HT.out).mono ?_
    rintro e w1 ⟨rfl, hb1⟩
    replace Ia := Lib.hid (Ia.out.below hb1)
    replace HT := Lib.hid (HT.out.below hb1)
    replace HB := Lib.hid (HB.out.trans (hb1.mono HB.out.size))
    clear hb1
    go_wp2
    go_ret
    exact ⟨rfl, HB.out⟩
  case false =>
    clear hg
    by_cases g2 : 200 < s.size
    ·
      go_wp2_with fail
      refine (awake_any _ HT.out).mono ?_
      rintro e w2 ⟨rfl, hb2⟩
      replace Ia := Lib.hid (Ia.out.below hb2)
      replace HT := Lib.hid (HT.out.below hb2)
      replace HB := Lib.hid (HB.out.trans (hb2.mono HB.out.size))
      clear hb2
      go_wp2
      go_ret
      exact ⟨rfl, HB.out⟩
    by_cases hc : chk a = 0
    ·
      have HE := Lib.hid (encode_any Aa ca a)
      rw [(enc_ok hc).1] at HE
      have HD := Lib.hid (decode_any (str (encL a)) (encL_len a hc))
      rw [str_list, (dec_enc hc).1, (dec_enc hc).2] at HD
      clear hc
      generalize str (encL a) = t at HE HD
      go_wp2_with fail
      refine (HE.out _ Ia.out ma).mono ?_
      rintro e w3 ⟨rfl, hb3⟩
      replace Ia := Lib.hid (Ia.out.below hb3)
      replace HT := Lib.hid (HT.out.below hb3)
      replace HB := Lib.hid (HB.out.trans (hb3.mono HB.out.size))
      clear hb3
      go_wp2_with fail
      refine (HD.out _).mono ?_
      rintro e w4 ⟨A4, c4, rfl, hi4, hb4⟩
      have I4 := Lib.hid hi4
      clear hi4
      replace Ia := Lib.hid (Ia.out.below hb4)
      replace HT := Lib.hid (HT.out.below hb4)
      replace HB := Lib.hid (HB.out.trans (hb4.mono HB.out.size))
      clear hb4
      go_wp2_with fail
      refine (sameV_any Aa A4 ca c4 _ _ _ Ia.out I4.out ma ma).mono ?_
      rintro e w5 ⟨rfl, hb5⟩
      rw [decide_selfV]
      replace Ia := Lib.hid (Ia.out.below hb5)
      replace HT := Lib.hid (HT.out.below hb5)
      replace I4 := Lib.hid (I4.out.below hb5)
      replace HB := Lib.hid (HB.out.trans (hb5.mono HB.out.size))
      clear hb5
      go_wp2_with fail
      refine (decode_any s hsm _).mono ?_
      rintro e w6 ⟨A6, c6, rfl, hi6, hb6⟩
      have I6 := Lib.hid hi6
      clear hi6
      replace Ia := Lib.hid (Ia.out.below hb6)
      replace HT := Lib.hid (HT.out.below hb6)
      replace I4 := Lib.hid (I4.out.below hb6)
      replace HB := Lib.hid (HB.out.trans (hb6.mono HB.out.size))
      clear hb6
      by_cases hd : decE s.data.toList = 0
      ·
        have hy := dec_yes hd
        have hm := decL_max s.data.toList
        have HE := Lib.hid (encode_any A6 c6 (decL s.data.toList))
        rw [hy.1, hy.2] at HE
        rw [hd]
        clear hd hy
        generalize decL s.data.toList = l at HE hm I6 ⊢
        have HM := Lib.hid hm
        clear hm
        go_wp2_with fail
        refine (HE.out _ I6.out HM.out).mono ?_
        rintro e w7 ⟨rfl, hb7⟩
        replace Ia := Lib.hid (Ia.out.below hb7)
        replace HT := Lib.hid (HT.out.below hb7)
        replace I4 := Lib.hid (I4.out.below hb7)
        replace I6 := Lib.hid (I6.out.below hb7)
        replace HB := Lib.hid (HB.out.trans (hb7.mono HB.out.size))
        clear hb7
        rw [str_self]
        go_wp2_with fail
        refine (awake_any _ HT.out).mono ?_
        rintro e w8 ⟨rfl, hb8⟩
        replace Ia := Lib.hid (Ia.out.below hb8)
        replace HT := Lib.hid (HT.out.below hb8)
        replace I4 := Lib.hid (I4.out.below hb8)
        replace I6 := Lib.hid (I6.out.below hb8)
        replace HB := Lib.hid (HB.out.trans (hb8.mono HB.out.size))
        clear hb8
        go_wp2
        go_ret
        exact ⟨rfl, HB.out⟩
      ·
        have hn := dec_no hd
        rw [hn.1, hn.2]
        clear hd hn
        go_wp2_with fail
        refine (awake_any _ HT.out).mono ?_
        rintro e w9 ⟨rfl, hb9⟩
        replace Ia := Lib.hid (Ia.out.below hb9)
        replace HT := Lib.hid (HT.out.below hb9)
        replace I4 := Lib.hid (I4.out.below hb9)
        replace I6 := Lib.hid (I6.out.below hb9)
        replace HB := Lib.hid (HB.out.trans (hb9.mono HB.out.size))
        clear hb9
        go_wp2
        go_ret
        exact ⟨rfl, HB.out⟩
    ·
      have HE := Lib.hid (encode_any Aa ca a)
      rw [(enc_no hc).1, (enc_no hc).2, show str [] = (⟨#[]⟩ : ByteArray) from rfl] at HE
      have HC := Lib.hid (check_any Aa ca a)
      generalize chk a = c at hc HE HC
      have cb : (c == 0) = false := by rw [beq_eq_false_iff_ne]; exact hc
      clear hc
      go_wp2_with fail
      refine (HE.out _ Ia.out ma).mono ?_
      rintro e w10 ⟨rfl, hb10⟩
      replace Ia := Lib.hid (Ia.out.below hb10)
      replace HT := Lib.hid (HT.out.below hb10)
      replace HB := Lib.hid (HB.out.trans (hb10.mono HB.out.size))
      clear hb10
      go_wp2_with fail
      refine (HC.out _ Ia.out ma).mono ?_
      rintro e w11 ⟨rfl, rfl⟩
      clear cb
      go_wp2_with fail
      refine (decode_any s hsm _).mono ?_
      rintro e w12 ⟨A12, c12, rfl, hi12, hb12⟩
      have I12 := Lib.hid hi12
      clear hi12
      replace Ia := Lib.hid (Ia.out.below hb12)
      replace HT := Lib.hid (HT.out.below hb12)
      replace HB := Lib.hid (HB.out.trans (hb12.mono HB.out.size))
      clear hb12
      by_cases hd : decE s.data.toList = 0
      ·
        have hy := dec_yes hd
        have hm := decL_max s.data.toList
        have HE := Lib.hid (encode_any A12 c12 (decL s.data.toList))
        rw [hy.1, hy.2] at HE
        rw [hd]
        clear hd hy
        generalize decL s.data.toList = l at HE hm I12 ⊢
        have HM := Lib.hid hm
        clear hm
        go_wp2_with fail
        refine (HE.out _ I12.out HM.out).mono ?_
        rintro e w13 ⟨rfl, hb13⟩
        replace Ia := Lib.hid (Ia.out.below hb13)
        replace HT := Lib.hid (HT.out.below hb13)
        replace I12 := Lib.hid (I12.out.below hb13)
        replace HB := Lib.hid (HB.out.trans (hb13.mono HB.out.size))
        clear hb13
        rw [str_self]
        go_wp2_with fail
        refine (awake_any _ HT.out).mono ?_
        rintro e w14 ⟨rfl, hb14⟩
        replace Ia := Lib.hid (Ia.out.below hb14)
        replace HT := Lib.hid (HT.out.below hb14)
        replace I12 := Lib.hid (I12.out.below hb14)
        replace HB := Lib.hid (HB.out.trans (hb14.mono HB.out.size))
        clear hb14
        go_wp2
        go_ret
        exact ⟨rfl, HB.out⟩
      ·
        have hn := dec_no hd
        rw [hn.1, hn.2]
        clear hd hn
        go_wp2_with fail
        refine (awake_any _ HT.out).mono ?_
        rintro e w15 ⟨rfl, hb15⟩
        replace Ia := Lib.hid (Ia.out.below hb15)
        replace HT := Lib.hid (HT.out.below hb15)
        replace I12 := Lib.hid (I12.out.below hb15)
        replace HB := Lib.hid (HB.out.trans (hb15.mono HB.out.size))
        clear hb15
        go_wp2
        go_ret
        exact ⟨rfl, HB.out⟩
end Go.Proofs.YtolohghpiccbaaaDoor
