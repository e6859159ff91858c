/- Encode and Decode of the program and of the reference, walked; and what they compute. Conditions: the lists lie in memory; lengths below the model's greatest. -/
import Derived.Test.YtolohghpiccbaaaDoorVerLeaf
import Derived.Test.YtolohghpiccbaaaDoorVerPair
import Derived.Test.YtolohghpiccbaaaDoorViText
import Derived.Test.YtolohghpiccbaaaDoorViListR
namespace Go.Proofs.YtolohghpiccbaaaDoor
open Go Go.RowKit
open Ver (at' chk okn)

theorem rints_len : ∀ (c : Nat) (l : List UInt8) (p : Nat) (acc : List Int), (Vi.rints c l p acc).1.length ≤ acc.length + c
  | 0, _, _, _ => by simp [Vi.rints]
  | c + 1, l, p, acc => by
    unfold Vi.rints
    split
    · have := rints_len c l (p + (Vi.rd (l.drop p)).2.1) (acc ++ [(Vi.rd (l.drop p)).1])
      simp at this ⊢
      omega
    · simp
theorem rlist_len (l : List UInt8) : (Vi.rlist l).1.length ≤ 65536 := by
  unfold Vi.rlist
  split
  · rename_i h
    have := rints_len (Vi.rlen l).1.toNat l (Vi.rlen l).2.1 []
    have := (rlen_bounds h).2.1
    simp at *
    omega
  · simp
theorem rlist_max (l : List UInt8) : (Vi.rlist l).1.length ≤ maxLen := Nat.le_trans (rlist_len l) (by decide)
/-- what Encode answers -/
def encE (v : List Int) : Int := if chk v = 0 then Vi.listE v else chk v
def encL (v : List Int) : List UInt8 := if chk v = 0 then Vi.listL v else []
/-- what Decode answers -/
def decOk (l : List UInt8) : Prop := (Vi.rlist l).2.2 = 0 ∧ (Vi.rlist l).2.1 = l.length ∧ chk (Vi.rlist l).1 = 0
instance (l : List UInt8) : Decidable (decOk l) := by unfold decOk; infer_instance
def decL (l : List UInt8) : List Int := if decOk l then (Vi.rlist l).1 else []
def decE (l : List UInt8) : Int := if decOk l then 0 else 11

theorem chk_inR {v : List Int} (h : chk v = 0) : Vi.listE v = 0 := by
  obtain ⟨h1, h2, h3, h4⟩ := (Ver.chk_iff v).1 h
  unfold Vi.listE
  rw [if_pos (by omega), if_pos]
  rw [List.all_eq_true]
  intro x hx
  obtain ⟨j, hj, rfl⟩ := List.getElem_of_mem hx
  have := h4 j hj
  unfold Ver.at' Ver.top at this
  rw [List.getElem?_eq_getElem hj] at this
  simp only [Option.getD_some] at this
  unfold Vi.inR
  rw [Bool.and_eq_true, decide_eq_true_eq, decide_eq_true_eq]
  unfold Vi.big
  omega
theorem enc_ok {v : List Int} (h : chk v = 0) : encE v = 0 ∧ encL v = Vi.listL v := by unfold encE encL; rw [if_pos h, if_pos h]; exact ⟨chk_inR h, rfl⟩
theorem enc_no {v : List Int} (h : chk v ≠ 0) : encE v = chk v ∧ encL v = [] := by unfold encE encL; rw [if_neg h, if_neg h]; exact ⟨rfl, rfl⟩
theorem enc_zero {v : List Int} (h : encE v = 0) : chk v = 0 := by
  by_cases c : chk v = 0
  · exact c
  · rw [(enc_no c).1] at h; exact h
theorem dec_enc {v : List Int} (h : chk v = 0) : decE (encL v) = 0 ∧ decL (encL v) = v := by
  have h1 := chk_inR h
  have h2 := Vi.rlist_enc v [] h1
  rw [List.append_nil] at h2
  have h3 : decOk (Vi.listL v) := by unfold decOk; rw [h2]; exact ⟨rfl, rfl, h⟩
  rw [(enc_ok h).2]
  unfold decE decL
  rw [if_pos h3, if_pos h3, h2]
  exact ⟨rfl, rfl⟩
theorem dec_yes {l : List UInt8} (h : decE l = 0) : encE (decL l) = 0 ∧ encL (decL l) = l := by
  have h1 : decOk l := by
    unfold decE at h
    by_cases c : decOk l
    · exact c
    · rw [if_neg c] at h; exact absurd h (by decide)
  have e : decL l = (Vi.rlist l).1 := by unfold decL; rw [if_pos h1]
  obtain ⟨a, b, c⟩ := h1
  generalize hr : Vi.rlist l = r at a b c e
  obtain ⟨x, k, er⟩ := r
  simp only at a b c e
  subst a
  have h2 := Vi.rlist_canon hr
  rw [e, (enc_ok c).2]
  exact ⟨(enc_ok c).1, by rw [h2.2.2.2.1, b, List.take_length]⟩
theorem dec_no {l : List UInt8} (h : decE l ≠ 0) : decE l = 11 ∧ decL l = [] := by
  unfold decE at h ⊢
  unfold decL
  by_cases c : decOk l
  · rw [if_pos c] at h; exact absurd rfl h
  · rw [if_neg c, if_neg c]; exact ⟨rfl, rfl⟩
theorem decL_len (l : List UInt8) : (decL l).length ≤ 16 := by
  unfold decL
  by_cases c : decOk l
  · rw [if_pos c]
    have := ((Ver.chk_iff _).1 c.2.2).2.2.1
    exact this
  · rw [if_neg c]; exact Nat.zero_le _

set_option maxHeartbeats 1000000 in
theorem encode_any (A : Option Addr) (cA : Nat) (v : List Int) (w : World) (hA : IntsAt w A v) (ha : v.length ≤ maxLen) :
    Calls Tryd.prog 31 #[.slice A v.length cA] w fun e w' => e = .returned (.tuple #[.string (str (encL v)), .int .i64 (encE v)]) ∧ Below w.heap.size w w' := by
  have HA := Lib.hid hA
  clear hA
  have HL := Lib.hid (list_any A cA v)
  have HC := Lib.hid (check_any A cA v)
  by_cases h : chk v = 0
  · have HE := Lib.hid (enc_ok h)
    have HZ := Lib.hid (chk_inR h)
    rw [h] at HC
    clear h
    go_enter Tryd.func31, Tryd.ntmps31
    go_wp2_with fail
    refine (HC.out _ HA.out ha).mono ?_
    rintro e w1 ⟨rfl, rfl⟩
    go_wp2_with fail
    refine (HL.out _ HA.out ha).mono ?_
    rintro e w1 ⟨rfl, hb⟩
    rw [HZ.out]
    go_wp2
    go_ret2
    exact ⟨two_e (by rw [HE.out.2]) HE.out.1.symm, hb⟩
  · have HE := Lib.hid (enc_no h)
    generalize chk v = c at h HC HE
    have hb1 : (c != 0) = true := by rw [bne_iff_ne]; exact h
    clear h
    go_enter Tryd.func31, Tryd.ntmps31
    go_wp2_with fail
    refine (HC.out _ HA.out ha).mono ?_
    rintro e w1 ⟨rfl, rfl⟩
    go_wp2
    go_ret2
    exact ⟨two_e (by rw [HE.out.2]; rfl) HE.out.1.symm, Below.refl _ _⟩

set_option maxHeartbeats 1000000 in
theorem encodeR_any (A : Option Addr) (cA : Nat) (v : List Int) (w : World) (hA : IntsAt w A v) (ha : v.length ≤ maxLen) :
    Calls Tryd.prog 32 #[.slice A v.length cA] w fun e w' => e = .returned (.tuple #[.string (str (encL v)), .int .i64 (encE v)]) ∧ Below w.heap.size w w' := by
  have HA := Lib.hid hA
  clear hA
  have HL := Lib.hid (listR_any A cA v)
  have HC := Lib.hid (checkR_any A cA v)
  by_cases h : chk v = 0
  · have HE := Lib.hid (enc_ok h)
    have HZ := Lib.hid (chk_inR h)
    rw [h] at HC
    clear h
    go_enter Tryd.func32, Tryd.ntmps32
    go_wp2_with fail
    refine (HC.out _ HA.out ha).mono ?_
    rintro e w1 ⟨rfl, rfl⟩
    go_wp2_with fail
    refine (HL.out _ HA.out ha).mono ?_
    rintro e w1 ⟨rfl, hb⟩
    rw [HZ.out]
    go_wp2
    go_ret2
    exact ⟨two_e (by rw [HE.out.2]) HE.out.1.symm, hb⟩
  · have HE := Lib.hid (enc_no h)
    generalize chk v = c at h HC HE
    have hb1 : (c != 0) = true := by rw [bne_iff_ne]; exact h
    clear h
    go_enter Tryd.func32, Tryd.ntmps32
    go_wp2_with fail
    refine (HC.out _ HA.out ha).mono ?_
    rintro e w1 ⟨rfl, rfl⟩
    go_wp2
    go_ret2
    exact ⟨two_e (by rw [HE.out.2]; rfl) HE.out.1.symm, Below.refl _ _⟩

theorem retDec_yes {w w' : World} {l : List UInt8} {x : List Int} {k : Nat} {er : Int} (h : Vi.rlist l = (x, k, er)) (he : er = 0) (hk : k = l.length) (hc : chk x = 0) {A : Option Addr} {n c : Nat} (hn : n = x.length) (hA : IntsAt w' A x) (hB : Below w.heap.size w w') :
    RetVec w (decL l) (decE l) (.returned (.tuple #[.slice A n c, .int .i64 0])) w' := by
  have hd : decOk l := by unfold decOk; rw [h]; exact ⟨he, hk, hc⟩
  unfold RetVec decL decE
  rw [if_pos hd, if_pos hd, h, hn]
  exact ⟨A, c, rfl, hA, hB⟩
theorem retDec_no {w w' : World} {l : List UInt8} {x : List Int} {k : Nat} {er : Int} (h : Vi.rlist l = (x, k, er)) (hno : ¬ (er = 0 ∧ k = l.length ∧ chk x = 0)) {A : Option Addr} {c : Nat} (hB : Below w.heap.size w w') :
    RetVec w (decL l) (decE l) (.returned (.tuple #[.slice A 0 c, .int .i64 11])) w' := by
  have hd : ¬ decOk l := by unfold decOk; rw [h]; exact hno
  unfold RetVec decL decE
  rw [if_neg hd, if_neg hd]
  exact ⟨A, c, rfl, IntsAt.nil _ _, hB⟩

set_option maxHeartbeats 2000000 in
set_option maxRecDepth 100000 in
theorem decode_any (s : ByteArray) (hs : s.size ≤ maxLen) (w : World) :
    Calls Tryd.prog 33 #[.string s] w (RetVec w (decL s.data.toList) (decE s.data.toList)) := by
  have hsm := hs
  unfold maxLen at hs
  have hsl : s.data.toList.length = s.size := by simp
  have r3 := fun w => readList_any s hsm w
  unfold RetList at r3
  obtain ⟨l, k, er, h3⟩ : ∃ n k e, Vi.rlist s.data.toList = (n, k, e) := ⟨_, _, _, rfl⟩
  have hmax := rlist_max s.data.toList
  rw [h3] at hmax
  simp only [h3] at r3
  have R3 := Lib.hid r3
  have H3 := Lib.hid h3
  have HM := Lib.hid hmax
  have HSL := Lib.hid hsl
  clear r3 h3 hmax hsl
  go_enter Tryd.func33, Tryd.ntmps33
  go_wp2_with fail
  refine (R3.out _).mono ?_
  rintro e w1 ⟨A1, c1, rfl, hi1, hb1⟩
  have I1 := Lib.hid hi1
  have HB := Lib.hid hb1
  clear hi1 hb1
  by_cases z3 : er = 0
  · subst z3
    by_cases hk : k = s.size
    · have hkb : ((k : Int) != (s.size : Int)) = false := by rw [bne_eq_false_iff_eq, hk]
      have HK := Lib.hid hk
      clear hk
      have HC := Lib.hid (check_any A1 c1 l w1 I1.out HM.out)
      by_cases hc : chk l = 0
      · have HCC := Lib.hid hc
        rw [hc] at HC
        clear hc
        go_wp2_with fail
        refine HC.out.mono ?_
        rintro e w2 ⟨rfl, rfl⟩
        go_wp2
        go_ret2
        exact retDec_yes H3.out rfl (by rw [HSL.out, HK.out]) HCC.out rfl I1.out HB.out
      · have HCC := Lib.hid hc
        generalize hcl : chk l = c at hc HC
        clear hcl
        have hb1 : (c != 0) = true := by rw [bne_iff_ne]; exact hc
        clear hc
        go_wp2_with fail
        refine HC.out.mono ?_
        rintro e w2 ⟨rfl, rfl⟩
        go_wp2
        go_ret2
        exact retDec_no H3.out (fun h => HCC.out h.2.2) (HB.out)
    · have hkb : ((k : Int) != (s.size : Int)) = true := by rw [bne_iff_ne]; omega
      have HK := Lib.hid hk
      clear hk
      go_wp2
      go_ret2
      exact retDec_no H3.out (fun h => HK.out (h.2.1.trans HSL.out)) (HB.out)
  · have zb : (er != 0) = true := by rw [bne_iff_ne]; exact z3
    have HZ := Lib.hid z3
    clear z3
    go_wp2
    go_ret2
    exact retDec_no H3.out (fun h => HZ.out h.1) (HB.out)

set_option maxHeartbeats 2000000 in
set_option maxRecDepth 100000 in
theorem decodeR_any (s : ByteArray) (hs : s.size ≤ maxLen) (w : World) :
    Calls Tryd.prog 34 #[.string s] w (RetVec w (decL s.data.toList) (decE s.data.toList)) := by
  have hsm := hs
  unfold maxLen at hs
  have hsl : s.data.toList.length = s.size := by simp
  have r3 := fun w => readListR_any s hsm w
  unfold RetList at r3
  obtain ⟨l, k, er, h3⟩ : ∃ n k e, Vi.rlist s.data.toList = (n, k, e) := ⟨_, _, _, rfl⟩
  have hmax := rlist_max s.data.toList
  rw [h3] at hmax
  simp only [h3] at r3
  have R3 := Lib.hid r3
  have H3 := Lib.hid h3
  have HM := Lib.hid hmax
  have HSL := Lib.hid hsl
  clear r3 h3 hmax hsl
  go_enter Tryd.func34, Tryd.ntmps34
  go_wp2_with fail
  refine (R3.out _).mono ?_
  rintro e w1 ⟨A1, c1, rfl, hi1, hb1⟩
  have I1 := Lib.hid hi1
  have HB := Lib.hid hb1
  clear hi1 hb1
  by_cases z3 : er = 0
  · subst z3
    by_cases hk : k = s.size
    · have hkb : ((k : Int) != (s.size : Int)) = false := by rw [bne_eq_false_iff_eq, hk]
      have HK := Lib.hid hk
      clear hk
      have HC := Lib.hid (checkR_any A1 c1 l w1 I1.out HM.out)
      by_cases hc : chk l = 0
      · have HCC := Lib.hid hc
        rw [hc] at HC
        clear hc
        go_wp2_with fail
        refine HC.out.mono ?_
        rintro e w2 ⟨rfl, rfl⟩
        go_wp2
        go_ret2
        exact retDec_yes H3.out rfl (by rw [HSL.out, HK.out]) HCC.out rfl I1.out HB.out
      · have HCC := Lib.hid hc
        generalize hcl : chk l = c at hc HC
        clear hcl
        have hb1 : (c != 0) = true := by rw [bne_iff_ne]; exact hc
        clear hc
        go_wp2_with fail
        refine HC.out.mono ?_
        rintro e w2 ⟨rfl, rfl⟩
        go_wp2
        go_ret2
        exact retDec_no H3.out (fun h => HCC.out h.2.2) (HB.out.alloc HB.out.size _)
    · have hkb : ((k : Int) != (s.size : Int)) = true := by rw [bne_iff_ne]; omega
      have HK := Lib.hid hk
      clear hk
      go_wp2
      go_ret2
      exact retDec_no H3.out (fun h => HK.out (h.2.1.trans HSL.out)) (HB.out.alloc HB.out.size _)
  · have zb : (er != 0) = true := by rw [bne_iff_ne]; exact z3
    have HZ := Lib.hid z3
    clear z3
    go_wp2
    go_ret2
    exact retDec_no H3.out (fun h => HZ.out h.1) (HB.out.alloc HB.out.size _)
end Go.Proofs.YtolohghpiccbaaaDoor
