/- The law CrcOpens, walked. Condition: lengths below the model's greatest. -/
import Derived.Test.YtjfbmaeapokgaaaCrcOpen
namespace Go.Proofs.Ytjfbmaeapokgaaa
open Go Go.RowKit
open Crc (upd sum bytes4)

theorem seal_parts {S : List UInt8} (h : S.length ≤ 65536) : sealL S = Vi.intL S.length ++ S ++ bytes4 (sum (Vi.intL S.length ++ S)) ∧ sealE S = 0 := by
  unfold sealL sealE Vi.textL
  simp only [if_pos h]
  exact ⟨trivial, trivial⟩
theorem open_seal (S R : List UInt8) (h : S.length ≤ 65536) : openR (sealL S ++ R) = (S, (sealL S).length, 0) := by
  rw [(seal_parts h).1]
  have hr := Vi.rd_enc (S.length : Int) (S ++ bytes4 (sum (Vi.intL S.length ++ S)) ++ R) (Vi.small_inR _ h)
  generalize hI : Vi.intL (S.length : Int) = I at hr ⊢
  have hB : (bytes4 (sum (I ++ S))).length = 4 := rfl
  generalize hBB : bytes4 (sum (I ++ S)) = B at hr hB ⊢
  have e : I ++ S ++ B ++ R = I ++ (S ++ B ++ R) := by simp
  rw [e]
  have t1 : (I ++ (S ++ B ++ R)).take (I.length + S.length) = I ++ S := by
    rw [← e, List.append_assoc (I ++ S), ← List.length_append, List.take_left]
  have t2 : ((I ++ (S ++ B ++ R)).drop (I.length + S.length)).take 4 = B := by
    rw [← e, List.append_assoc (I ++ S), ← List.length_append, List.drop_left, ← hB, List.take_left]
  have t3 : ((I ++ (S ++ B ++ R)).drop I.length).take S.length = S := by
    rw [List.drop_left, List.append_assoc, List.take_left]
  rw [open_e hr h (by simp; omega) (by rw [t1, t2, hBB]), t3]
  simp [hB]
  omega
theorem open_canon {l x : List UInt8} {k : Nat} (h : openR l = (x, k, 0)) : x.length ≤ 65536 ∧ k ≤ l.length ∧ sealL x = l.take k := by
  unfold openR at h
  split at h
  · rename_i h0
    split at h
    · rename_i hn
      obtain ⟨_, _, r3, r4, _⟩ := Vi.rd_range l h0
      obtain ⟨m, hm⟩ := Int.eq_ofNat_of_zero_le hn.1
      rw [hm] at h r4 hn
      generalize (Vi.rd l).2.1 = q at h r3 r4
      rw [Int.toNat_natCast] at h
      split at h
      · simp only [Prod.mk.injEq] at h; exact absurd h.2.2 (by decide)
      · rename_i hl
        split at h
        · rename_i hb
          simp only [Prod.mk.injEq] at h
          obtain ⟨rfl, rfl, _⟩ := h
          have hx : ((l.drop q).take m).length = m := by rw [List.length_take, List.length_drop]; omega
          refine ⟨by omega, by omega, ?_⟩
          have e : Vi.intL (m : Int) ++ (l.drop q).take m = l.take (q + m) := by rw [r4, List.take_add]
          rw [(seal_parts (by omega)).1, hx, e, hb, ← List.take_add]
        · simp only [Prod.mk.injEq] at h; exact absurd h.2.2 (by decide)
    · simp only [Prod.mk.injEq] at h; exact absurd h.2.2 (by decide)
  · rename_i h0
    simp only [Prod.mk.injEq] at h; exact absurd h.2.2 h0
theorem open_no {l x : List UInt8} {k : Nat} {e : Int} (h : openR l = (x, k, e)) (he : e ≠ 0) : x = [] ∧ k = 0 := by
  unfold openR at h
  split at h
  · split at h
    · split at h
      · simp only [Prod.mk.injEq] at h; exact ⟨h.1.symm, h.2.1.symm⟩
      · split at h
        · simp only [Prod.mk.injEq] at h; exact absurd h.2.2.symm he
        · simp only [Prod.mk.injEq] at h; exact ⟨h.1.symm, h.2.1.symm⟩
    · simp only [Prod.mk.injEq] at h; exact ⟨h.1.symm, h.2.1.symm⟩
  · simp only [Prod.mk.injEq] at h; exact ⟨h.1.symm, h.2.1.symm⟩
theorem seal_len {S : List UInt8} (h : S.length ≤ 65536) : (sealL S).length ≤ S.length + 13 := by
  rw [(seal_parts h).1]
  have := Vi.intL_len9 S.length
  simp [bytes4]
  omega
theorem cat_list (l : List UInt8) (r : ByteArray) : (str l ++ r).data.toList = l ++ r.data.toList := by rw [str_app, str_list]
theorem cat_size (l : List UInt8) (r : ByteArray) : (str l ++ r).size = l.length + r.size := by rw [str_app, str_size, List.length_append]; simp
theorem seal_ok (s : ByteArray) (hs : s.size ≤ 65536) (w : World) :
    Calls Try.prog 20 #[.string s] w fun e w' => e = .returned (.tuple #[.string (str (sealL s.data.toList)), .int .i64 0]) ∧ Below w.heap.size w w' := by
  have := seal_any s (by unfold maxLen; omega) w
  rwa [(seal_parts (S := s.data.toList) (by simp; omega)).2] at this
theorem back_open (s r : ByteArray) (hs : s.size ≤ 300) (hr : r.size ≤ 300) (w : World) :
    Calls Try.prog 22 #[.string (str (sealL s.data.toList) ++ r)] w fun e w' => e = .returned (.tuple #[.string s, .int .i64 ((sealL s.data.toList).length : Int), .int .i64 0]) ∧ Below w.heap.size w w' := by
  have hl : s.data.toList.length = s.size := by simp
  have h1 := seal_len (S := s.data.toList) (by omega)
  refine (open_any (str (sealL s.data.toList) ++ r) (by rw [cat_size]; unfold maxLen; omega) w).mono ?_
  rintro e w' ⟨he, hb⟩
  rw [cat_list, open_seal _ _ (by omega)] at he
  exact ⟨he, hb⟩
theorem again_any {s : ByteArray} {x : List UInt8} {k : Nat} (h : openR s.data.toList = (x, k, 0)) (w : World) :
    Calls Try.prog 20 #[.string (str x)] w fun e w' => e = .returned (.tuple #[.string (s.extract 0 k), .int .i64 0]) ∧ Below w.heap.size w w' := by
  obtain ⟨h1, _, h3⟩ := open_canon h
  have := seal_ok (str x) (by rw [str_size]; exact h1) w
  rw [str_list, h3] at this
  rwa [show str (s.data.toList.take k) = s.extract 0 k by rw [ex_str, List.drop_zero, Nat.sub_zero]] at this

set_option maxHeartbeats 4000000 in
set_option maxRecDepth 100000 in
theorem lawOpens (s r : ByteArray) (hs : s.size ≤ maxLen) (hr : r.size ≤ maxLen) (w : World) :
    Calls Try.prog 8 #[.string s, .string r] w fun e w' => e = .returned (.bool true) ∧ Below w.heap.size w w' := by
  have hrm := hr
  unfold maxLen at hs hr
  have HB : Hid (Below w.heap.size w w) := Below.refl _ _
  go_enter Try.func8, Try.ntmps8
  by_cases g1 : 300 < s.size
  · go_wp2_with fail
    refine (awake_any _).mono ?_
    rintro e w1 ⟨rfl, hb1⟩
    replace HB := Lib.hid (HB.out.trans (hb1.mono HB.out.size))
    clear hb1
    go_wp2
    go_ret
    exact ⟨rfl, HB.out⟩
  by_cases g2 : 300 < r.size
  · go_wp2_with fail
    refine (awake_any _).mono ?_
    rintro e w1 ⟨rfl, hb1⟩
    replace HB := Lib.hid (HB.out.trans (hb1.mono HB.out.size))
    clear hb1
    go_wp2
    go_ret
    exact ⟨rfl, HB.out⟩
  have hl : s.data.toList.length = s.size := by simp
  have hrl : r.data.toList.length = r.size := by simp
  have h1 := seal_len (S := s.data.toList) (by omega)
  rw [hl] at h1
  have hf := str_size (sealL s.data.toList)
  have HS := Lib.hid (seal_ok s (by omega))
  have HO := Lib.hid (back_open s r (by omega) (by omega))
  generalize (sealL s.data.toList).length = f at h1 hf HO
  generalize str (sealL s.data.toList) = F at hf HS HO
  have r2 := fun w => open_any r hrm w
  unfold RetOpen at r2
  obtain ⟨x, k, er, h2⟩ : ∃ n k e, openR r.data.toList = (n, k, e) := ⟨_, _, _, rfl⟩
  simp only [h2] at r2
  have R2 := Lib.hid r2
  have H2 := Lib.hid h2
  clear r2 h2
  go_wp2_with fail
  refine (HS.out _).mono ?_
  rintro e w1 ⟨rfl, hb1⟩
  replace HB := Lib.hid (HB.out.trans (hb1.mono HB.out.size))
  clear hb1
  go_wp2_with fail
  refine (HO.out _).mono ?_
  rintro e w2 ⟨rfl, hb2⟩
  replace HB := Lib.hid (HB.out.trans (hb2.mono HB.out.size))
  clear hb2
  go_wp2_with fail
  refine (R2.out _).mono ?_
  rintro e w3 ⟨rfl, hb3⟩
  replace HB := Lib.hid (HB.out.trans (hb3.mono HB.out.size))
  clear hb3
  by_cases z : er = 0
  · subst z
    have q1 := (open_canon H2.out).2.1
    rw [hrl] at q1
    go_wp2_with fail
    refine (again_any H2.out _).mono ?_
    rintro e w4 ⟨rfl, hb4⟩
    replace HB := Lib.hid (HB.out.trans (hb4.mono HB.out.size))
    clear hb4
    go_wp2_with fail
    refine (awake_any _).mono ?_
    rintro e w5 ⟨rfl, hb5⟩
    replace HB := Lib.hid (HB.out.trans (hb5.mono HB.out.size))
    clear hb5
    go_wp2
    go_ret
    exact ⟨rfl, HB.out⟩
  · obtain ⟨rfl, rfl⟩ := open_no H2.out z
    have zb : (er != 0) = true := by rw [bne_iff_ne]; exact z
    clear z
    rw [show str [] = ⟨#[]⟩ from rfl]
    go_wp2_with fail
    refine (awake_any _).mono ?_
    rintro e w5 ⟨rfl, hb5⟩
    replace HB := Lib.hid (HB.out.trans (hb5.mono HB.out.size))
    clear hb5
    go_wp2
    go_ret
    exact ⟨rfl, HB.out⟩
end Go.Proofs.Ytjfbmaeapokgaaa
