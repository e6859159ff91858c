/- The law CrcOpens, walked. Condition: lengths below the model's greatest. -/
import Derived.Test.YtlknjdfiedkhbaaCrcOpen
namespace Go.Proofs.Ytlknjdfiedkhbaa
open Go Go.RowKit
open Crc (upd sum bytes4)

theorem seal_parts {S : List UInt8} (h : S.length ≤ 65536) : sealL S = Vi.intL S.length ++ S ++ bytes4 (sum (Vi.intL S.length ++ S)) ∧ sealE S = 0 := by
  unfold sealL sealE Vi.textL
  simp only [if_pos h]
  exact ⟨trivial, trivial⟩
theorem open_seal (S R : List UInt8) (h : S.length ≤ 65536) : openR (sealL S ++ R) = (S, (sealL S).length, 0) := by
  rw [(seal_parts h).1]
  have hr := Vi.rd_enc (S.length : Int) (S ++ bytes4 (sum (Vi.intL S.length ++ S)) ++ R) (Vi.small_inR _ h)
  generalize hI : Vi.intL (S.length : Int) = I at hr ⊢
  have hB : (bytes4 (sum (I ++ S))).length = 4 := rfl
  generalize hBB : bytes4 (sum (I ++ S)) = B at hr hB ⊢
  have e : I ++ S ++ B ++ R = I ++ (S ++ B ++ R) := by simp
  rw [e]
  have t1 : (I ++ (S ++ B ++ R)).take (I.length + S.length) = I ++ S := by
    rw [← e, List.append_assoc (I ++ S), ← List.length_append, List.take_left]
  have t2 : ((I ++ (S ++ B ++ R)).drop (I.length + S.length)).take 4 = B := by
    rw [← e, List.append_assoc (I ++ S), ← List.length_append, List.drop_left, ← hB, List.take_left]
  have t3 : ((I ++ (S ++ B ++ R)).drop I.length).take S.length = S := by
    rw [List.drop_left, List.append_assoc, List.take_left]
  rw [open_e hr h (by simp; omega) (by rw [t1, t2, hBB]), t3]
  simp [hB]
  omega
theorem open_canon {l x : List UInt8} {k : Nat} (h : openR l = (x, k, 0)) : x.length ≤ 65536 ∧ k ≤ l.length ∧ sealL x = l.take k := by
  unfold openR at h
  split at h
  · rename_i h0
    split at h
    · rename_i hn
      obtain ⟨_, _, r3, r4, _⟩ := Vi.rd_range l h0
      obtain ⟨m, hm⟩ := Int.eq_ofNat_of_zero_le hn.1
      rw [hm] at h r4 hn
      generalize (Vi.rd l).2.1 = q at h r3 r4
      rw [Int.toNat_natCast] at h
      split at h
      · simp only [Prod.mk.injEq] at h; exact absurd h.2.2 (by decide)
      · rename_i hl
        split at h
        · rename_i hb
          simp only [Prod.mk.injEq] at h
          obtain ⟨rfl, rfl, _⟩ := h
          have hx : ((l.drop q).take m).length = m := by rw [List.length_take, List.length_drop]; omega
          refine ⟨by omega, by omega, ?_⟩
          have e : Vi.intL (m : Int) ++ (l.drop q).take m = l.take (q + m) := by rw [r4, List.take_add]
          rw [(seal_parts (by omega)).1, hx, e, hb, ← List.take_add]
        · simp only [Prod.mk.injEq] at h; exact absurd h.2.2 (by decide)
    · simp only [Prod.mk.injEq] at h; exact absurd h.2.2 (by decide)
  · rename_i h0
    simp only [Prod.mk.injEq] at h; exact absurd h.2.2 h0
theorem open_no {l x : List UInt8} {k : Nat} {e : Int} (h : openR l = (x, k, e)) (he : e ≠ 0) : x = [] ∧ k = 0 := by
  unfold openR at h
  split at h
  · split at h
    · split at h
      · simp only [Prod.mk.injEq] at h; exact ⟨h.1.symm, h.2.1.symm⟩
      · split at h
        · simp only [Prod.mk.injEq] at h; exact absurd h.2.2.symm he
        · simp only [Prod.mk.injEq] at h; exact ⟨h.1.symm, h.2.1.symm⟩
    · simp only [Prod.mk.injEq] at h; exact ⟨h.1.symm, h.2.1.symm⟩
  · simp only [Prod.mk.injEq] at h; exact ⟨h.1.symm, h.2.1.symm⟩
theorem seal_len {S : List UInt8} (h : S.length ≤ 65536) : (sealL S).length ≤ S.length + 13 := by
  rw [(seal_parts h).1]
  have := Vi.intL_len9 S.length
  simp [bytes4]
  omega
theorem cat_list (l : List UInt8) (r : ByteArray) : (str l ++ r).data.toList = l ++ r.data.toList := by rw [str_app, str_list]
theorem cat_size (l : List UInt8) (r : ByteArray) : (str l ++ r).size = l.length + r.size := by rw [str_app, str_size, List.length_append]; simp
theorem seal_ok (s : ByteArray) (hs : s.size ≤ 65536) (w : World) :
    Calls Try.prog 36 #[.string s] w fun e w' => e = .returned (.tuple #[.string (str (sealL s.data.toList)), .int .i64 0]) ∧ Below w.heap.size w w' := by
  have := seal_any s (by unfold maxLen; omega) w
  rwa [(seal_parts (S := s.data.toList) (by simp; omega)).2] at this
theorem back_open (s r : ByteArray) (hs : s.size ≤ 300) (hr : r.size ≤ 300) (w : World) :
    Calls Try.prog 59 #[.string (str (sealL s.data.toList) ++ r)] w fun e w' => e = .returned (.tuple #[.string s, .int .i64 ((sealL s.data.toList).length : Int), .int .i64 0]) ∧ Below w.heap.size w w' := by
  have hl : s.data.toList.length = s.size := by simp
  have h1 := seal_len (S := s.data.toList) (by omega)
  refine (open_any (str (sealL s.data.toList) ++ r) (by rw [cat_size]; unfold maxLen; omega) w).mono ?_
  rintro e w' ⟨he, hb⟩
  rw [cat_list, open_seal _ _ (by omega)] at he
  exact ⟨he, hb⟩
theorem again_any {s : ByteArray} {x : List UInt8} {k : Nat} (h : openR s.data.toList = (x, k, 0)) (w : World) :
    Calls Try.prog 36 #[.string (str x)] w fun e w' => e = .returned (.tuple #[.string (s.extract 0 k), .int .i64 0]) ∧ Below w.heap.size w w' := by
  obtain ⟨h1, _, h3⟩ := open_canon h
  have := seal_ok (str x) (by rw [str_size]; exact h1) w
  rw [str_list, h3] at this
  rwa [show str (s.data.toList.take k) = s.extract 0 k by rw [ex_str, List.drop_zero, Nat.sub_zero]] at this

end Go.Proofs.Ytlknjdfiedkhbaa
