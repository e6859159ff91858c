/- The hash of the reference: walked. Condition: a key of 16 bytes, a string of at most 100000. -/
import Derived.Test.YtdjpidniakedpaaKhAbsorbR
import Derived.StillTailTactics
namespace Go.Proofs.Ytdjpidniakedpaa
open Go Go.RowKit

/-- the state behind the first k words -/
def stK (key t : List UInt8) (k : Nat) : Kh.St := ((Kh.whole t).take k).foldl Kh.absorb (Kh.start key)
theorem stK_zero (key t : List UInt8) : stK key t 0 = Kh.start key := rfl
theorem stK_succ (key t : List UInt8) (k : Nat) (h : k < t.length / 8) : stK key t (k + 1) = Kh.absorb (stK key t k) (Kh.word t (8 * k)) := by
  have hl : k < (Kh.whole t).length := by simpa [Kh.whole] using h
  unfold stK
  rw [List.take_succ_eq_append_getElem hl, List.foldl_append]
  simp [Kh.whole]
theorem stK_all (key t : List UInt8) : Kh.tag key t = Kh.finish (Kh.absorb (stK key t (t.length / 8)) (Kh.last t)) := by
  unfold Kh.tag Kh.words stK
  rw [List.foldl_append, List.take_of_length_le (by simp [Kh.whole])]; rfl

theorem wordR_still (s : ByteArray) (i : Int) (h0 : 0 ≤ i) (hi : i ≤ 1000000) (hs : s.size ≤ 1000000) (w : World) :
    Calls Try.prog 38 #[.string s, .int .i64 i] w fun e w' => e = .returned (.int .u64 ((Kh.word s.data.toList i.toNat : Nat) : Int)) ∧ w' = w := (wordR_any s i h0 hi hs w).mono fun _ _ ⟨h, h'⟩ => ⟨h, h'.symm⟩
theorem xor_lit (n : Nat) (a : Nat) : bits .xor .u64 (a : Int) (n : Int) = ((Kh.xorm a n : Nat) : Int) := Kh.xor_spell a n
def qv (s : Kh.St) : Array Value := #[.int .u64 s.a, .int .u64 s.b, .int .u64 s.c, .int .u64 s.d]

theorem last_or (t : ByteArray) (k : Nat) (hk : k = t.size / 8) :
    bits .or .u64 ((Kh.word t.data.toList (8 * k) : Nat) : Int) ((t.size : Int) % 256 * 72057594037927936) = ((Kh.last t.data.toList : Nat) : Int) := by
  have hl : t.data.toList.length = t.size := by simp
  have hw : Kh.word t.data.toList (8 * k) < 2 ^ 56 := by
    unfold Kh.word
    refine Nat.lt_of_lt_of_le (Kh.le_lt _) ?_
    rw [show (2 : Nat) ^ 56 = 256 ^ 7 from rfl]
    exact Nat.pow_le_pow_right (by decide) (by simp; omega)
  rw [show ((t.size : Int) % 256 * 72057594037927936) = ((t.size % 256 * 2 ^ 56 : Nat) : Int) by omega, u64_or_nat _ _ (by omega) (by omega)]
  unfold Kh.last
  rw [hl, ← hk, Nat.or_comm, Nat.mul_comm (t.size % 256), ← Nat.two_pow_add_eq_or_of_lt hw, Nat.add_comm]

set_option maxHeartbeats 4000000 in
theorem hashR_any (key t : ByteArray) (hk : key.size = 16) (ht : t.size ≤ 100000) (w : World) :
    Calls Try.prog 26 #[.string key, .string t] w fun e w' => e = .returned (.string (str (Kh.tag key.data.toList t.data.toList))) ∧ Below w.heap.size w w' := by
  have Hk := Lib.hid hk
  clear hk
  have l1 : ∀ a : Nat, bits .xor .u64 (a : Int) 8317987319222330741 = ((Kh.xorm a 8317987319222330741 : Nat) : Int) := xor_lit 8317987319222330741
  have l2 : ∀ a : Nat, bits .xor .u64 (a : Int) 7237128888997146477 = ((Kh.xorm a 7237128888997146477 : Nat) : Int) := xor_lit 7237128888997146477
  have l3 : ∀ a : Nat, bits .xor .u64 (a : Int) 7816392313619706465 = ((Kh.xorm a 7816392313619706465 : Nat) : Int) := xor_lit 7816392313619706465
  have l4 : ∀ a : Nat, bits .xor .u64 (a : Int) 8387220255154660723 = ((Kh.xorm a 8387220255154660723 : Nat) : Int) := xor_lit 8387220255154660723
  go_enter Try.func26, Try.ntmps26
  go_wp2_with fail
  refine (wordR_any _ _ (by omega) (by omega) (by have := Hk.out; omega) _).mono ?_
  rintro e w1 ⟨rfl, rfl⟩
  go_wp2_with fail
  refine (wordR_any _ _ (by omega) (by omega) (by have := Hk.out; omega) _).mono ?_
  rintro e w1 ⟨rfl, rfl⟩
  go_wp2_with fail
  clear l1 l2 l3 l4
  go_loopw [8] (fun i wr => ∃ k : Nat, k ≤ t.size / 8 ∧ i = .int .i64 ((8 * k : Nat) : Int) ∧ Bk wr w.heap.size 62 (qv (stK key.data.toList t.data.toList k)) ∧ Below w.heap.size w wr) (fun i _ => t.size + 8 - (intOf i).toNat)
  case atStart => exact ⟨0, by omega, rfl, Bk.new _ _ _, (Below.refl _ _).alloc (Nat.le_refl _) _⟩
  case round =>
    obtain ⟨k, hkl, rfl, hB, hb⟩ := hrel
    by_cases hlt : 8 * k + 8 ≤ t.size
    · obtain ⟨p0, p1, p2, p3, pf⟩ := four (show Bk wr w.heap.size 62 #[.int .u64 (stK key.data.toList t.data.toList k).a, .int .u64 (stK key.data.toList t.data.toList k).b, .int .u64 (stK key.data.toList t.data.toList k).c, .int .u64 (stK key.data.toList t.data.toList k).d] from hB)
      generalize hs : stK key.data.toList t.data.toList k = s at *
      have HS := Lib.hid hs
      have HB := Lib.hid hB
      clear hs hB
      go_wp2
      refine wp_region_still_tail 4 (by kernel_rfl) (by kernel_rfl) ?_
      simp only [List.take_succ_cons, List.take_zero, List.drop_succ_cons, List.drop_zero]
      repeat still_step
      still_call (wordR_still _ _ (by omega) (by omega) (by omega) _)
      repeat still_step
      refine wpStill_nil ?_
      go_wp2_with fail
      refine (absorbR_any _ _ _ _ _ _).mono ?_
      rintro e w1 ⟨rfl, hb1⟩
      simp only [stv]
      generalize hs2 : Kh.absorb _ _ = s2
      have HS2 := Lib.hid hs2
      have B1 := (HB.out.drew).below hb1 (by have := HB.out.lt; simpa using this)
      obtain ⟨r0, r1, r2, r3, rf⟩ := four (show Bk w1 w.heap.size 62 #[.int .u64 s.a, .int .u64 s.b, .int .u64 s.c, .int .u64 s.d] from B1)
      have B2 := Lib.hid (put4 (show Bk w1 w.heap.size 62 #[.int .u64 s.a, .int .u64 s.b, .int .u64 s.c, .int .u64 s.d] from B1) (.int .u64 s2.a) (.int .u64 s2.b) (.int .u64 s2.c) (.int .u64 s2.d))
      have hb2 := Lib.hid (put4_below (g := w.heap.size) ((hb.drew).trans (hb1.mono (by simpa using hb.size))) (Nat.le_refl _) (.int .u64 s2.a) (.int .u64 s2.b) (.int .u64 s2.c) (.int .u64 s2.d))
      clear hs2 B1 hb1 hb p0 p1 p2 p3 pf
      go_wp2
      go_roundw
      case rel =>
        refine ⟨k + 1, by omega, by go_num, ?_, hb2.out⟩
        rw [stK_succ _ _ _ (by simp; omega), HS.out]
        have e2 : Kh.absorb s (Kh.word t.data.toList (8 * k)) = s2 := HS2.out
        rw [e2]
        exact B2.out
      case measure => simp [intOf]; omega
    · obtain ⟨p0, p1, p2, p3, pf⟩ := four (show Bk wr w.heap.size 62 #[.int .u64 (stK key.data.toList t.data.toList k).a, .int .u64 (stK key.data.toList t.data.toList k).b, .int .u64 (stK key.data.toList t.data.toList k).c, .int .u64 (stK key.data.toList t.data.toList k).d] from hB)
      generalize hs : stK key.data.toList t.data.toList k = s at *
      have HS := Lib.hid hs
      have HB := Lib.hid hB
      clear hs hB
      go_wp2
      refine wp_region_still_tail 10 (by kernel_rfl) (by kernel_rfl) ?_
      simp only [List.take_succ_cons, List.take_zero, List.drop_succ_cons, List.drop_zero]
      repeat still_step
      still_call (wordR_still _ _ (by omega) (by omega) (by omega) _)
      repeat still_step
      refine wpStill_nil ?_
      go_wp2_with fail
      rw [last_or t k (by omega)]
      refine (absorbR_any _ _ _ _ _ _).mono ?_
      rintro e w1 ⟨rfl, hb1⟩
      simp only [stv]
      generalize hs2 : Kh.absorb _ _ = s2
      have HS2 := Lib.hid hs2
      have B1 : Bk w1 w.heap.size 62 #[.int .u64 s.a, .int .u64 s.b, .int .u64 s.c, .int .u64 s.d] := (HB.out.drew).below hb1 (by have := HB.out.lt; simpa using this)
      obtain ⟨r0, r1, r2, r3, rf⟩ := four B1
      have B2 := put4 B1 (.int .u64 s2.a) (.int .u64 s2.b) (.int .u64 s2.c) (.int .u64 s2.d)
      have hb2 := put4_below (g := w.heap.size) ((hb.drew).trans (hb1.mono (by simpa using hb.size))) (Nat.le_refl _) (.int .u64 s2.a) (.int .u64 s2.b) (.int .u64 s2.c) (.int .u64 s2.d)
      clear hs2 B1 hb1 hb p0 p1 p2 p3 pf
      have HB2 := Lib.hid B2
      have Hb2 := Lib.hid hb2
      clear B2 hb2
      iterate 5 go_step
      generalize ((((w1.setCell ⟨w.heap.size, 0, none⟩ (.int .u64 s2.a)).setCell ⟨w.heap.size, 1, none⟩ (.int .u64 s2.b)).setCell ⟨w.heap.size, 2, none⟩ (.int .u64 s2.c)).setCell ⟨w.heap.size, 3, none⟩ (.int .u64 s2.d)) = w2 at HB2 Hb2 ⊢
      clear r0 r1 r2 r3 rf
      obtain ⟨p0, p1, p2, p3, pf⟩ := four HB2.out
      have l5 : ∀ a : Nat, bits .xor .u64 (a : Int) 255 = ((Kh.xorm a 255 : Nat) : Int) := xor_lit 255
      have HB3 : Hid (Bk (w2.setCell ⟨w.heap.size, 2, none⟩ (.int .u64 (Kh.xorm s2.c 255 : Nat))) w.heap.size 62 #[.int .u64 s2.a, .int .u64 s2.b, .int .u64 (Kh.xorm s2.c 255 : Nat), .int .u64 s2.d]) := HB2.out.put 2 _
      have Hb3 := Lib.hid (Hb2.out.setCell (p := ⟨w.heap.size, 2, none⟩) (Nat.le_refl _) (.int .u64 (Kh.xorm s2.c 255 : Nat)))
      clear HB2 Hb2
      go_wp2_with fail
      clear p0 p1 p2 p3 pf l5
      generalize (w2.setCell ⟨w.heap.size, 2, none⟩ (.int .u64 (Kh.xorm s2.c 255 : Nat))) = w3 at HB3 Hb3 ⊢
      refine (roundR_any _ _ _ _ _).mono ?_
      rintro e w4 ⟨rfl, hb4⟩
      simp only [stv]
      generalize hs3 : Kh.rnd _ = s3
      have HS3 := Lib.hid hs3
      clear hs3
      go_wp2_with fail
      refine (roundR_any _ _ _ _ _).mono ?_
      rintro e w5 ⟨rfl, hb5⟩
      simp only [stv]
      generalize hs4 : Kh.rnd _ = s4
      have HS4 := Lib.hid hs4
      clear hs4
      go_wp2_with fail
      refine (roundR_any _ _ _ _ _).mono ?_
      rintro e w6 ⟨rfl, hb6⟩
      simp only [stv]
      generalize hs5 : Kh.rnd _ = s5
      have HS5 := Lib.hid hs5
      clear hs5
      go_wp2_with fail
      refine (roundR_any _ _ _ _ _).mono ?_
      rintro e w7 ⟨rfl, hb7⟩
      simp only [stv]
      generalize hs6 : Kh.rnd _ = s6
      have HS6 := Lib.hid hs6
      clear hs6
      have hb := ((hb4.trans (hb5.mono hb4.size)).trans (hb6.mono (Nat.le_trans hb4.size hb5.size))).trans (hb7.mono (Nat.le_trans hb4.size (Nat.le_trans hb5.size hb6.size)))
      clear hb4 hb5 hb6 hb7
      have B4 := HB3.out.below hb HB3.out.lt
      have hb4 := Hb3.out.trans (hb.mono Hb3.out.size)
      clear hb HB3 Hb3
      obtain ⟨p0, p1, p2, p3, pf⟩ := four B4
      have HB4 := Lib.hid (put4 B4 (.int .u64 s6.a) (.int .u64 s6.b) (.int .u64 s6.c) (.int .u64 s6.d))
      have Hb4 := Lib.hid (put4_below (g := w.heap.size) hb4 (Nat.le_refl _) (.int .u64 s6.a) (.int .u64 s6.b) (.int .u64 s6.c) (.int .u64 s6.d))
      clear B4 hb4
      iterate 5 go_step
      generalize ((((w7.setCell ⟨w.heap.size, 0, none⟩ (.int .u64 s6.a)).setCell ⟨w.heap.size, 1, none⟩ (.int .u64 s6.b)).setCell ⟨w.heap.size, 2, none⟩ (.int .u64 s6.c)).setCell ⟨w.heap.size, 3, none⟩ (.int .u64 s6.d)) = w8 at HB4 Hb4 ⊢
      clear p0 p1 p2 p3 pf
      obtain ⟨p0, p1, p2, p3, pf⟩ := four HB4.out
      have hx := Kh.xor_spell
      go_wp2_with fail
      refine (bytesR_any _ _).mono ?_
      rintro e w9 ⟨rfl, hb9⟩
      clear p0 p1 p2 p3 pf hx
      go_wp2
      go_ret
      refine ⟨ret_s ?_, Hb4.out.trans (hb9.mono Hb4.out.size)⟩
      rw [stK_all, show t.data.toList.length / 8 = k by simp; omega, HS.out]
      have e2 : Kh.absorb s (Kh.last t.data.toList) = s2 := HS2.out
      rw [e2]
      unfold Kh.finish
      have e3 : Kh.rnd ⟨s2.a, s2.b, Kh.xorm s2.c 255, s2.d⟩ = s3 := HS3.out
      have e4 : Kh.rnd s3 = s4 := HS4.out
      have e5 : Kh.rnd s4 = s5 := HS5.out
      have e6 : Kh.rnd s5 = s6 := HS6.out
      rw [e3, e4, e5, e6]
end Go.Proofs.Ytdjpidniakedpaa
