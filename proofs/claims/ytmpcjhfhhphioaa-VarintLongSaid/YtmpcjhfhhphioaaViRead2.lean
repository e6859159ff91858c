/- The program's length and ReadText, walked. Condition: a length below the model's greatest. -/
import Derived.Test.YtmpcjhfhhphioaaViReadP
import Derived.Test.YtmpcjhfhhphioaaViReadR
namespace Go.Proofs.Ytmpcjhfhhphioaa
open Go Go.RowKit

/-- what reading a length leaves -/
def RetLen (w : World) (g : Nat) (s : ByteArray) (p : Nat) (e : Ending) (w' : World) : Prop :=
  e = .returned (.int .i64 (Vi.rlen (s.data.toList.drop p)).1) ∧ w.grownBy w' (some g) ∧ ∃ q : Nat, q ≤ s.size ∧ Rdr w' g s (q : Int) (Vi.rlen (s.data.toList.drop p)).2.2 ∧ ((Vi.rlen (s.data.toList.drop p)).2.2 = 0 → q = p + (Vi.rlen (s.data.toList.drop p)).2.1)

theorem retLen_of {w : World} {g : Nat} {s : ByteArray} {p : Nat} {n : Int} {k : Nat} {er : Int} {w' : World} (h : Vi.rlen (s.data.toList.drop p) = (n, k, er)) {x : Int} (hx : x = n) (hg : w.grownBy w' (some g)) (q : Nat) (hq : q ≤ s.size) (hR : Rdr w' g s (q : Int) er) (he : er = 0 → q = p + k) : RetLen w g s p (.returned (.int .i64 x)) w' := by
  unfold RetLen
  rw [h, hx]
  exact ⟨rfl, hg, q, hq, hR, he⟩
theorem rlen_a {l : List UInt8} {n : Int} {k : Nat} (h : Vi.rd l = (n, k, 0)) (h1 : 0 ≤ n) (h2 : n ≤ 65536) : Vi.rlen l = (n, k, 0) := by
  unfold Vi.rlen
  rw [h]
  simp only [if_true]
  rw [if_pos ⟨h1, h2⟩]
theorem rlen_b {l : List UInt8} {n : Int} {k : Nat} (h : Vi.rd l = (n, k, 0)) (h1 : ¬ (0 ≤ n ∧ n ≤ 65536)) : Vi.rlen l = (0, 0, 11) := by
  unfold Vi.rlen
  rw [h]
  simp only [if_true]
  rw [if_neg h1]
theorem rlen_c {l : List UInt8} {n : Int} {k : Nat} {er : Int} (h : Vi.rd l = (n, k, er)) (h1 : er ≠ 0) : Vi.rlen l = (0, 0, er) := by
  unfold Vi.rlen
  rw [h]
  simp only
  rw [if_neg h1]

set_option maxHeartbeats 1000000 in
theorem length_any (g : Nat) (s : ByteArray) (p : Nat) (w : World) (hB : Rdr w g s p 0) (hp : p ≤ s.size) (hs : s.size ≤ maxLen) :
    Calls Try.prog 31 #[.pointer (some ⟨g, 0, none⟩)] w (RetLen w g s p) := by
  have hi := integer_any g s p _ hB hp hs
  have he := Vi.rd_err (l := s.data.toList.drop p)
  have hrg : (Vi.rd (s.data.toList.drop p)).2.2 = 0 → p + (Vi.rd (s.data.toList.drop p)).2.1 ≤ s.size := fun h => by
    have h3 := (Vi.rd_range _ h).2.2.1
    rw [List.length_drop] at h3
    have hl : s.data.toList.length = s.size := by simp
    omega
  clear hB
  unfold RetRead at hi
  generalize hrd : Vi.rd (s.data.toList.drop p) = q at hi he hrg
  obtain ⟨n, k, er⟩ := q
  simp only at hi he hrg
  have HI := Lib.hid hi
  have HE := Lib.hid he
  have HRG := Lib.hid hrg
  have HRD := Lib.hid hrd
  clear hi he hrg hrd
  go_enter Try.func31, Try.ntmps31
  go_wp2_with fail
  refine HI.out.mono ?_
  rintro e w1 ⟨rfl, hR, hG⟩
  have HR := Lib.hid hR
  have HG := Lib.hid hG
  clear hG HI hR
  by_cases he : er = 0
  · subst he
    have hq := HRG.out rfl
    by_cases h0 : n < 0
    · have HL := Lib.hid (rlen_b HRD.out (by omega))
      go_wp2_with fail
      refine (fail_any g s _ 11 _ HR.out).mono ?_
      rintro e w2 ⟨rfl, rfl⟩
      go_wp2
      go_ret
      exact retLen_of HL.out rfl (grown_join HG.out (grown_put _ _ _ _)) (p + k) hq (HR.out.err 11) (fun h => absurd h (by decide))
    · by_cases h1 : 65536 < n
      · have HL := Lib.hid (rlen_b HRD.out (by omega))
        go_wp2_with fail
        refine (fail_any g s _ 11 _ HR.out).mono ?_
        rintro e w2 ⟨rfl, rfl⟩
        go_wp2
        go_ret
        exact retLen_of HL.out rfl (grown_join HG.out (grown_put _ _ _ _)) (p + k) hq (HR.out.err 11) (fun h => absurd h (by decide))
      · have HL := Lib.hid (rlen_a HRD.out (by omega) (by omega))
        go_wp2
        go_ret
        exact retLen_of HL.out rfl HG.out (p + k) hq HR.out (fun _ => rfl)
  · obtain ⟨h1, h2⟩ := HE.out he
    subst h1 h2
    have HL := Lib.hid (rlen_c HRD.out he)
    have HE2 := Lib.hid he
    clear he HE
    go_wp2
    go_ret
    exact retLen_of HL.out rfl HG.out p hp HR.out (fun h => absurd h HE2.out)

set_option maxHeartbeats 1000000 in
theorem readText_any (s : ByteArray) (hs : s.size ≤ maxLen) (w : World) :
    Calls Try.prog 21 #[.string s] w (RetText w s.data.toList) := by
  have hm := hs
  unfold maxLen at hs
  have hl : s.data.toList.length = s.size := by simp
  have hi := length_any w.heap.size s 0 _ (rdr_new w s) (Nat.zero_le _) hm
  unfold RetLen at hi
  rw [List.drop_zero] at hi
  have t1 := @rtext_short' s.data.toList
  have t2 := @rtext_ok' s.data.toList
  have t3 := @rtext_err' s.data.toList
  have hbd := @rlen_bounds s.data.toList
  have hzr : (Vi.rlen s.data.toList).2.2 ≠ 0 → (Vi.rlen s.data.toList).1 = 0 := fun h => by
    unfold Vi.rlen at h ⊢
    split
    · rename_i h1
      rw [if_pos h1] at h
      split
      · rename_i h2; rw [if_pos h2] at h; exact absurd rfl h
      · rfl
    · rfl
  rw [hl] at t1 t2 hbd
  clear hl
  generalize Vi.rlen s.data.toList = r at hi t1 t2 t3 hbd hzr
  obtain ⟨n, k, er⟩ := r
  simp only [Nat.zero_add] at hi t1 t2 t3 hbd hzr
  have HI := Lib.hid hi
  clear hi
  have T1 := Lib.hid t1
  have T2 := Lib.hid t2
  have T3 := Lib.hid t3
  have HBD := Lib.hid hbd
  have HZR := Lib.hid hzr
  clear t1 t2 t3 hbd hzr
  go_enter Try.func21, Try.ntmps21
  go_wp2_with fail
  refine HI.out.mono ?_
  rintro e w1 ⟨rfl, hG, q, hq, hR, hqe⟩
  have HB := Lib.hid (below_new hG)
  have HR := Lib.hid hR
  clear hG HI hR
  by_cases he : er = 0
  · subst he
    obtain rfl := hqe rfl
    obtain ⟨b1, b2, b3, b4⟩ := HBD.out rfl
    obtain ⟨m, rfl⟩ := Int.eq_ofNat_of_zero_le b1
    clear hqe
    go_wp2_with fail
    refine (rest_any w.heap.size s q 0 _ HR.out hq hm).mono ?_
    rintro e w2 ⟨rfl, nd, rfl⟩
    have HR2 := Lib.hid (HR.out.drewN nd)
    have HB2 := Lib.hid (below_drawN HB.out nd)
    generalize w1.drewN nd = w2 at HR2 HB2 ⊢
    clear HR HB
    by_cases hsh : (s.size : Int) - q < m
    · have E := Lib.hid (T1.out trivial hsh)
      go_wp2_with fail
      refine (fail_any w.heap.size s _ 12 _ HR2.out).mono ?_
      rintro e w3 ⟨rfl, rfl⟩
      have HR3 := Lib.hid (HR2.out.err 12)
      have HB3 := Lib.hid (HB2.out.setCell (p := ⟨w.heap.size, 2, none⟩) (Nat.le_refl _) (.int .i64 12))
      generalize w2.setCell ⟨w.heap.size, 2, none⟩ (.int .i64 12) = w3 at HR3 HB3 ⊢
      have c2 := HR3.out.c2
      clear HR2 HB2
      go_wp2
      go_quiet (fail)
      go_wp2
      go_ret3
      exact ⟨rtext_of E.out rfl rfl rfl, below_drawN HB3.out _⟩
    · have E := Lib.hid (T2.out trivial (by omega))
      have c1 := HR2.out.c1
      have c2 := HR2.out.c2
      have hle : q + m ≤ s.size := by omega
      have hw : IntKind.i64.wrap ((q : Int) + (m : Int)) = (q : Int) + (m : Int) := by rw [IntKind.wrap_i64]; omega
      have hw2 : ((q : Int) + (m : Int)).toNat = q + m := by omega
      go_wp2
      go_quiet (fail)
      go_wp2
      go_ret3
      exact ⟨rtext_of E.out (by rw [extract_str, Nat.add_sub_cancel_left, Int.toNat_natCast]) (by simp) rfl, below_drawN HB2.out _⟩
  · have hz := HZR.out he
    subst hz
    have E := Lib.hid (T3.out he)
    have heb : (er != 0) = true := by rw [bne_iff_ne]; exact he
    have HE2 := Lib.hid he
    clear he hqe
    go_wp2_with fail
    refine (rest_any w.heap.size s q er _ HR.out hq hm).mono ?_
    rintro e w2 ⟨rfl, nd, rfl⟩
    have HR2 := Lib.hid (HR.out.drewN nd)
    have HB2 := Lib.hid (below_drawN HB.out nd)
    generalize w1.drewN nd = w2 at HR2 HB2 ⊢
    clear HR HB
    have c2 := HR2.out.c2
    have hnl : ¬ (s.size : Int) - q < 0 := by omega
    go_wp2
    go_quiet (fail)
    go_wp2
    go_ret3
    exact ⟨rtext_of E.out rfl rfl rfl, below_drawN HB2.out _⟩
end Go.Proofs.Ytmpcjhfhhphioaa
