/- The program's length and ReadText, walked. Condition: a length below the model's greatest. -/
import Derived.Test.YtolohghpiccbaaaDoorViReadP
import Derived.Test.YtolohghpiccbaaaDoorViReadR
namespace Go.Proofs.YtolohghpiccbaaaDoor
open Go Go.RowKit

/-- what reading a length leaves -/
def RetLen (w : World) (g : Nat) (s : ByteArray) (p : Nat) (e : Ending) (w' : World) : Prop :=
  e = .returned (.int .i64 (Vi.rlen (s.data.toList.drop p)).1) ∧ w.grownBy w' (some g) ∧ ∃ q : Nat, q ≤ s.size ∧ Rdr w' g s (q : Int) (Vi.rlen (s.data.toList.drop p)).2.2 ∧ ((Vi.rlen (s.data.toList.drop p)).2.2 = 0 → q = p + (Vi.rlen (s.data.toList.drop p)).2.1)

theorem retLen_of {w : World} {g : Nat} {s : ByteArray} {p : Nat} {n : Int} {k : Nat} {er : Int} {w' : World} (h : Vi.rlen (s.data.toList.drop p) = (n, k, er)) {x : Int} (hx : x = n) (hg : w.grownBy w' (some g)) (q : Nat) (hq : q ≤ s.size) (hR : Rdr w' g s (q : Int) er) (he : er = 0 → q = p + k) : RetLen w g s p (.returned (.int .i64 x)) w' := by
  unfold RetLen
  rw [h, hx]
  exact ⟨rfl, hg, q, hq, hR, he⟩
theorem rlen_a {l : List UInt8} {n : Int} {k : Nat} (h : Vi.rd l = (n, k, 0)) (h1 : 0 ≤ n) (h2 : n ≤ 65536) : Vi.rlen l = (n, k, 0) := by
  unfold Vi.rlen
  rw [h]
  simp only [if_true]
  rw [if_pos ⟨h1, h2⟩]
theorem rlen_b {l : List UInt8} {n : Int} {k : Nat} (h : Vi.rd l = (n, k, 0)) (h1 : ¬ (0 ≤ n ∧ n ≤ 65536)) : Vi.rlen l = (0, 0, 11) := by
  unfold Vi.rlen
  rw [h]
  simp only [if_true]
  rw [if_neg h1]
theorem rlen_c {l : List UInt8} {n : Int} {k : Nat} {er : Int} (h : Vi.rd l = (n, k, er)) (h1 : er ≠ 0) : Vi.rlen l = (0, 0, er) := by
  unfold Vi.rlen
  rw [h]
  simp only
  rw [if_neg h1]

set_option maxHeartbeats 1000000 in
theorem length_any (g : Nat) (s : ByteArray) (p : Nat) (w : World) (hB : Rdr w g s p 0) (hp : p ≤ s.size) (hs : s.size ≤ maxLen) :
    Calls Tryd.prog 53 #[.pointer (some ⟨g, 0, none⟩)] w (RetLen w g s p) := by
  have hi := integer_any g s p _ hB hp hs
  have he := Vi.rd_err (l := s.data.toList.drop p)
  have hrg : (Vi.rd (s.data.toList.drop p)).2.2 = 0 → p + (Vi.rd (s.data.toList.drop p)).2.1 ≤ s.size := fun h => by
    have h3 := (Vi.rd_range _ h).2.2.1
    rw [List.length_drop] at h3
    have hl : s.data.toList.length = s.size := by simp
    omega
  clear hB
  unfold RetRead at hi
  generalize hrd : Vi.rd (s.data.toList.drop p) = q at hi he hrg
  obtain ⟨n, k, er⟩ := q
  simp only at hi he hrg
  have HI := Lib.hid hi
  have HE := Lib.hid he
  have HRG := Lib.hid hrg
  have HRD := Lib.hid hrd
  clear hi he hrg hrd
  go_enter Tryd.func53, Tryd.ntmps53
  go_wp2_with fail
  refine HI.out.mono ?_
  rintro e w1 ⟨rfl, hR, hG⟩
  have HR := Lib.hid hR
  have HG := Lib.hid hG
  clear hG HI hR
  by_cases he : er = 0
  · subst he
    have hq := HRG.out rfl
    by_cases h0 : n < 0
    · have HL := Lib.hid (rlen_b HRD.out (by omega))
      go_wp2_with fail
      refine (fail_any g s _ 11 _ HR.out).mono ?_
      rintro e w2 ⟨rfl, rfl⟩
      go_wp2
      go_ret
      exact retLen_of HL.out rfl (grown_join HG.out (grown_put _ _ _ _)) (p + k) hq (HR.out.err 11) (fun h => absurd h (by decide))
    · by_cases h1 : 65536 < n
      · have HL := Lib.hid (rlen_b HRD.out (by omega))
        go_wp2_with fail
        refine (fail_any g s _ 11 _ HR.out).mono ?_
        rintro e w2 ⟨rfl, rfl⟩
        go_wp2
        go_ret
        exact retLen_of HL.out rfl (grown_join HG.out (grown_put _ _ _ _)) (p + k) hq (HR.out.err 11) (fun h => absurd h (by decide))
      · have HL := Lib.hid (rlen_a HRD.out (by omega) (by omega))
        go_wp2
        go_ret
        exact retLen_of HL.out rfl HG.out (p + k) hq HR.out (fun _ => rfl)
  · obtain ⟨h1, h2⟩ := HE.out he
    subst h1 h2
    have HL := Lib.hid (rlen_c HRD.out he)
    have HE2 := Lib.hid he
    clear he HE
    go_wp2
    go_ret
    exact retLen_of HL.out rfl HG.out p hp HR.out (fun h => absurd h HE2.out)

end Go.Proofs.YtolohghpiccbaaaDoor
