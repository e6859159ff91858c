/- The program's ReadInt, walked. Condition: a length below the model's greatest. -/
import Derived.Test.YtlknjdfiedkhbaaViRead
namespace Go.Proofs.Ytlknjdfiedkhbaa
open Go Go.RowKit

theorem rdr_new (w : World) (s : ByteArray) : Rdr (w.alloc (.cells #[.string s, .int .i64 0, .int .i64 0] 119)) w.heap.size s ((0 : Nat) : Int) 0 := Bk.new w _ _
theorem below_new {w w' : World} {o : Obj} (h : (w.alloc o).grownBy w' (some w.heap.size)) : Below w.heap.size w w' :=
  below_grown ((Below.refl _ _).alloc (Nat.le_refl _) o) h (Nat.le_refl _) (by rw [World.size_alloc]; omega)

set_option maxHeartbeats 1000000 in
theorem readInt_any (s : ByteArray) (hs : s.size ≤ maxLen) (w : World) :
    Calls Try.prog 71 #[.string s] w fun e w' => e = .returned (.tuple #[.int .i64 (rd3 s.data.toList).1, .int .i64 (rd3 s.data.toList).2.1, .int .i64 (rd3 s.data.toList).2.2]) ∧ Below w.heap.size w w' := by
  have hi := integer_any w.heap.size s 0 _ (rdr_new w s) (Nat.zero_le _) hs
  have HE : Hid ((Vi.rd s.data.toList).2.2 ≠ 0 → (Vi.rd s.data.toList).1 = 0 ∧ (Vi.rd s.data.toList).2.1 = 0) := Vi.rd_err
  unfold rd3
  unfold RetRead at hi
  rw [List.drop_zero, Nat.zero_add] at hi
  generalize Vi.rd s.data.toList = q at hi HE ⊢
  obtain ⟨n, k, er⟩ := q
  simp only at hi HE ⊢
  have HI := Lib.hid hi
  clear hi
  go_enter Try.func71, Try.ntmps71
  go_wp2_with fail
  refine HI.out.mono ?_
  rintro e w1 ⟨rfl, hR, hG⟩
  have HB := Lib.hid (below_new hG)
  clear hG HI
  have c1 := hR.c1
  have c2 := hR.c2
  clear hR
  by_cases he : er = 0
  · subst he
    go_wp2
    go_quiet (fail)
    go_wp2
    go_ret3
    exact ⟨by rfl, below_drawN HB.out _⟩
  · obtain ⟨h1, h2⟩ := HE.out he
    have heb : (er != 0) = true := by rw [bne_iff_ne]; exact he
    subst h1 h2
    have HE2 := Lib.hid he
    clear he HE
    go_wp2
    go_quiet (fail)
    go_wp2
    go_ret3
    exact ⟨by rfl, below_drawN HB.out _⟩
end Go.Proofs.Ytlknjdfiedkhbaa
