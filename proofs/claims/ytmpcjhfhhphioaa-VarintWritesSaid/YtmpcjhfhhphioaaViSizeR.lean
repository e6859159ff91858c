/- The size of an encoded number, by the reference. No condition. -/
import Derived.Test.YtmpcjhfhhphioaaViRef
namespace Go.Proofs.Ytmpcjhfhhphioaa
open Go Go.RowKit

theorem sizeR_any (n : Int) (w : World) :
    Calls Try.prog 18 #[.int .i64 n] w fun e w' => e = .returned (.int .i64 ((Vi.intL n).length : Int)) ∧ Below w.heap.size w w' := by
  go_enter Try.func18, Try.ntmps18
  go_wp2_with fail
  refine (intR_any n _).mono ?_
  rintro e w1 ⟨rfl, hb1⟩
  go_wp2
  go_ret
  exact ⟨ret_i (by simp [str_size]), hb1⟩
end Go.Proofs.Ytmpcjhfhhphioaa
