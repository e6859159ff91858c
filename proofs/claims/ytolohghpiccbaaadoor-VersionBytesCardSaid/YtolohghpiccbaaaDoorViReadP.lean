/- The program's ReadInt, walked. Condition: a length below the model's greatest. -/
import Derived.Test.YtolohghpiccbaaaDoorViRead
namespace Go.Proofs.YtolohghpiccbaaaDoor
open Go Go.RowKit

theorem rdr_new (w : World) (s : ByteArray) : Rdr (w.alloc (.cells #[.string s, .int .i64 0, .int .i64 0] 67)) w.heap.size s ((0 : Nat) : Int) 0 := Bk.new w _ _
theorem below_new {w w' : World} {o : Obj} (h : (w.alloc o).grownBy w' (some w.heap.size)) : Below w.heap.size w w' :=
  below_grown ((Below.refl _ _).alloc (Nat.le_refl _) o) h (Nat.le_refl _) (by rw [World.size_alloc]; omega)

end Go.Proofs.YtolohghpiccbaaaDoor
