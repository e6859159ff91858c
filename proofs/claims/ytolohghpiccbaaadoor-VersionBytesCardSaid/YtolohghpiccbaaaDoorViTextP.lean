/- The encodings of strings and of lists, walked: the program's. Conditions: lengths below the model's greatest; the list lies in memory. -/
import Derived.Test.YtolohghpiccbaaaDoorViInt
import Derived.Test.YtolohghpiccbaaaDoorBRow
import Derived.Test.YtolohghpiccbaaaDoorIntsAt
namespace Go.Proofs.YtolohghpiccbaaaDoor
open Go Go.RowKit

theorem str_app (l : List UInt8) (s : ByteArray) : str l ++ s = str (l ++ s.data.toList) := by
  have h := str_append l s.data.toList
  rwa [str_self] at h
theorem int_size (n : Int) : (str (Vi.intL n)).size ≤ 9 := by rw [str_size]; exact Vi.intL_len9 n

end Go.Proofs.YtolohghpiccbaaaDoor
