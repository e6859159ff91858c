/- The journal's reader: reading a record, walked. Conditions: the reader lies in one block; the length below the model's greatest. -/
import Derived.Test.YtlknjdfiedkhbaaJoRecA
import Derived.Test.YtlknjdfiedkhbaaJoRecB
import Derived.Test.YtlknjdfiedkhbaaJoRecC
namespace Go.Proofs.Ytlknjdfiedkhbaa
open Go Go.RowKit
theorem record_any (g : Nat) (l : List UInt8) (w : World) (hl : l.length ≤ maxLen) (hJ : Jrd w g l false) :
    Calls Try.prog 60 #[.pointer (some ⟨g, 0, none⟩)] w (RecPost w g l) := by
  by_cases h1 : at_ (rdS 2 (l, false)).1 0 = 1
  · exact record_store g l w hl hJ h1
  · by_cases h3 : at_ (rdS 2 (l, false)).1 0 = 3
    · exact record_deliver g l w hl hJ h3
    · exact record_other g l w hl hJ (fun h => h.elim h1 h3)
end Go.Proofs.Ytlknjdfiedkhbaa
