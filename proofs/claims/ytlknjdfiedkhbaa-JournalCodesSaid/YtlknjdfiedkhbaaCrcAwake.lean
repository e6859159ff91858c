/- The examples of the chapter, walked: the call answers true. No condition. -/
import Derived.Test.YtlknjdfiedkhbaaCrcSum
namespace Go.Proofs.Ytlknjdfiedkhbaa
open Go Go.RowKit
open Crc (upd sum)

theorem aw_e : sum [] = 0 := by decide
theorem aw_abc : sum [97, 98, 99] = 910901175 := by decide +kernel
theorem aw_9 : sum [49, 50, 51, 52, 53, 54, 55, 56, 57] = 3808858755 := by decide +kernel
theorem aw_seal : sealE [97, 98, 99] = 0 := by decide
theorem aw_len : (str (sealL [97, 98, 99])).size = 8 := by
  rw [str_size]
  decide +kernel

end Go.Proofs.Ytlknjdfiedkhbaa
