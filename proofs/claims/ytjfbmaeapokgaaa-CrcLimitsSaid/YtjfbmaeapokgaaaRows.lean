/-
  No cell of these rows narrows 'for every input' (looked for: loops, veiled, ifaces, maps, wideKeys, modest, calm, conditions, laid).
  DERIVED. THE GIVEN ROWS OF THIS SEAT. 9 by the template 'for every input the law returns true; each argument reads behind the call as it read before'; 0 by the template 'total and deterministic' (their statements: YtjfbmaeapokgaaaTotals.lean).
  GIVEN WITH THE SEED: the statements are not yours to turn. If you find one false, say at which input.
  Laid BY PROGRAM, IN A SANDBOX (cutbox-rows.mjs): the forced cells as the released guide's own fill.sh prints them over the translation e0074ab472200330… (all of the seat's roots in one cut). By AI agents, Wed Nov 11 2026. No macro, syntax, notation, axiom, sorry.
-/
import Derived.Test.YtjfbmaeapokgaaaChecked
import GoSem.Claim
import GoSem.ClaimJoined
import GoSem.ClaimMapViews
import Derived.JoinedTies
import Derived.KernelRfl
namespace Go.Proofs.Ytjfbmaeapokgaaa
/- THE CELL 'sum', in the pinned program and in every row, IS THE sha256 OF THE DUMP (.gsa) THAT YtjfbmaeapokgaaaProg.lean LOADS. Nothing in Lean hashes anything: it is a label: what it is worth is what the hold of that sum in a sandbox is worth. -/
noncomputable def Try.pinned : Pinned := { name := "ytjfbmaeapokgaaa", sum := "e0074ab4722003301dedc3719f6039cc0856e3c7dc30f7091cbc71731720aa4a", checked := Try.checked }
namespace Rows
def none {H : Type} : Left H := { results := [], args := [] }

/-- 'mailboatlaw02.CrcLinear': WHATEVER THE INPUT: true; the input reads as it did. -/
def crcLinearSpec : ChangeSpec := { name := "crcLinear", fn := fun _ => fun
  | [d1, d2, d3] => { results := [.lit (.bool true)], args := [d1, d2, d3] }
  | _ => none }
def crcLinearRow : OpenClaim := { program := "ytjfbmaeapokgaaa", sum := "e0074ab4722003301dedc3719f6039cc0856e3c7dc30f7091cbc71731720aa4a", func := "mailboat/mailboatlaw02.CrcLinear", spec := "crcLinear", unfollowed := true, recurses := true, apart := false }
def CrcLinearSaid : Prop := crcLinearRow.holds Try.pinned (OpenSpec.ofChange crcLinearSpec)

/-- ITS FALSE NEIGHBOUR: 'it returns false'. Refute it at one input. -/
def crcLinearWrong : ChangeSpec := { name := "crcLinear", fn := fun _ => fun
  | [d1, d2, d3] => { results := [.lit (.bool false)], args := [d1, d2, d3] }
  | _ => none }
def CrcLinearWrongFalsely : Prop := crcLinearRow.holds Try.pinned (OpenSpec.ofChange crcLinearWrong)

/-- 'mailboatlaw02.CrcDetects': WHATEVER THE INPUT: true; the input reads as it did. -/
def crcDetectsSpec : ChangeSpec := { name := "crcDetects", fn := fun _ => fun
  | [d1, d2, d3] => { results := [.lit (.bool true)], args := [d1, d2, d3] }
  | _ => none }
def crcDetectsRow : OpenClaim := { program := "ytjfbmaeapokgaaa", sum := "e0074ab4722003301dedc3719f6039cc0856e3c7dc30f7091cbc71731720aa4a", func := "mailboat/mailboatlaw02.CrcDetects", spec := "crcDetects", unfollowed := true, recurses := true, apart := false }
def CrcDetectsSaid : Prop := crcDetectsRow.holds Try.pinned (OpenSpec.ofChange crcDetectsSpec)

/-- ITS FALSE NEIGHBOUR: 'it returns false'. Refute it at one input. -/
def crcDetectsWrong : ChangeSpec := { name := "crcDetects", fn := fun _ => fun
  | [d1, d2, d3] => { results := [.lit (.bool false)], args := [d1, d2, d3] }
  | _ => none }
def CrcDetectsWrongFalsely : Prop := crcDetectsRow.holds Try.pinned (OpenSpec.ofChange crcDetectsWrong)

/-- 'mailboatlaw02.CrcSums': WHATEVER THE INPUT: true; the input reads as it did. -/
def crcSumsSpec : ChangeSpec := { name := "crcSums", fn := fun _ => fun
  | [d1, d2, d3, d4] => { results := [.lit (.bool true)], args := [d1, d2, d3, d4] }
  | _ => none }
def crcSumsRow : OpenClaim := { program := "ytjfbmaeapokgaaa", sum := "e0074ab4722003301dedc3719f6039cc0856e3c7dc30f7091cbc71731720aa4a", func := "mailboat/mailboatlaw02.CrcSums", spec := "crcSums", unfollowed := true, recurses := true, apart := false }
def CrcSumsSaid : Prop := crcSumsRow.holds Try.pinned (OpenSpec.ofChange crcSumsSpec)

/-- ITS FALSE NEIGHBOUR: 'it returns false'. Refute it at one input. -/
def crcSumsWrong : ChangeSpec := { name := "crcSums", fn := fun _ => fun
  | [d1, d2, d3, d4] => { results := [.lit (.bool false)], args := [d1, d2, d3, d4] }
  | _ => none }
def CrcSumsWrongFalsely : Prop := crcSumsRow.holds Try.pinned (OpenSpec.ofChange crcSumsWrong)

/-- 'mailboatlaw02.CrcConcatenation': WHATEVER THE INPUT: true; the input reads as it did. -/
def crcConcatenationSpec : ChangeSpec := { name := "crcConcatenation", fn := fun _ => fun
  | [d1, d2] => { results := [.lit (.bool true)], args := [d1, d2] }
  | _ => none }
def crcConcatenationRow : OpenClaim := { program := "ytjfbmaeapokgaaa", sum := "e0074ab4722003301dedc3719f6039cc0856e3c7dc30f7091cbc71731720aa4a", func := "mailboat/mailboatlaw02.CrcConcatenation", spec := "crcConcatenation", unfollowed := true, recurses := true, apart := false }
def CrcConcatenationSaid : Prop := crcConcatenationRow.holds Try.pinned (OpenSpec.ofChange crcConcatenationSpec)

/-- ITS FALSE NEIGHBOUR: 'it returns false'. Refute it at one input. -/
def crcConcatenationWrong : ChangeSpec := { name := "crcConcatenation", fn := fun _ => fun
  | [d1, d2] => { results := [.lit (.bool false)], args := [d1, d2] }
  | _ => none }
def CrcConcatenationWrongFalsely : Prop := crcConcatenationRow.holds Try.pinned (OpenSpec.ofChange crcConcatenationWrong)

/-- 'mailboatlaw02.CrcFrames': WHATEVER THE INPUT: true; the input reads as it did. -/
def crcFramesSpec : ChangeSpec := { name := "crcFrames", fn := fun _ => fun
  | [d1, d2] => { results := [.lit (.bool true)], args := [d1, d2] }
  | _ => none }
def crcFramesRow : OpenClaim := { program := "ytjfbmaeapokgaaa", sum := "e0074ab4722003301dedc3719f6039cc0856e3c7dc30f7091cbc71731720aa4a", func := "mailboat/mailboatlaw02.CrcFrames", spec := "crcFrames", unfollowed := true, recurses := true, apart := false }
def CrcFramesSaid : Prop := crcFramesRow.holds Try.pinned (OpenSpec.ofChange crcFramesSpec)

/-- ITS FALSE NEIGHBOUR: 'it returns false'. Refute it at one input. -/
def crcFramesWrong : ChangeSpec := { name := "crcFrames", fn := fun _ => fun
  | [d1, d2] => { results := [.lit (.bool false)], args := [d1, d2] }
  | _ => none }
def CrcFramesWrongFalsely : Prop := crcFramesRow.holds Try.pinned (OpenSpec.ofChange crcFramesWrong)

/-- 'mailboatlaw02.CrcOpens': WHATEVER THE INPUT: true; the input reads as it did. -/
def crcOpensSpec : ChangeSpec := { name := "crcOpens", fn := fun _ => fun
  | [d1, d2] => { results := [.lit (.bool true)], args := [d1, d2] }
  | _ => none }
def crcOpensRow : OpenClaim := { program := "ytjfbmaeapokgaaa", sum := "e0074ab4722003301dedc3719f6039cc0856e3c7dc30f7091cbc71731720aa4a", func := "mailboat/mailboatlaw02.CrcOpens", spec := "crcOpens", unfollowed := true, recurses := true, apart := false }
def CrcOpensSaid : Prop := crcOpensRow.holds Try.pinned (OpenSpec.ofChange crcOpensSpec)

/-- ITS FALSE NEIGHBOUR: 'it returns false'. Refute it at one input. -/
def crcOpensWrong : ChangeSpec := { name := "crcOpens", fn := fun _ => fun
  | [d1, d2] => { results := [.lit (.bool false)], args := [d1, d2] }
  | _ => none }
def CrcOpensWrongFalsely : Prop := crcOpensRow.holds Try.pinned (OpenSpec.ofChange crcOpensWrong)

/-- 'mailboatlaw02.CrcDamage': WHATEVER THE INPUT: true; the input reads as it did. -/
def crcDamageSpec : ChangeSpec := { name := "crcDamage", fn := fun _ => fun
  | [d1, d2, d3, d4] => { results := [.lit (.bool true)], args := [d1, d2, d3, d4] }
  | _ => none }
def crcDamageRow : OpenClaim := { program := "ytjfbmaeapokgaaa", sum := "e0074ab4722003301dedc3719f6039cc0856e3c7dc30f7091cbc71731720aa4a", func := "mailboat/mailboatlaw02.CrcDamage", spec := "crcDamage", unfollowed := true, recurses := true, apart := false }
def CrcDamageSaid : Prop := crcDamageRow.holds Try.pinned (OpenSpec.ofChange crcDamageSpec)

/-- ITS FALSE NEIGHBOUR: 'it returns false'. Refute it at one input. -/
def crcDamageWrong : ChangeSpec := { name := "crcDamage", fn := fun _ => fun
  | [d1, d2, d3, d4] => { results := [.lit (.bool false)], args := [d1, d2, d3, d4] }
  | _ => none }
def CrcDamageWrongFalsely : Prop := crcDamageRow.holds Try.pinned (OpenSpec.ofChange crcDamageWrong)

/-- 'mailboatlaw02.CrcZeros': WHATEVER THE INPUT: true; the input reads as it did. -/
def crcZerosSpec : ChangeSpec := { name := "crcZeros", fn := fun _ => fun
  | [d1, d2, d3, d4, d5, d6] => { results := [.lit (.bool true)], args := [d1, d2, d3, d4, d5, d6] }
  | _ => none }
def crcZerosRow : OpenClaim := { program := "ytjfbmaeapokgaaa", sum := "e0074ab4722003301dedc3719f6039cc0856e3c7dc30f7091cbc71731720aa4a", func := "mailboat/mailboatlaw02.CrcZeros", spec := "crcZeros", inPlace := ["internal/abi.NoEscape", "internal/bytealg.MakeNoZero"], unfollowed := true, recurses := true, apart := false }
def CrcZerosSaid : Prop := crcZerosRow.holds Try.pinned (OpenSpec.ofChange crcZerosSpec)

/-- ITS FALSE NEIGHBOUR: 'it returns false'. Refute it at one input. -/
def crcZerosWrong : ChangeSpec := { name := "crcZeros", fn := fun _ => fun
  | [d1, d2, d3, d4, d5, d6] => { results := [.lit (.bool false)], args := [d1, d2, d3, d4, d5, d6] }
  | _ => none }
def CrcZerosWrongFalsely : Prop := crcZerosRow.holds Try.pinned (OpenSpec.ofChange crcZerosWrong)

/-- 'mailboatlaw02.CrcLimits': WHATEVER THE INPUT: true; the input reads as it did. -/
def crcLimitsSpec : ChangeSpec := { name := "crcLimits", fn := fun _ => fun
  | [d1, d2] => { results := [.lit (.bool true)], args := [d1, d2] }
  | _ => none }
def crcLimitsRow : OpenClaim := { program := "ytjfbmaeapokgaaa", sum := "e0074ab4722003301dedc3719f6039cc0856e3c7dc30f7091cbc71731720aa4a", func := "mailboat/mailboatlaw02.CrcLimits", spec := "crcLimits", inPlace := ["internal/abi.NoEscape", "internal/bytealg.MakeNoZero"], unfollowed := true, recurses := true, apart := false }
def CrcLimitsSaid : Prop := crcLimitsRow.holds Try.pinned (OpenSpec.ofChange crcLimitsSpec)

/-- ITS FALSE NEIGHBOUR: 'it returns false'. Refute it at one input. -/
def crcLimitsWrong : ChangeSpec := { name := "crcLimits", fn := fun _ => fun
  | [d1, d2] => { results := [.lit (.bool false)], args := [d1, d2] }
  | _ => none }
def CrcLimitsWrongFalsely : Prop := crcLimitsRow.holds Try.pinned (OpenSpec.ofChange crcLimitsWrong)

/- THE SECOND FORM. 'bulk': how many values and letters a reading holds, each counted each time it is reached (what is shared counts as often as it is met; a slice's spare places count too). A statement '..UptoSaid' is the law's where the arguments, and the package variables that the reading takes, are together of bulk at most 1048576: NARROWER than '..Said'. Prove '..Said' where nothing that the law and all that it calls make is longer than what came in: it says more and counts as full. Else prove '..UptoSaid'. A law counts once. -/
mutual
def uptoBulk {H : Type} : DataW H → Nat
  | .lit (.string bytes) => bytes.length + 1
  | .lit _ => 1
  | .nil => 1
  | .ptr d => uptoBulk d + 1
  | .slice elems spare => uptoBulkAll elems + uptoBulkAll spare + 1
  | .agg parts => uptoBulkAll parts + 1
  | .iface _ d => uptoBulk d + 1
  | .map entries => uptoBulkEntries entries + 1
  | .held _ => 1
def uptoBulkAll {H : Type} : List (DataW H) → Nat
  | [] => 0
  | d :: r => uptoBulk d + uptoBulkAll r
def uptoBulkEntries {H : Type} : List (Lit × DataW H) → Nat
  | [] => 0
  | x :: r => uptoBulkEntry x + uptoBulkEntries r
def uptoBulkEntry {H : Type} : Lit × DataW H → Nat
  | (.string bytes, d) => bytes.length + uptoBulk d + 1
  | (_, d) => uptoBulk d + 1
 end
def uptoSmall : (H : Type) → List (DataW H) → Bool := fun _ ds => decide (uptoBulkAll ds ≤ 1048576)
def OpenSpec.upto (s : _root_.Go.ChangeSpec) : _root_.Go.OpenSpec := { _root_.Go.OpenSpec.ofChange s with cond := some uptoSmall }

/-- 'mailboatlaw02.CrcLinear', WHERE WHAT IT READS IS OF BULK AT MOST 1048576: true; the input reads as it did. -/
def crcLinearUptoRow : OpenClaim := { program := "ytjfbmaeapokgaaa", sum := "e0074ab4722003301dedc3719f6039cc0856e3c7dc30f7091cbc71731720aa4a", func := "mailboat/mailboatlaw02.CrcLinear", spec := "crcLinear", unfollowed := true, recurses := true, apart := false, narrowed := true }
def CrcLinearUptoSaid : Prop := crcLinearUptoRow.holds Try.pinned (OpenSpec.upto crcLinearSpec)

/-- 'mailboatlaw02.CrcDetects', WHERE WHAT IT READS IS OF BULK AT MOST 1048576: true; the input reads as it did. -/
def crcDetectsUptoRow : OpenClaim := { program := "ytjfbmaeapokgaaa", sum := "e0074ab4722003301dedc3719f6039cc0856e3c7dc30f7091cbc71731720aa4a", func := "mailboat/mailboatlaw02.CrcDetects", spec := "crcDetects", unfollowed := true, recurses := true, apart := false, narrowed := true }
def CrcDetectsUptoSaid : Prop := crcDetectsUptoRow.holds Try.pinned (OpenSpec.upto crcDetectsSpec)

/-- 'mailboatlaw02.CrcSums', WHERE WHAT IT READS IS OF BULK AT MOST 1048576: true; the input reads as it did. -/
def crcSumsUptoRow : OpenClaim := { program := "ytjfbmaeapokgaaa", sum := "e0074ab4722003301dedc3719f6039cc0856e3c7dc30f7091cbc71731720aa4a", func := "mailboat/mailboatlaw02.CrcSums", spec := "crcSums", unfollowed := true, recurses := true, apart := false, narrowed := true }
def CrcSumsUptoSaid : Prop := crcSumsUptoRow.holds Try.pinned (OpenSpec.upto crcSumsSpec)

/-- 'mailboatlaw02.CrcConcatenation', WHERE WHAT IT READS IS OF BULK AT MOST 1048576: true; the input reads as it did. -/
def crcConcatenationUptoRow : OpenClaim := { program := "ytjfbmaeapokgaaa", sum := "e0074ab4722003301dedc3719f6039cc0856e3c7dc30f7091cbc71731720aa4a", func := "mailboat/mailboatlaw02.CrcConcatenation", spec := "crcConcatenation", unfollowed := true, recurses := true, apart := false, narrowed := true }
def CrcConcatenationUptoSaid : Prop := crcConcatenationUptoRow.holds Try.pinned (OpenSpec.upto crcConcatenationSpec)

/-- 'mailboatlaw02.CrcFrames', WHERE WHAT IT READS IS OF BULK AT MOST 1048576: true; the input reads as it did. -/
def crcFramesUptoRow : OpenClaim := { program := "ytjfbmaeapokgaaa", sum := "e0074ab4722003301dedc3719f6039cc0856e3c7dc30f7091cbc71731720aa4a", func := "mailboat/mailboatlaw02.CrcFrames", spec := "crcFrames", unfollowed := true, recurses := true, apart := false, narrowed := true }
def CrcFramesUptoSaid : Prop := crcFramesUptoRow.holds Try.pinned (OpenSpec.upto crcFramesSpec)

/-- 'mailboatlaw02.CrcOpens', WHERE WHAT IT READS IS OF BULK AT MOST 1048576: true; the input reads as it did. -/
def crcOpensUptoRow : OpenClaim := { program := "ytjfbmaeapokgaaa", sum := "e0074ab4722003301dedc3719f6039cc0856e3c7dc30f7091cbc71731720aa4a", func := "mailboat/mailboatlaw02.CrcOpens", spec := "crcOpens", unfollowed := true, recurses := true, apart := false, narrowed := true }
def CrcOpensUptoSaid : Prop := crcOpensUptoRow.holds Try.pinned (OpenSpec.upto crcOpensSpec)

/-- 'mailboatlaw02.CrcDamage', WHERE WHAT IT READS IS OF BULK AT MOST 1048576: true; the input reads as it did. -/
def crcDamageUptoRow : OpenClaim := { program := "ytjfbmaeapokgaaa", sum := "e0074ab4722003301dedc3719f6039cc0856e3c7dc30f7091cbc71731720aa4a", func := "mailboat/mailboatlaw02.CrcDamage", spec := "crcDamage", unfollowed := true, recurses := true, apart := false, narrowed := true }
def CrcDamageUptoSaid : Prop := crcDamageUptoRow.holds Try.pinned (OpenSpec.upto crcDamageSpec)

/-- 'mailboatlaw02.CrcZeros', WHERE WHAT IT READS IS OF BULK AT MOST 1048576: true; the input reads as it did. -/
def crcZerosUptoRow : OpenClaim := { program := "ytjfbmaeapokgaaa", sum := "e0074ab4722003301dedc3719f6039cc0856e3c7dc30f7091cbc71731720aa4a", func := "mailboat/mailboatlaw02.CrcZeros", spec := "crcZeros", inPlace := ["internal/abi.NoEscape", "internal/bytealg.MakeNoZero"], unfollowed := true, recurses := true, apart := false, narrowed := true }
def CrcZerosUptoSaid : Prop := crcZerosUptoRow.holds Try.pinned (OpenSpec.upto crcZerosSpec)

/-- 'mailboatlaw02.CrcLimits', WHERE WHAT IT READS IS OF BULK AT MOST 1048576: true; the input reads as it did. -/
def crcLimitsUptoRow : OpenClaim := { program := "ytjfbmaeapokgaaa", sum := "e0074ab4722003301dedc3719f6039cc0856e3c7dc30f7091cbc71731720aa4a", func := "mailboat/mailboatlaw02.CrcLimits", spec := "crcLimits", inPlace := ["internal/abi.NoEscape", "internal/bytealg.MakeNoZero"], unfollowed := true, recurses := true, apart := false, narrowed := true }
def CrcLimitsUptoSaid : Prop := crcLimitsUptoRow.holds Try.pinned (OpenSpec.upto crcLimitsSpec)

end Rows
end Go.Proofs.Ytjfbmaeapokgaaa
