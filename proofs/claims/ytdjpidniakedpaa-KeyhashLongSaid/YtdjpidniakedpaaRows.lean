/-
  No cell of these rows narrows 'for every input' (looked for: loops, veiled, ifaces, maps, wideKeys, modest, calm, conditions, laid).
  DERIVED. THE GIVEN ROWS OF THIS SEAT. 8 by the template 'for every input the law returns true; each argument reads behind the call as it read before'; 0 by the template 'total and deterministic' (their statements: YtdjpidniakedpaaTotals.lean).
  GIVEN WITH THE SEED: the statements are not yours to turn. If you find one false, say at which input.
  Laid BY PROGRAM, IN A SANDBOX (cutbox-rows.mjs): the forced cells as the released guide's own fill.sh prints them over the translation 831efaee1861a883… (all of the seat's roots in one cut). By AI agents, Wed Nov 11 2026. No macro, syntax, notation, axiom, sorry.
-/
import Derived.Test.YtdjpidniakedpaaChecked
import GoSem.Claim
import GoSem.ClaimJoined
import GoSem.ClaimMapViews
import Derived.JoinedTies
import Derived.KernelRfl
namespace Go.Proofs.Ytdjpidniakedpaa
/- THE CELL 'sum', in the pinned program and in every row, IS THE sha256 OF THE DUMP (.gsa) THAT YtdjpidniakedpaaProg.lean LOADS. Nothing in Lean hashes anything: it is a label: what it is worth is what the hold of that sum in a sandbox is worth. -/
noncomputable def Try.pinned : Pinned := { name := "ytdjpidniakedpaa", sum := "831efaee1861a883a438139193c2350d4b1a333b7d4d5c8a8a821e4624b0ee64", checked := Try.checked }
namespace Rows
def none {H : Type} : Left H := { results := [], args := [] }

/-- 'mailboatlaw03.KeyhashSum': WHATEVER THE INPUT: true; the input reads as it did. -/
def keyhashSumSpec : ChangeSpec := { name := "keyhashSum", fn := fun _ => fun
  | [d1, d2, d3] => { results := [.lit (.bool true)], args := [d1, d2, d3] }
  | _ => none }
def keyhashSumRow : OpenClaim := { program := "ytdjpidniakedpaa", sum := "831efaee1861a883a438139193c2350d4b1a333b7d4d5c8a8a821e4624b0ee64", func := "mailboat/mailboatlaw03.KeyhashSum", spec := "keyhashSum", unfollowed := true, recurses := true, apart := false }
def KeyhashSumSaid : Prop := keyhashSumRow.holds Try.pinned (OpenSpec.ofChange keyhashSumSpec)

/-- ITS FALSE NEIGHBOUR: 'it returns false'. Refute it at one input. -/
def keyhashSumWrong : ChangeSpec := { name := "keyhashSum", fn := fun _ => fun
  | [d1, d2, d3] => { results := [.lit (.bool false)], args := [d1, d2, d3] }
  | _ => none }
def KeyhashSumWrongFalsely : Prop := keyhashSumRow.holds Try.pinned (OpenSpec.ofChange keyhashSumWrong)

/-- 'mailboatlaw03.KeyhashTags': WHATEVER THE INPUT: true; the input reads as it did. -/
def keyhashTagsSpec : ChangeSpec := { name := "keyhashTags", fn := fun _ => fun
  | [d1, d2, d3, d4] => { results := [.lit (.bool true)], args := [d1, d2, d3, d4] }
  | _ => none }
def keyhashTagsRow : OpenClaim := { program := "ytdjpidniakedpaa", sum := "831efaee1861a883a438139193c2350d4b1a333b7d4d5c8a8a821e4624b0ee64", func := "mailboat/mailboatlaw03.KeyhashTags", spec := "keyhashTags", unfollowed := true, recurses := true, apart := false }
def KeyhashTagsSaid : Prop := keyhashTagsRow.holds Try.pinned (OpenSpec.ofChange keyhashTagsSpec)

/-- ITS FALSE NEIGHBOUR: 'it returns false'. Refute it at one input. -/
def keyhashTagsWrong : ChangeSpec := { name := "keyhashTags", fn := fun _ => fun
  | [d1, d2, d3, d4] => { results := [.lit (.bool false)], args := [d1, d2, d3, d4] }
  | _ => none }
def KeyhashTagsWrongFalsely : Prop := keyhashTagsRow.holds Try.pinned (OpenSpec.ofChange keyhashTagsWrong)

/-- 'mailboatlaw03.KeyhashDerive': WHATEVER THE INPUT: true; the input reads as it did. -/
def keyhashDeriveSpec : ChangeSpec := { name := "keyhashDerive", fn := fun _ => fun
  | [d1, d2] => { results := [.lit (.bool true)], args := [d1, d2] }
  | _ => none }
def keyhashDeriveRow : OpenClaim := { program := "ytdjpidniakedpaa", sum := "831efaee1861a883a438139193c2350d4b1a333b7d4d5c8a8a821e4624b0ee64", func := "mailboat/mailboatlaw03.KeyhashDerive", spec := "keyhashDerive", unfollowed := true, recurses := true, apart := false }
def KeyhashDeriveSaid : Prop := keyhashDeriveRow.holds Try.pinned (OpenSpec.ofChange keyhashDeriveSpec)

/-- ITS FALSE NEIGHBOUR: 'it returns false'. Refute it at one input. -/
def keyhashDeriveWrong : ChangeSpec := { name := "keyhashDerive", fn := fun _ => fun
  | [d1, d2] => { results := [.lit (.bool false)], args := [d1, d2] }
  | _ => none }
def KeyhashDeriveWrongFalsely : Prop := keyhashDeriveRow.holds Try.pinned (OpenSpec.ofChange keyhashDeriveWrong)

/-- 'mailboatlaw03.KeyhashDerived': WHATEVER THE INPUT: true; the input reads as it did. -/
def keyhashDerivedSpec : ChangeSpec := { name := "keyhashDerived", fn := fun _ => fun
  | [d1, d2] => { results := [.lit (.bool true)], args := [d1, d2] }
  | _ => none }
def keyhashDerivedRow : OpenClaim := { program := "ytdjpidniakedpaa", sum := "831efaee1861a883a438139193c2350d4b1a333b7d4d5c8a8a821e4624b0ee64", func := "mailboat/mailboatlaw03.KeyhashDerived", spec := "keyhashDerived", unfollowed := true, recurses := true, apart := false }
def KeyhashDerivedSaid : Prop := keyhashDerivedRow.holds Try.pinned (OpenSpec.ofChange keyhashDerivedSpec)

/-- ITS FALSE NEIGHBOUR: 'it returns false'. Refute it at one input. -/
def keyhashDerivedWrong : ChangeSpec := { name := "keyhashDerived", fn := fun _ => fun
  | [d1, d2] => { results := [.lit (.bool false)], args := [d1, d2] }
  | _ => none }
def KeyhashDerivedWrongFalsely : Prop := keyhashDerivedRow.holds Try.pinned (OpenSpec.ofChange keyhashDerivedWrong)

/-- 'mailboatlaw03.KeyhashKeys': WHATEVER THE INPUT: true; the input reads as it did. -/
def keyhashKeysSpec : ChangeSpec := { name := "keyhashKeys", fn := fun _ => fun
  | [d1, d2] => { results := [.lit (.bool true)], args := [d1, d2] }
  | _ => none }
def keyhashKeysRow : OpenClaim := { program := "ytdjpidniakedpaa", sum := "831efaee1861a883a438139193c2350d4b1a333b7d4d5c8a8a821e4624b0ee64", func := "mailboat/mailboatlaw03.KeyhashKeys", spec := "keyhashKeys", unfollowed := true, recurses := true, apart := false }
def KeyhashKeysSaid : Prop := keyhashKeysRow.holds Try.pinned (OpenSpec.ofChange keyhashKeysSpec)

/-- ITS FALSE NEIGHBOUR: 'it returns false'. Refute it at one input. -/
def keyhashKeysWrong : ChangeSpec := { name := "keyhashKeys", fn := fun _ => fun
  | [d1, d2] => { results := [.lit (.bool false)], args := [d1, d2] }
  | _ => none }
def KeyhashKeysWrongFalsely : Prop := keyhashKeysRow.holds Try.pinned (OpenSpec.ofChange keyhashKeysWrong)

/-- 'mailboatlaw03.KeyhashChain': WHATEVER THE INPUT: true; the input reads as it did. -/
def keyhashChainSpec : ChangeSpec := { name := "keyhashChain", fn := fun _ => fun
  | [d1, d2] => { results := [.lit (.bool true)], args := [d1, d2] }
  | _ => none }
def keyhashChainRow : OpenClaim := { program := "ytdjpidniakedpaa", sum := "831efaee1861a883a438139193c2350d4b1a333b7d4d5c8a8a821e4624b0ee64", func := "mailboat/mailboatlaw03.KeyhashChain", spec := "keyhashChain", inPlace := ["internal/abi.NoEscape", "internal/bytealg.MakeNoZero"], unfollowed := true, recurses := true, apart := false }
def KeyhashChainSaid : Prop := keyhashChainRow.holds Try.pinned (OpenSpec.ofChange keyhashChainSpec)

/-- ITS FALSE NEIGHBOUR: 'it returns false'. Refute it at one input. -/
def keyhashChainWrong : ChangeSpec := { name := "keyhashChain", fn := fun _ => fun
  | [d1, d2] => { results := [.lit (.bool false)], args := [d1, d2] }
  | _ => none }
def KeyhashChainWrongFalsely : Prop := keyhashChainRow.holds Try.pinned (OpenSpec.ofChange keyhashChainWrong)

/-- 'mailboatlaw03.KeyhashChained': WHATEVER THE INPUT: true; the input reads as it did. -/
def keyhashChainedSpec : ChangeSpec := { name := "keyhashChained", fn := fun _ => fun
  | [d1, d2] => { results := [.lit (.bool true)], args := [d1, d2] }
  | _ => none }
def keyhashChainedRow : OpenClaim := { program := "ytdjpidniakedpaa", sum := "831efaee1861a883a438139193c2350d4b1a333b7d4d5c8a8a821e4624b0ee64", func := "mailboat/mailboatlaw03.KeyhashChained", spec := "keyhashChained", inPlace := ["internal/abi.NoEscape", "internal/bytealg.MakeNoZero"], unfollowed := true, recurses := true, apart := false }
def KeyhashChainedSaid : Prop := keyhashChainedRow.holds Try.pinned (OpenSpec.ofChange keyhashChainedSpec)

/-- ITS FALSE NEIGHBOUR: 'it returns false'. Refute it at one input. -/
def keyhashChainedWrong : ChangeSpec := { name := "keyhashChained", fn := fun _ => fun
  | [d1, d2] => { results := [.lit (.bool false)], args := [d1, d2] }
  | _ => none }
def KeyhashChainedWrongFalsely : Prop := keyhashChainedRow.holds Try.pinned (OpenSpec.ofChange keyhashChainedWrong)

/-- 'mailboatlaw03.KeyhashLong': WHATEVER THE INPUT: true; the input reads as it did. -/
def keyhashLongSpec : ChangeSpec := { name := "keyhashLong", fn := fun _ => fun
  | [d1, d2] => { results := [.lit (.bool true)], args := [d1, d2] }
  | _ => none }
def keyhashLongRow : OpenClaim := { program := "ytdjpidniakedpaa", sum := "831efaee1861a883a438139193c2350d4b1a333b7d4d5c8a8a821e4624b0ee64", func := "mailboat/mailboatlaw03.KeyhashLong", spec := "keyhashLong", inPlace := ["internal/abi.NoEscape", "internal/bytealg.MakeNoZero"], unfollowed := true, recurses := true, apart := false }
def KeyhashLongSaid : Prop := keyhashLongRow.holds Try.pinned (OpenSpec.ofChange keyhashLongSpec)

/-- ITS FALSE NEIGHBOUR: 'it returns false'. Refute it at one input. -/
def keyhashLongWrong : ChangeSpec := { name := "keyhashLong", fn := fun _ => fun
  | [d1, d2] => { results := [.lit (.bool false)], args := [d1, d2] }
  | _ => none }
def KeyhashLongWrongFalsely : Prop := keyhashLongRow.holds Try.pinned (OpenSpec.ofChange keyhashLongWrong)

/- THE SECOND FORM. 'bulk': how many values and letters a reading holds, each counted each time it is reached (what is shared counts as often as it is met; a slice's spare places count too). A statement '..UptoSaid' is the law's where the arguments, and the package variables that the reading takes, are together of bulk at most 1048576: NARROWER than '..Said'. Prove '..Said' where nothing that the law and all that it calls make is longer than what came in: it says more and counts as full. Else prove '..UptoSaid'. A law counts once. -/
mutual
def uptoBulk {H : Type} : DataW H → Nat
  | .lit (.string bytes) => bytes.length + 1
  | .lit _ => 1
  | .nil => 1
  | .ptr d => uptoBulk d + 1
  | .slice elems spare => uptoBulkAll elems + uptoBulkAll spare + 1
  | .agg parts => uptoBulkAll parts + 1
  | .iface _ d => uptoBulk d + 1
  | .map entries => uptoBulkEntries entries + 1
  | .held _ => 1
def uptoBulkAll {H : Type} : List (DataW H) → Nat
  | [] => 0
  | d :: r => uptoBulk d + uptoBulkAll r
def uptoBulkEntries {H : Type} : List (Lit × DataW H) → Nat
  | [] => 0
  | x :: r => uptoBulkEntry x + uptoBulkEntries r
def uptoBulkEntry {H : Type} : Lit × DataW H → Nat
  | (.string bytes, d) => bytes.length + uptoBulk d + 1
  | (_, d) => uptoBulk d + 1
 end
def uptoSmall : (H : Type) → List (DataW H) → Bool := fun _ ds => decide (uptoBulkAll ds ≤ 1048576)
def OpenSpec.upto (s : _root_.Go.ChangeSpec) : _root_.Go.OpenSpec := { _root_.Go.OpenSpec.ofChange s with cond := some uptoSmall }

/-- 'mailboatlaw03.KeyhashSum', WHERE WHAT IT READS IS OF BULK AT MOST 1048576: true; the input reads as it did. -/
def keyhashSumUptoRow : OpenClaim := { program := "ytdjpidniakedpaa", sum := "831efaee1861a883a438139193c2350d4b1a333b7d4d5c8a8a821e4624b0ee64", func := "mailboat/mailboatlaw03.KeyhashSum", spec := "keyhashSum", unfollowed := true, recurses := true, apart := false, narrowed := true }
def KeyhashSumUptoSaid : Prop := keyhashSumUptoRow.holds Try.pinned (OpenSpec.upto keyhashSumSpec)

/-- 'mailboatlaw03.KeyhashTags', WHERE WHAT IT READS IS OF BULK AT MOST 1048576: true; the input reads as it did. -/
def keyhashTagsUptoRow : OpenClaim := { program := "ytdjpidniakedpaa", sum := "831efaee1861a883a438139193c2350d4b1a333b7d4d5c8a8a821e4624b0ee64", func := "mailboat/mailboatlaw03.KeyhashTags", spec := "keyhashTags", unfollowed := true, recurses := true, apart := false, narrowed := true }
def KeyhashTagsUptoSaid : Prop := keyhashTagsUptoRow.holds Try.pinned (OpenSpec.upto keyhashTagsSpec)

/-- 'mailboatlaw03.KeyhashDerive', WHERE WHAT IT READS IS OF BULK AT MOST 1048576: true; the input reads as it did. -/
def keyhashDeriveUptoRow : OpenClaim := { program := "ytdjpidniakedpaa", sum := "831efaee1861a883a438139193c2350d4b1a333b7d4d5c8a8a821e4624b0ee64", func := "mailboat/mailboatlaw03.KeyhashDerive", spec := "keyhashDerive", unfollowed := true, recurses := true, apart := false, narrowed := true }
def KeyhashDeriveUptoSaid : Prop := keyhashDeriveUptoRow.holds Try.pinned (OpenSpec.upto keyhashDeriveSpec)

/-- 'mailboatlaw03.KeyhashDerived', WHERE WHAT IT READS IS OF BULK AT MOST 1048576: true; the input reads as it did. -/
def keyhashDerivedUptoRow : OpenClaim := { program := "ytdjpidniakedpaa", sum := "831efaee1861a883a438139193c2350d4b1a333b7d4d5c8a8a821e4624b0ee64", func := "mailboat/mailboatlaw03.KeyhashDerived", spec := "keyhashDerived", unfollowed := true, recurses := true, apart := false, narrowed := true }
def KeyhashDerivedUptoSaid : Prop := keyhashDerivedUptoRow.holds Try.pinned (OpenSpec.upto keyhashDerivedSpec)

/-- 'mailboatlaw03.KeyhashKeys', WHERE WHAT IT READS IS OF BULK AT MOST 1048576: true; the input reads as it did. -/
def keyhashKeysUptoRow : OpenClaim := { program := "ytdjpidniakedpaa", sum := "831efaee1861a883a438139193c2350d4b1a333b7d4d5c8a8a821e4624b0ee64", func := "mailboat/mailboatlaw03.KeyhashKeys", spec := "keyhashKeys", unfollowed := true, recurses := true, apart := false, narrowed := true }
def KeyhashKeysUptoSaid : Prop := keyhashKeysUptoRow.holds Try.pinned (OpenSpec.upto keyhashKeysSpec)

/-- 'mailboatlaw03.KeyhashChain', WHERE WHAT IT READS IS OF BULK AT MOST 1048576: true; the input reads as it did. -/
def keyhashChainUptoRow : OpenClaim := { program := "ytdjpidniakedpaa", sum := "831efaee1861a883a438139193c2350d4b1a333b7d4d5c8a8a821e4624b0ee64", func := "mailboat/mailboatlaw03.KeyhashChain", spec := "keyhashChain", inPlace := ["internal/abi.NoEscape", "internal/bytealg.MakeNoZero"], unfollowed := true, recurses := true, apart := false, narrowed := true }
def KeyhashChainUptoSaid : Prop := keyhashChainUptoRow.holds Try.pinned (OpenSpec.upto keyhashChainSpec)

/-- 'mailboatlaw03.KeyhashChained', WHERE WHAT IT READS IS OF BULK AT MOST 1048576: true; the input reads as it did. -/
def keyhashChainedUptoRow : OpenClaim := { program := "ytdjpidniakedpaa", sum := "831efaee1861a883a438139193c2350d4b1a333b7d4d5c8a8a821e4624b0ee64", func := "mailboat/mailboatlaw03.KeyhashChained", spec := "keyhashChained", inPlace := ["internal/abi.NoEscape", "internal/bytealg.MakeNoZero"], unfollowed := true, recurses := true, apart := false, narrowed := true }
def KeyhashChainedUptoSaid : Prop := keyhashChainedUptoRow.holds Try.pinned (OpenSpec.upto keyhashChainedSpec)

/-- 'mailboatlaw03.KeyhashLong', WHERE WHAT IT READS IS OF BULK AT MOST 1048576: true; the input reads as it did. -/
def keyhashLongUptoRow : OpenClaim := { program := "ytdjpidniakedpaa", sum := "831efaee1861a883a438139193c2350d4b1a333b7d4d5c8a8a821e4624b0ee64", func := "mailboat/mailboatlaw03.KeyhashLong", spec := "keyhashLong", inPlace := ["internal/abi.NoEscape", "internal/bytealg.MakeNoZero"], unfollowed := true, recurses := true, apart := false, narrowed := true }
def KeyhashLongUptoSaid : Prop := keyhashLongUptoRow.holds Try.pinned (OpenSpec.upto keyhashLongSpec)

end Rows
end Go.Proofs.Ytdjpidniakedpaa
