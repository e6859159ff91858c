/-
  No cell of these rows narrows 'for every input' (looked for: loops, veiled, ifaces, maps, wideKeys, modest, calm, conditions, laid).
  DERIVED. THE GIVEN ROWS OF THIS SEAT. 7 by the template 'for every input the law returns true; each argument reads behind the call as it read before'; 0 by the template 'total and deterministic' (their statements: YtmpcjhfhhphioaaTotals.lean).
  GIVEN WITH THE SEED: the statements are not yours to turn. If you find one false, say at which input.
  Laid BY PROGRAM, IN A SANDBOX (cutbox-rows.mjs): the forced cells as the released guide's own fill.sh prints them over the translation 6ac3d8d23ed20bf4… (all of the seat's roots in one cut). By AI agents, Wed Nov 11 2026. No macro, syntax, notation, axiom, sorry.
-/
import Derived.Test.YtmpcjhfhhphioaaChecked
import GoSem.Claim
import GoSem.ClaimJoined
import GoSem.ClaimMapViews
import Derived.JoinedTies
import Derived.KernelRfl
namespace Go.Proofs.Ytmpcjhfhhphioaa
/- THE CELL 'sum', in the pinned program and in every row, IS THE sha256 OF THE DUMP (.gsa) THAT YtmpcjhfhhphioaaProg.lean LOADS. Nothing in Lean hashes anything: it is a label: what it is worth is what the hold of that sum in a sandbox is worth. -/
noncomputable def Try.pinned : Pinned := { name := "ytmpcjhfhhphioaa", sum := "6ac3d8d23ed20bf44c1f76ec5a69f7163dbef8acef7856a02ee93dd11609d898", checked := Try.checked }
namespace Rows
def none {H : Type} : Left H := { results := [], args := [] }

/-- 'mailboatlaw01.VarintWrites': WHATEVER THE INPUT: true; the input reads as it did. -/
def varintWritesSpec : ChangeSpec := { name := "varintWrites", fn := fun _ => fun
  | [d1, d2, d3] => { results := [.lit (.bool true)], args := [d1, d2, d3] }
  | _ => none }
def varintWritesRow : OpenClaim := { program := "ytmpcjhfhhphioaa", sum := "6ac3d8d23ed20bf44c1f76ec5a69f7163dbef8acef7856a02ee93dd11609d898", func := "mailboat/mailboatlaw01.VarintWrites", spec := "varintWrites", unfollowed := true, recurses := true, apart := false }
def VarintWritesSaid : Prop := varintWritesRow.holds Try.pinned (OpenSpec.ofChange varintWritesSpec)

/-- ITS FALSE NEIGHBOUR: 'it returns false'. Refute it at one input. -/
def varintWritesWrong : ChangeSpec := { name := "varintWrites", fn := fun _ => fun
  | [d1, d2, d3] => { results := [.lit (.bool false)], args := [d1, d2, d3] }
  | _ => none }
def VarintWritesWrongFalsely : Prop := varintWritesRow.holds Try.pinned (OpenSpec.ofChange varintWritesWrong)

/-- 'mailboatlaw01.VarintSizes': WHATEVER THE INPUT: true; the input reads as it did. -/
def varintSizesSpec : ChangeSpec := { name := "varintSizes", fn := fun _ => fun
  | [d1, d2] => { results := [.lit (.bool true)], args := [d1, d2] }
  | _ => none }
def varintSizesRow : OpenClaim := { program := "ytmpcjhfhhphioaa", sum := "6ac3d8d23ed20bf44c1f76ec5a69f7163dbef8acef7856a02ee93dd11609d898", func := "mailboat/mailboatlaw01.VarintSizes", spec := "varintSizes", unfollowed := true, recurses := true, apart := false }
def VarintSizesSaid : Prop := varintSizesRow.holds Try.pinned (OpenSpec.ofChange varintSizesSpec)

/-- ITS FALSE NEIGHBOUR: 'it returns false'. Refute it at one input. -/
def varintSizesWrong : ChangeSpec := { name := "varintSizes", fn := fun _ => fun
  | [d1, d2] => { results := [.lit (.bool false)], args := [d1, d2] }
  | _ => none }
def VarintSizesWrongFalsely : Prop := varintSizesRow.holds Try.pinned (OpenSpec.ofChange varintSizesWrong)

/-- 'mailboatlaw01.VarintReads': WHATEVER THE INPUT: true; the input reads as it did. -/
def varintReadsSpec : ChangeSpec := { name := "varintReads", fn := fun _ => fun
  | [d] => { results := [.lit (.bool true)], args := [d] }
  | _ => none }
def varintReadsRow : OpenClaim := { program := "ytmpcjhfhhphioaa", sum := "6ac3d8d23ed20bf44c1f76ec5a69f7163dbef8acef7856a02ee93dd11609d898", func := "mailboat/mailboatlaw01.VarintReads", spec := "varintReads", unfollowed := true, recurses := true, apart := false }
def VarintReadsSaid : Prop := varintReadsRow.holds Try.pinned (OpenSpec.ofChange varintReadsSpec)

/-- ITS FALSE NEIGHBOUR: 'it returns false'. Refute it at one input. -/
def varintReadsWrong : ChangeSpec := { name := "varintReads", fn := fun _ => fun
  | [d] => { results := [.lit (.bool false)], args := [d] }
  | _ => none }
def VarintReadsWrongFalsely : Prop := varintReadsRow.holds Try.pinned (OpenSpec.ofChange varintReadsWrong)

/-- 'mailboatlaw01.VarintRoundTrip': WHATEVER THE INPUT: true; the input reads as it did. -/
def varintRoundTripSpec : ChangeSpec := { name := "varintRoundTrip", fn := fun _ => fun
  | [d1, d2, d3, d4] => { results := [.lit (.bool true)], args := [d1, d2, d3, d4] }
  | _ => none }
def varintRoundTripRow : OpenClaim := { program := "ytmpcjhfhhphioaa", sum := "6ac3d8d23ed20bf44c1f76ec5a69f7163dbef8acef7856a02ee93dd11609d898", func := "mailboat/mailboatlaw01.VarintRoundTrip", spec := "varintRoundTrip", unfollowed := true, recurses := true, apart := false }
def VarintRoundTripSaid : Prop := varintRoundTripRow.holds Try.pinned (OpenSpec.ofChange varintRoundTripSpec)

/-- ITS FALSE NEIGHBOUR: 'it returns false'. Refute it at one input. -/
def varintRoundTripWrong : ChangeSpec := { name := "varintRoundTrip", fn := fun _ => fun
  | [d1, d2, d3, d4] => { results := [.lit (.bool false)], args := [d1, d2, d3, d4] }
  | _ => none }
def VarintRoundTripWrongFalsely : Prop := varintRoundTripRow.holds Try.pinned (OpenSpec.ofChange varintRoundTripWrong)

/-- 'mailboatlaw01.VarintCanonical': WHATEVER THE INPUT: true; the input reads as it did. -/
def varintCanonicalSpec : ChangeSpec := { name := "varintCanonical", fn := fun _ => fun
  | [d] => { results := [.lit (.bool true)], args := [d] }
  | _ => none }
def varintCanonicalRow : OpenClaim := { program := "ytmpcjhfhhphioaa", sum := "6ac3d8d23ed20bf44c1f76ec5a69f7163dbef8acef7856a02ee93dd11609d898", func := "mailboat/mailboatlaw01.VarintCanonical", spec := "varintCanonical", unfollowed := true, recurses := true, apart := false }
def VarintCanonicalSaid : Prop := varintCanonicalRow.holds Try.pinned (OpenSpec.ofChange varintCanonicalSpec)

/-- ITS FALSE NEIGHBOUR: 'it returns false'. Refute it at one input. -/
def varintCanonicalWrong : ChangeSpec := { name := "varintCanonical", fn := fun _ => fun
  | [d] => { results := [.lit (.bool false)], args := [d] }
  | _ => none }
def VarintCanonicalWrongFalsely : Prop := varintCanonicalRow.holds Try.pinned (OpenSpec.ofChange varintCanonicalWrong)

/-- 'mailboatlaw01.VarintBeginnings': WHATEVER THE INPUT: true; the input reads as it did. -/
def varintBeginningsSpec : ChangeSpec := { name := "varintBeginnings", fn := fun _ => fun
  | [d1, d2, d3, d4] => { results := [.lit (.bool true)], args := [d1, d2, d3, d4] }
  | _ => none }
def varintBeginningsRow : OpenClaim := { program := "ytmpcjhfhhphioaa", sum := "6ac3d8d23ed20bf44c1f76ec5a69f7163dbef8acef7856a02ee93dd11609d898", func := "mailboat/mailboatlaw01.VarintBeginnings", spec := "varintBeginnings", unfollowed := true, recurses := true, apart := false }
def VarintBeginningsSaid : Prop := varintBeginningsRow.holds Try.pinned (OpenSpec.ofChange varintBeginningsSpec)

/-- ITS FALSE NEIGHBOUR: 'it returns false'. Refute it at one input. -/
def varintBeginningsWrong : ChangeSpec := { name := "varintBeginnings", fn := fun _ => fun
  | [d1, d2, d3, d4] => { results := [.lit (.bool false)], args := [d1, d2, d3, d4] }
  | _ => none }
def VarintBeginningsWrongFalsely : Prop := varintBeginningsRow.holds Try.pinned (OpenSpec.ofChange varintBeginningsWrong)

/-- 'mailboatlaw01.VarintLong': WHATEVER THE INPUT: true; the input reads as it did. -/
def varintLongSpec : ChangeSpec := { name := "varintLong", fn := fun _ => fun
  | [d] => { results := [.lit (.bool true)], args := [d] }
  | _ => none }
def varintLongRow : OpenClaim := { program := "ytmpcjhfhhphioaa", sum := "6ac3d8d23ed20bf44c1f76ec5a69f7163dbef8acef7856a02ee93dd11609d898", func := "mailboat/mailboatlaw01.VarintLong", spec := "varintLong", inPlace := ["internal/abi.NoEscape", "internal/bytealg.MakeNoZero"], unfollowed := true, recurses := true, apart := false }
def VarintLongSaid : Prop := varintLongRow.holds Try.pinned (OpenSpec.ofChange varintLongSpec)

/-- ITS FALSE NEIGHBOUR: 'it returns false'. Refute it at one input. -/
def varintLongWrong : ChangeSpec := { name := "varintLong", fn := fun _ => fun
  | [d] => { results := [.lit (.bool false)], args := [d] }
  | _ => none }
def VarintLongWrongFalsely : Prop := varintLongRow.holds Try.pinned (OpenSpec.ofChange varintLongWrong)

/- THE SECOND FORM. 'bulk': how many values and letters a reading holds, each counted each time it is reached (what is shared counts as often as it is met; a slice's spare places count too). A statement '..UptoSaid' is the law's where the arguments, and the package variables that the reading takes, are together of bulk at most 1048576: NARROWER than '..Said'. Prove '..Said' where nothing that the law and all that it calls make is longer than what came in: it says more and counts as full. Else prove '..UptoSaid'. A law counts once. -/
mutual
def uptoBulk {H : Type} : DataW H → Nat
  | .lit (.string bytes) => bytes.length + 1
  | .lit _ => 1
  | .nil => 1
  | .ptr d => uptoBulk d + 1
  | .slice elems spare => uptoBulkAll elems + uptoBulkAll spare + 1
  | .agg parts => uptoBulkAll parts + 1
  | .iface _ d => uptoBulk d + 1
  | .map entries => uptoBulkEntries entries + 1
  | .held _ => 1
def uptoBulkAll {H : Type} : List (DataW H) → Nat
  | [] => 0
  | d :: r => uptoBulk d + uptoBulkAll r
def uptoBulkEntries {H : Type} : List (Lit × DataW H) → Nat
  | [] => 0
  | x :: r => uptoBulkEntry x + uptoBulkEntries r
def uptoBulkEntry {H : Type} : Lit × DataW H → Nat
  | (.string bytes, d) => bytes.length + uptoBulk d + 1
  | (_, d) => uptoBulk d + 1
 end
def uptoSmall : (H : Type) → List (DataW H) → Bool := fun _ ds => decide (uptoBulkAll ds ≤ 1048576)
def OpenSpec.upto (s : _root_.Go.ChangeSpec) : _root_.Go.OpenSpec := { _root_.Go.OpenSpec.ofChange s with cond := some uptoSmall }

/-- 'mailboatlaw01.VarintWrites', WHERE WHAT IT READS IS OF BULK AT MOST 1048576: true; the input reads as it did. -/
def varintWritesUptoRow : OpenClaim := { program := "ytmpcjhfhhphioaa", sum := "6ac3d8d23ed20bf44c1f76ec5a69f7163dbef8acef7856a02ee93dd11609d898", func := "mailboat/mailboatlaw01.VarintWrites", spec := "varintWrites", unfollowed := true, recurses := true, apart := false, narrowed := true }
def VarintWritesUptoSaid : Prop := varintWritesUptoRow.holds Try.pinned (OpenSpec.upto varintWritesSpec)

/-- 'mailboatlaw01.VarintSizes', WHERE WHAT IT READS IS OF BULK AT MOST 1048576: true; the input reads as it did. -/
def varintSizesUptoRow : OpenClaim := { program := "ytmpcjhfhhphioaa", sum := "6ac3d8d23ed20bf44c1f76ec5a69f7163dbef8acef7856a02ee93dd11609d898", func := "mailboat/mailboatlaw01.VarintSizes", spec := "varintSizes", unfollowed := true, recurses := true, apart := false, narrowed := true }
def VarintSizesUptoSaid : Prop := varintSizesUptoRow.holds Try.pinned (OpenSpec.upto varintSizesSpec)

/-- 'mailboatlaw01.VarintReads', WHERE WHAT IT READS IS OF BULK AT MOST 1048576: true; the input reads as it did. -/
def varintReadsUptoRow : OpenClaim := { program := "ytmpcjhfhhphioaa", sum := "6ac3d8d23ed20bf44c1f76ec5a69f7163dbef8acef7856a02ee93dd11609d898", func := "mailboat/mailboatlaw01.VarintReads", spec := "varintReads", unfollowed := true, recurses := true, apart := false, narrowed := true }
def VarintReadsUptoSaid : Prop := varintReadsUptoRow.holds Try.pinned (OpenSpec.upto varintReadsSpec)

/-- 'mailboatlaw01.VarintRoundTrip', WHERE WHAT IT READS IS OF BULK AT MOST 1048576: true; the input reads as it did. -/
def varintRoundTripUptoRow : OpenClaim := { program := "ytmpcjhfhhphioaa", sum := "6ac3d8d23ed20bf44c1f76ec5a69f7163dbef8acef7856a02ee93dd11609d898", func := "mailboat/mailboatlaw01.VarintRoundTrip", spec := "varintRoundTrip", unfollowed := true, recurses := true, apart := false, narrowed := true }
def VarintRoundTripUptoSaid : Prop := varintRoundTripUptoRow.holds Try.pinned (OpenSpec.upto varintRoundTripSpec)

/-- 'mailboatlaw01.VarintCanonical', WHERE WHAT IT READS IS OF BULK AT MOST 1048576: true; the input reads as it did. -/
def varintCanonicalUptoRow : OpenClaim := { program := "ytmpcjhfhhphioaa", sum := "6ac3d8d23ed20bf44c1f76ec5a69f7163dbef8acef7856a02ee93dd11609d898", func := "mailboat/mailboatlaw01.VarintCanonical", spec := "varintCanonical", unfollowed := true, recurses := true, apart := false, narrowed := true }
def VarintCanonicalUptoSaid : Prop := varintCanonicalUptoRow.holds Try.pinned (OpenSpec.upto varintCanonicalSpec)

/-- 'mailboatlaw01.VarintBeginnings', WHERE WHAT IT READS IS OF BULK AT MOST 1048576: true; the input reads as it did. -/
def varintBeginningsUptoRow : OpenClaim := { program := "ytmpcjhfhhphioaa", sum := "6ac3d8d23ed20bf44c1f76ec5a69f7163dbef8acef7856a02ee93dd11609d898", func := "mailboat/mailboatlaw01.VarintBeginnings", spec := "varintBeginnings", unfollowed := true, recurses := true, apart := false, narrowed := true }
def VarintBeginningsUptoSaid : Prop := varintBeginningsUptoRow.holds Try.pinned (OpenSpec.upto varintBeginningsSpec)

/-- 'mailboatlaw01.VarintLong', WHERE WHAT IT READS IS OF BULK AT MOST 1048576: true; the input reads as it did. -/
def varintLongUptoRow : OpenClaim := { program := "ytmpcjhfhhphioaa", sum := "6ac3d8d23ed20bf44c1f76ec5a69f7163dbef8acef7856a02ee93dd11609d898", func := "mailboat/mailboatlaw01.VarintLong", spec := "varintLong", inPlace := ["internal/abi.NoEscape", "internal/bytealg.MakeNoZero"], unfollowed := true, recurses := true, apart := false, narrowed := true }
def VarintLongUptoSaid : Prop := varintLongUptoRow.holds Try.pinned (OpenSpec.upto varintLongSpec)

end Rows
end Go.Proofs.Ytmpcjhfhhphioaa
