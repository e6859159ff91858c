/-
  No cell of these rows narrows 'for every input' (looked for: loops, veiled, ifaces, maps, wideKeys, modest, calm, conditions, laid).
  DERIVED. THE GIVEN ROWS OF THIS SEAT. 4 by the template 'for every input the law returns true; each argument reads behind the call as it read before'; 0 by the template 'total and deterministic' (their statements: YtebkgbmijocdjaaGreatTotals.lean).
  GIVEN WITH THE SEED: the statements are not yours to turn. If you find one false, say at which input.
  Laid BY PROGRAM, IN A SANDBOX (cutbox-rows.mjs): the forced cells as the released guide's own fill.sh prints them over the translation e40f8314365ba70f… (all of the seat's roots in one cut). By AI agents, Wed Nov 11 2026. No macro, syntax, notation, axiom, sorry.
-/
import Derived.Test.YtebkgbmijocdjaaGreatChecked
import GoSem.Claim
import GoSem.ClaimJoined
import GoSem.ClaimMapViews
import Derived.JoinedTies
import Derived.KernelRfl
namespace Go.Proofs.YtebkgbmijocdjaaGreat
/- THE CELL 'sum', in the pinned program and in every row, IS THE sha256 OF THE DUMP (.gsa) THAT YtebkgbmijocdjaaGreatProg.lean LOADS. Nothing in Lean hashes anything: it is a label: what it is worth is what the hold of that sum in a sandbox is worth. -/
noncomputable def Tryz.pinned : Pinned := { name := "ytebkgbmijocdjaagreat", sum := "e40f8314365ba70f325a8571749d0f86f4c2803199b51069407727f5e3414700", checked := Tryz.checked }
namespace Rows
def none {H : Type} : Left H := { results := [], args := [] }

/-- 'mailboattop.TopLeastRoute': WHATEVER THE INPUT: true; the input reads as it did. -/
def topLeastRouteSpec : ChangeSpec := { name := "topLeastRoute", fn := fun _ => fun
  | [d1, d2] => { results := [.lit (.bool true)], args := [d1, d2] }
  | _ => none }
def topLeastRouteRow : OpenClaim := { program := "ytebkgbmijocdjaagreat", sum := "e40f8314365ba70f325a8571749d0f86f4c2803199b51069407727f5e3414700", func := "mailboat/mailboattop.TopLeastRoute", spec := "topLeastRoute", inPlace := ["slices.overlaps[mailboat/api.Booking]", "slices.overlaps[mailboat/api.Hold]"], unfollowed := true, recurses := true, apart := false }
def TopLeastRouteSaid : Prop := topLeastRouteRow.holds Tryz.pinned (OpenSpec.ofChange topLeastRouteSpec)

/-- ITS FALSE NEIGHBOUR: 'it returns false'. Refute it at one input. -/
def topLeastRouteWrong : ChangeSpec := { name := "topLeastRoute", fn := fun _ => fun
  | [d1, d2] => { results := [.lit (.bool false)], args := [d1, d2] }
  | _ => none }
def TopLeastRouteWrongFalsely : Prop := topLeastRouteRow.holds Tryz.pinned (OpenSpec.ofChange topLeastRouteWrong)

/-- 'mailboattop.TopPriorities': WHATEVER THE INPUT: true; the input reads as it did. -/
def topPrioritiesSpec : ChangeSpec := { name := "topPriorities", fn := fun _ => fun
  | [d1, d2] => { results := [.lit (.bool true)], args := [d1, d2] }
  | _ => none }
def topPrioritiesRow : OpenClaim := { program := "ytebkgbmijocdjaagreat", sum := "e40f8314365ba70f325a8571749d0f86f4c2803199b51069407727f5e3414700", func := "mailboat/mailboattop.TopPriorities", spec := "topPriorities", unfollowed := true, recurses := true, apart := false }
def TopPrioritiesSaid : Prop := topPrioritiesRow.holds Tryz.pinned (OpenSpec.ofChange topPrioritiesSpec)

/-- ITS FALSE NEIGHBOUR: 'it returns false'. Refute it at one input. -/
def topPrioritiesWrong : ChangeSpec := { name := "topPriorities", fn := fun _ => fun
  | [d1, d2] => { results := [.lit (.bool false)], args := [d1, d2] }
  | _ => none }
def TopPrioritiesWrongFalsely : Prop := topPrioritiesRow.holds Tryz.pinned (OpenSpec.ofChange topPrioritiesWrong)

/-- 'mailboattop.TopEarliestAccepted': WHATEVER THE INPUT: true; the input reads as it did. -/
def topEarliestAcceptedSpec : ChangeSpec := { name := "topEarliestAccepted", fn := fun _ => fun
  | [d1, d2] => { results := [.lit (.bool true)], args := [d1, d2] }
  | _ => none }
def topEarliestAcceptedRow : OpenClaim := { program := "ytebkgbmijocdjaagreat", sum := "e40f8314365ba70f325a8571749d0f86f4c2803199b51069407727f5e3414700", func := "mailboat/mailboattop.TopEarliestAccepted", spec := "topEarliestAccepted", unfollowed := true, recurses := true, apart := false }
def TopEarliestAcceptedSaid : Prop := topEarliestAcceptedRow.holds Tryz.pinned (OpenSpec.ofChange topEarliestAcceptedSpec)

/-- ITS FALSE NEIGHBOUR: 'it returns false'. Refute it at one input. -/
def topEarliestAcceptedWrong : ChangeSpec := { name := "topEarliestAccepted", fn := fun _ => fun
  | [d1, d2] => { results := [.lit (.bool false)], args := [d1, d2] }
  | _ => none }
def TopEarliestAcceptedWrongFalsely : Prop := topEarliestAcceptedRow.holds Tryz.pinned (OpenSpec.ofChange topEarliestAcceptedWrong)

/-- 'mailboattop.TopCancelAll': WHATEVER THE INPUT: true; the input reads as it did. -/
def topCancelAllSpec : ChangeSpec := { name := "topCancelAll", fn := fun _ => fun
  | [d1, d2, d3] => { results := [.lit (.bool true)], args := [d1, d2, d3] }
  | _ => none }
def topCancelAllRow : OpenClaim := { program := "ytebkgbmijocdjaagreat", sum := "e40f8314365ba70f325a8571749d0f86f4c2803199b51069407727f5e3414700", func := "mailboat/mailboattop.TopCancelAll", spec := "topCancelAll", unfollowed := true, recurses := true, apart := false }
def TopCancelAllSaid : Prop := topCancelAllRow.holds Tryz.pinned (OpenSpec.ofChange topCancelAllSpec)

/-- ITS FALSE NEIGHBOUR: 'it returns false'. Refute it at one input. -/
def topCancelAllWrong : ChangeSpec := { name := "topCancelAll", fn := fun _ => fun
  | [d1, d2, d3] => { results := [.lit (.bool false)], args := [d1, d2, d3] }
  | _ => none }
def TopCancelAllWrongFalsely : Prop := topCancelAllRow.holds Tryz.pinned (OpenSpec.ofChange topCancelAllWrong)

/- THE SECOND FORM. 'bulk': how many values and letters a reading holds, each counted each time it is reached (what is shared counts as often as it is met; a slice's spare places count too). A statement '..UptoSaid' is the law's where the arguments, and the package variables that the reading takes, are together of bulk at most 1048576: NARROWER than '..Said'. Prove '..Said' where nothing that the law and all that it calls make is longer than what came in: it says more and counts as full. Else prove '..UptoSaid'. A law counts once. -/
mutual
def uptoBulk {H : Type} : DataW H → Nat
  | .lit (.string bytes) => bytes.length + 1
  | .lit _ => 1
  | .nil => 1
  | .ptr d => uptoBulk d + 1
  | .slice elems spare => uptoBulkAll elems + uptoBulkAll spare + 1
  | .agg parts => uptoBulkAll parts + 1
  | .iface _ d => uptoBulk d + 1
  | .map entries => uptoBulkEntries entries + 1
  | .held _ => 1
def uptoBulkAll {H : Type} : List (DataW H) → Nat
  | [] => 0
  | d :: r => uptoBulk d + uptoBulkAll r
def uptoBulkEntries {H : Type} : List (Lit × DataW H) → Nat
  | [] => 0
  | x :: r => uptoBulkEntry x + uptoBulkEntries r
def uptoBulkEntry {H : Type} : Lit × DataW H → Nat
  | (.string bytes, d) => bytes.length + uptoBulk d + 1
  | (_, d) => uptoBulk d + 1
 end
def uptoSmall : (H : Type) → List (DataW H) → Bool := fun _ ds => decide (uptoBulkAll ds ≤ 1048576)
def OpenSpec.upto (s : _root_.Go.ChangeSpec) : _root_.Go.OpenSpec := { _root_.Go.OpenSpec.ofChange s with cond := some uptoSmall }

/-- 'mailboattop.TopLeastRoute', WHERE WHAT IT READS IS OF BULK AT MOST 1048576: true; the input reads as it did. -/
def topLeastRouteUptoRow : OpenClaim := { program := "ytebkgbmijocdjaagreat", sum := "e40f8314365ba70f325a8571749d0f86f4c2803199b51069407727f5e3414700", func := "mailboat/mailboattop.TopLeastRoute", spec := "topLeastRoute", inPlace := ["slices.overlaps[mailboat/api.Booking]", "slices.overlaps[mailboat/api.Hold]"], unfollowed := true, recurses := true, apart := false, narrowed := true }
def TopLeastRouteUptoSaid : Prop := topLeastRouteUptoRow.holds Tryz.pinned (OpenSpec.upto topLeastRouteSpec)

/-- 'mailboattop.TopPriorities', WHERE WHAT IT READS IS OF BULK AT MOST 1048576: true; the input reads as it did. -/
def topPrioritiesUptoRow : OpenClaim := { program := "ytebkgbmijocdjaagreat", sum := "e40f8314365ba70f325a8571749d0f86f4c2803199b51069407727f5e3414700", func := "mailboat/mailboattop.TopPriorities", spec := "topPriorities", unfollowed := true, recurses := true, apart := false, narrowed := true }
def TopPrioritiesUptoSaid : Prop := topPrioritiesUptoRow.holds Tryz.pinned (OpenSpec.upto topPrioritiesSpec)

/-- 'mailboattop.TopEarliestAccepted', WHERE WHAT IT READS IS OF BULK AT MOST 1048576: true; the input reads as it did. -/
def topEarliestAcceptedUptoRow : OpenClaim := { program := "ytebkgbmijocdjaagreat", sum := "e40f8314365ba70f325a8571749d0f86f4c2803199b51069407727f5e3414700", func := "mailboat/mailboattop.TopEarliestAccepted", spec := "topEarliestAccepted", unfollowed := true, recurses := true, apart := false, narrowed := true }
def TopEarliestAcceptedUptoSaid : Prop := topEarliestAcceptedUptoRow.holds Tryz.pinned (OpenSpec.upto topEarliestAcceptedSpec)

/-- 'mailboattop.TopCancelAll', WHERE WHAT IT READS IS OF BULK AT MOST 1048576: true; the input reads as it did. -/
def topCancelAllUptoRow : OpenClaim := { program := "ytebkgbmijocdjaagreat", sum := "e40f8314365ba70f325a8571749d0f86f4c2803199b51069407727f5e3414700", func := "mailboat/mailboattop.TopCancelAll", spec := "topCancelAll", unfollowed := true, recurses := true, apart := false, narrowed := true }
def TopCancelAllUptoSaid : Prop := topCancelAllUptoRow.holds Tryz.pinned (OpenSpec.upto topCancelAllSpec)

end Rows
end Go.Proofs.YtebkgbmijocdjaaGreat
