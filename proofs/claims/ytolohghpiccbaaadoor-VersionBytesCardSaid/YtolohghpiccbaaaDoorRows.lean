/-
  NARROWER THAN 'FOR EVERY INPUT', by the rows' own cells (each row's printed sentence says how): VersionPairs: laid · VersionLattice: laid · VersionOrder: laid · VersionChanges: laid · VersionCovers: laid · VersionTicks: laid · VersionCodes: laid · VersionBytes: laid.
  DERIVED. THE GIVEN ROWS OF THIS SEAT. 8 by the template 'for every input the law returns true; each argument reads behind the call as it read before'; 0 by the template 'total and deterministic' (their statements: YtolohghpiccbaaaDoorTotals.lean).
  GIVEN WITH THE SEED: the statements are not yours to turn. If you find one false, say at which input.
  Laid BY PROGRAM, IN A SANDBOX (cutbox-rows.mjs): the forced cells as the released guide's own fill.sh prints them over the translation dd22e18b554e1dc5… (all of the seat's roots in one cut). By AI agents, Wed Nov 11 2026. No macro, syntax, notation, axiom, sorry.
-/
import Derived.Test.YtolohghpiccbaaaDoorChecked
import GoSem.Claim
import GoSem.ClaimJoined
import GoSem.ClaimMapViews
import Derived.JoinedTies
import Derived.KernelRfl
namespace Go.Proofs.YtolohghpiccbaaaDoor
/- THE CELL 'sum', in the pinned program and in every row, IS THE sha256 OF THE DUMP (.gsa) THAT YtolohghpiccbaaaDoorProg.lean LOADS. Nothing in Lean hashes anything: it is a label: what it is worth is what the hold of that sum in a sandbox is worth. -/
noncomputable def Tryd.pinned : Pinned := { name := "ytolohghpiccbaaadoor", sum := "dd22e18b554e1dc5d2cc09a3e0863f8151be7201741a01461d7973cf2720a79a", checked := Tryd.checked }
namespace Rows
def none {H : Type} : Left H := { results := [], args := [] }

/- WHAT THE LISTED PACKAGE-LEVEL VARIABLES READ AS WHEN THE CALL BEGINS. Each datum BY PROGRAM (the guide's laid-datum.mjs) off the statement by which the dump's own 'gosem.cut.vars' lays the variable. In a bare row this is a premise. The card (YtolohghpiccbaaaDoorCards.lean) ties it to the program's text. -/
def laid_mailboat_version_results {H : Type} : DataW H := .agg [.agg [.lit (.int .i64 3), .lit (.int .i64 2)], .agg [.lit (.int .i64 1), .lit (.int .i64 0)]]

/-- 'mailboatlaw09.VersionPairs': WHATEVER THE INPUT: true; the input reads as it did. -/
def versionPairsSpec : ChangeSpec := { name := "versionPairs", fn := fun _ => fun
  | [d1, d2] => { results := [.lit (.bool true)], args := [d1, d2] }
  | _ => none }
def versionPairsRow : OpenClaim := { program := "ytolohghpiccbaaadoor", sum := "dd22e18b554e1dc5d2cc09a3e0863f8151be7201741a01461d7973cf2720a79a", func := "mailboat/mailboatlaw09.VersionPairs", spec := "versionPairs", unfollowed := true, recurses := true, named := ["mailboat/version.results"], apart := false, laid := [("mailboat/version.results", laid_mailboat_version_results)] }
def VersionPairsSaid : Prop := versionPairsRow.holds Tryd.pinned (OpenSpec.ofChange versionPairsSpec)

/-- ITS FALSE NEIGHBOUR: 'it returns false'. Refute it at one input. -/
def versionPairsWrong : ChangeSpec := { name := "versionPairs", fn := fun _ => fun
  | [d1, d2] => { results := [.lit (.bool false)], args := [d1, d2] }
  | _ => none }
def VersionPairsWrongFalsely : Prop := versionPairsRow.holds Tryd.pinned (OpenSpec.ofChange versionPairsWrong)

/-- 'mailboatlaw09.VersionLattice': WHATEVER THE INPUT: true; the input reads as it did. -/
def versionLatticeSpec : ChangeSpec := { name := "versionLattice", fn := fun _ => fun
  | [d1, d2, d3] => { results := [.lit (.bool true)], args := [d1, d2, d3] }
  | _ => none }
def versionLatticeRow : OpenClaim := { program := "ytolohghpiccbaaadoor", sum := "dd22e18b554e1dc5d2cc09a3e0863f8151be7201741a01461d7973cf2720a79a", func := "mailboat/mailboatlaw09.VersionLattice", spec := "versionLattice", unfollowed := true, recurses := true, named := ["mailboat/version.results"], apart := false, laid := [("mailboat/version.results", laid_mailboat_version_results)] }
def VersionLatticeSaid : Prop := versionLatticeRow.holds Tryd.pinned (OpenSpec.ofChange versionLatticeSpec)

/-- ITS FALSE NEIGHBOUR: 'it returns false'. Refute it at one input. -/
def versionLatticeWrong : ChangeSpec := { name := "versionLattice", fn := fun _ => fun
  | [d1, d2, d3] => { results := [.lit (.bool false)], args := [d1, d2, d3] }
  | _ => none }
def VersionLatticeWrongFalsely : Prop := versionLatticeRow.holds Tryd.pinned (OpenSpec.ofChange versionLatticeWrong)

/-- 'mailboatlaw09.VersionOrder': WHATEVER THE INPUT: true; the input reads as it did. -/
def versionOrderSpec : ChangeSpec := { name := "versionOrder", fn := fun _ => fun
  | [d1, d2, d3] => { results := [.lit (.bool true)], args := [d1, d2, d3] }
  | _ => none }
def versionOrderRow : OpenClaim := { program := "ytolohghpiccbaaadoor", sum := "dd22e18b554e1dc5d2cc09a3e0863f8151be7201741a01461d7973cf2720a79a", func := "mailboat/mailboatlaw09.VersionOrder", spec := "versionOrder", unfollowed := true, recurses := true, named := ["mailboat/version.results"], apart := false, laid := [("mailboat/version.results", laid_mailboat_version_results)] }
def VersionOrderSaid : Prop := versionOrderRow.holds Tryd.pinned (OpenSpec.ofChange versionOrderSpec)

/-- ITS FALSE NEIGHBOUR: 'it returns false'. Refute it at one input. -/
def versionOrderWrong : ChangeSpec := { name := "versionOrder", fn := fun _ => fun
  | [d1, d2, d3] => { results := [.lit (.bool false)], args := [d1, d2, d3] }
  | _ => none }
def VersionOrderWrongFalsely : Prop := versionOrderRow.holds Tryd.pinned (OpenSpec.ofChange versionOrderWrong)

/-- 'mailboatlaw09.VersionChanges': WHATEVER THE INPUT: true; the input reads as it did. -/
def versionChangesSpec : ChangeSpec := { name := "versionChanges", fn := fun _ => fun
  | [d1, d2, d3] => { results := [.lit (.bool true)], args := [d1, d2, d3] }
  | _ => none }
def versionChangesRow : OpenClaim := { program := "ytolohghpiccbaaadoor", sum := "dd22e18b554e1dc5d2cc09a3e0863f8151be7201741a01461d7973cf2720a79a", func := "mailboat/mailboatlaw09.VersionChanges", spec := "versionChanges", unfollowed := true, recurses := true, named := ["mailboat/version.results"], apart := false, laid := [("mailboat/version.results", laid_mailboat_version_results)] }
def VersionChangesSaid : Prop := versionChangesRow.holds Tryd.pinned (OpenSpec.ofChange versionChangesSpec)

/-- ITS FALSE NEIGHBOUR: 'it returns false'. Refute it at one input. -/
def versionChangesWrong : ChangeSpec := { name := "versionChanges", fn := fun _ => fun
  | [d1, d2, d3] => { results := [.lit (.bool false)], args := [d1, d2, d3] }
  | _ => none }
def VersionChangesWrongFalsely : Prop := versionChangesRow.holds Tryd.pinned (OpenSpec.ofChange versionChangesWrong)

/-- 'mailboatlaw09.VersionCovers': WHATEVER THE INPUT: true; the input reads as it did. -/
def versionCoversSpec : ChangeSpec := { name := "versionCovers", fn := fun _ => fun
  | [d1, d2, d3, d4] => { results := [.lit (.bool true)], args := [d1, d2, d3, d4] }
  | _ => none }
def versionCoversRow : OpenClaim := { program := "ytolohghpiccbaaadoor", sum := "dd22e18b554e1dc5d2cc09a3e0863f8151be7201741a01461d7973cf2720a79a", func := "mailboat/mailboatlaw09.VersionCovers", spec := "versionCovers", unfollowed := true, recurses := true, named := ["mailboat/version.results"], apart := false, laid := [("mailboat/version.results", laid_mailboat_version_results)] }
def VersionCoversSaid : Prop := versionCoversRow.holds Tryd.pinned (OpenSpec.ofChange versionCoversSpec)

/-- ITS FALSE NEIGHBOUR: 'it returns false'. Refute it at one input. -/
def versionCoversWrong : ChangeSpec := { name := "versionCovers", fn := fun _ => fun
  | [d1, d2, d3, d4] => { results := [.lit (.bool false)], args := [d1, d2, d3, d4] }
  | _ => none }
def VersionCoversWrongFalsely : Prop := versionCoversRow.holds Tryd.pinned (OpenSpec.ofChange versionCoversWrong)

/-- 'mailboatlaw09.VersionTicks': WHATEVER THE INPUT: true; the input reads as it did. -/
def versionTicksSpec : ChangeSpec := { name := "versionTicks", fn := fun _ => fun
  | [d1, d2, d3, d4] => { results := [.lit (.bool true)], args := [d1, d2, d3, d4] }
  | _ => none }
def versionTicksRow : OpenClaim := { program := "ytolohghpiccbaaadoor", sum := "dd22e18b554e1dc5d2cc09a3e0863f8151be7201741a01461d7973cf2720a79a", func := "mailboat/mailboatlaw09.VersionTicks", spec := "versionTicks", unfollowed := true, recurses := true, named := ["mailboat/version.results"], apart := false, laid := [("mailboat/version.results", laid_mailboat_version_results)] }
def VersionTicksSaid : Prop := versionTicksRow.holds Tryd.pinned (OpenSpec.ofChange versionTicksSpec)

/-- ITS FALSE NEIGHBOUR: 'it returns false'. Refute it at one input. -/
def versionTicksWrong : ChangeSpec := { name := "versionTicks", fn := fun _ => fun
  | [d1, d2, d3, d4] => { results := [.lit (.bool false)], args := [d1, d2, d3, d4] }
  | _ => none }
def VersionTicksWrongFalsely : Prop := versionTicksRow.holds Tryd.pinned (OpenSpec.ofChange versionTicksWrong)

/-- 'mailboatlaw09.VersionCodes': WHATEVER THE INPUT: true; the input reads as it did. -/
def versionCodesSpec : ChangeSpec := { name := "versionCodes", fn := fun _ => fun
  | [d1, d2] => { results := [.lit (.bool true)], args := [d1, d2] }
  | _ => none }
def versionCodesRow : OpenClaim := { program := "ytolohghpiccbaaadoor", sum := "dd22e18b554e1dc5d2cc09a3e0863f8151be7201741a01461d7973cf2720a79a", func := "mailboat/mailboatlaw09.VersionCodes", spec := "versionCodes", unfollowed := true, recurses := true, named := ["mailboat/version.results"], apart := false, laid := [("mailboat/version.results", laid_mailboat_version_results)] }
def VersionCodesSaid : Prop := versionCodesRow.holds Tryd.pinned (OpenSpec.ofChange versionCodesSpec)

/-- ITS FALSE NEIGHBOUR: 'it returns false'. Refute it at one input. -/
def versionCodesWrong : ChangeSpec := { name := "versionCodes", fn := fun _ => fun
  | [d1, d2] => { results := [.lit (.bool false)], args := [d1, d2] }
  | _ => none }
def VersionCodesWrongFalsely : Prop := versionCodesRow.holds Tryd.pinned (OpenSpec.ofChange versionCodesWrong)

/-- 'mailboatlaw09.VersionBytes': WHATEVER THE INPUT: true; the input reads as it did. -/
def versionBytesSpec : ChangeSpec := { name := "versionBytes", fn := fun _ => fun
  | [d1, d2] => { results := [.lit (.bool true)], args := [d1, d2] }
  | _ => none }
def versionBytesRow : OpenClaim := { program := "ytolohghpiccbaaadoor", sum := "dd22e18b554e1dc5d2cc09a3e0863f8151be7201741a01461d7973cf2720a79a", func := "mailboat/mailboatlaw09.VersionBytes", spec := "versionBytes", unfollowed := true, recurses := true, named := ["mailboat/version.results"], apart := false, laid := [("mailboat/version.results", laid_mailboat_version_results)] }
def VersionBytesSaid : Prop := versionBytesRow.holds Tryd.pinned (OpenSpec.ofChange versionBytesSpec)

/-- ITS FALSE NEIGHBOUR: 'it returns false'. Refute it at one input. -/
def versionBytesWrong : ChangeSpec := { name := "versionBytes", fn := fun _ => fun
  | [d1, d2] => { results := [.lit (.bool false)], args := [d1, d2] }
  | _ => none }
def VersionBytesWrongFalsely : Prop := versionBytesRow.holds Tryd.pinned (OpenSpec.ofChange versionBytesWrong)

/- THE SECOND FORM. 'bulk': how many values and letters a reading holds, each counted each time it is reached (what is shared counts as often as it is met; a slice's spare places count too). A statement '..UptoSaid' is the law's where the arguments, and the package variables that the reading takes, are together of bulk at most 1048576: NARROWER than '..Said'. Prove '..Said' where nothing that the law and all that it calls make is longer than what came in: it says more and counts as full. Else prove '..UptoSaid'. A law counts once. -/
mutual
def uptoBulk {H : Type} : DataW H → Nat
  | .lit (.string bytes) => bytes.length + 1
  | .lit _ => 1
  | .nil => 1
  | .ptr d => uptoBulk d + 1
  | .slice elems spare => uptoBulkAll elems + uptoBulkAll spare + 1
  | .agg parts => uptoBulkAll parts + 1
  | .iface _ d => uptoBulk d + 1
  | .map entries => uptoBulkEntries entries + 1
  | .held _ => 1
def uptoBulkAll {H : Type} : List (DataW H) → Nat
  | [] => 0
  | d :: r => uptoBulk d + uptoBulkAll r
def uptoBulkEntries {H : Type} : List (Lit × DataW H) → Nat
  | [] => 0
  | x :: r => uptoBulkEntry x + uptoBulkEntries r
def uptoBulkEntry {H : Type} : Lit × DataW H → Nat
  | (.string bytes, d) => bytes.length + uptoBulk d + 1
  | (_, d) => uptoBulk d + 1
 end
def uptoSmall : (H : Type) → List (DataW H) → Bool := fun _ ds => decide (uptoBulkAll ds ≤ 1048576)
def OpenSpec.upto (s : _root_.Go.ChangeSpec) : _root_.Go.OpenSpec := { _root_.Go.OpenSpec.ofChange s with cond := some uptoSmall }

/-- 'mailboatlaw09.VersionPairs', WHERE WHAT IT READS IS OF BULK AT MOST 1048576: true; the input reads as it did. -/
def versionPairsUptoRow : OpenClaim := { program := "ytolohghpiccbaaadoor", sum := "dd22e18b554e1dc5d2cc09a3e0863f8151be7201741a01461d7973cf2720a79a", func := "mailboat/mailboatlaw09.VersionPairs", spec := "versionPairs", unfollowed := true, recurses := true, named := ["mailboat/version.results"], apart := false, laid := [("mailboat/version.results", laid_mailboat_version_results)], narrowed := true }
def VersionPairsUptoSaid : Prop := versionPairsUptoRow.holds Tryd.pinned (OpenSpec.upto versionPairsSpec)

/-- 'mailboatlaw09.VersionLattice', WHERE WHAT IT READS IS OF BULK AT MOST 1048576: true; the input reads as it did. -/
def versionLatticeUptoRow : OpenClaim := { program := "ytolohghpiccbaaadoor", sum := "dd22e18b554e1dc5d2cc09a3e0863f8151be7201741a01461d7973cf2720a79a", func := "mailboat/mailboatlaw09.VersionLattice", spec := "versionLattice", unfollowed := true, recurses := true, named := ["mailboat/version.results"], apart := false, laid := [("mailboat/version.results", laid_mailboat_version_results)], narrowed := true }
def VersionLatticeUptoSaid : Prop := versionLatticeUptoRow.holds Tryd.pinned (OpenSpec.upto versionLatticeSpec)

/-- 'mailboatlaw09.VersionOrder', WHERE WHAT IT READS IS OF BULK AT MOST 1048576: true; the input reads as it did. -/
def versionOrderUptoRow : OpenClaim := { program := "ytolohghpiccbaaadoor", sum := "dd22e18b554e1dc5d2cc09a3e0863f8151be7201741a01461d7973cf2720a79a", func := "mailboat/mailboatlaw09.VersionOrder", spec := "versionOrder", unfollowed := true, recurses := true, named := ["mailboat/version.results"], apart := false, laid := [("mailboat/version.results", laid_mailboat_version_results)], narrowed := true }
def VersionOrderUptoSaid : Prop := versionOrderUptoRow.holds Tryd.pinned (OpenSpec.upto versionOrderSpec)

/-- 'mailboatlaw09.VersionChanges', WHERE WHAT IT READS IS OF BULK AT MOST 1048576: true; the input reads as it did. -/
def versionChangesUptoRow : OpenClaim := { program := "ytolohghpiccbaaadoor", sum := "dd22e18b554e1dc5d2cc09a3e0863f8151be7201741a01461d7973cf2720a79a", func := "mailboat/mailboatlaw09.VersionChanges", spec := "versionChanges", unfollowed := true, recurses := true, named := ["mailboat/version.results"], apart := false, laid := [("mailboat/version.results", laid_mailboat_version_results)], narrowed := true }
def VersionChangesUptoSaid : Prop := versionChangesUptoRow.holds Tryd.pinned (OpenSpec.upto versionChangesSpec)

/-- 'mailboatlaw09.VersionCovers', WHERE WHAT IT READS IS OF BULK AT MOST 1048576: true; the input reads as it did. -/
def versionCoversUptoRow : OpenClaim := { program := "ytolohghpiccbaaadoor", sum := "dd22e18b554e1dc5d2cc09a3e0863f8151be7201741a01461d7973cf2720a79a", func := "mailboat/mailboatlaw09.VersionCovers", spec := "versionCovers", unfollowed := true, recurses := true, named := ["mailboat/version.results"], apart := false, laid := [("mailboat/version.results", laid_mailboat_version_results)], narrowed := true }
def VersionCoversUptoSaid : Prop := versionCoversUptoRow.holds Tryd.pinned (OpenSpec.upto versionCoversSpec)

/-- 'mailboatlaw09.VersionTicks', WHERE WHAT IT READS IS OF BULK AT MOST 1048576: true; the input reads as it did. -/
def versionTicksUptoRow : OpenClaim := { program := "ytolohghpiccbaaadoor", sum := "dd22e18b554e1dc5d2cc09a3e0863f8151be7201741a01461d7973cf2720a79a", func := "mailboat/mailboatlaw09.VersionTicks", spec := "versionTicks", unfollowed := true, recurses := true, named := ["mailboat/version.results"], apart := false, laid := [("mailboat/version.results", laid_mailboat_version_results)], narrowed := true }
def VersionTicksUptoSaid : Prop := versionTicksUptoRow.holds Tryd.pinned (OpenSpec.upto versionTicksSpec)

/-- 'mailboatlaw09.VersionCodes', WHERE WHAT IT READS IS OF BULK AT MOST 1048576: true; the input reads as it did. -/
def versionCodesUptoRow : OpenClaim := { program := "ytolohghpiccbaaadoor", sum := "dd22e18b554e1dc5d2cc09a3e0863f8151be7201741a01461d7973cf2720a79a", func := "mailboat/mailboatlaw09.VersionCodes", spec := "versionCodes", unfollowed := true, recurses := true, named := ["mailboat/version.results"], apart := false, laid := [("mailboat/version.results", laid_mailboat_version_results)], narrowed := true }
def VersionCodesUptoSaid : Prop := versionCodesUptoRow.holds Tryd.pinned (OpenSpec.upto versionCodesSpec)

/-- 'mailboatlaw09.VersionBytes', WHERE WHAT IT READS IS OF BULK AT MOST 1048576: true; the input reads as it did. -/
def versionBytesUptoRow : OpenClaim := { program := "ytolohghpiccbaaadoor", sum := "dd22e18b554e1dc5d2cc09a3e0863f8151be7201741a01461d7973cf2720a79a", func := "mailboat/mailboatlaw09.VersionBytes", spec := "versionBytes", unfollowed := true, recurses := true, named := ["mailboat/version.results"], apart := false, laid := [("mailboat/version.results", laid_mailboat_version_results)], narrowed := true }
def VersionBytesUptoSaid : Prop := versionBytesUptoRow.holds Tryd.pinned (OpenSpec.upto versionBytesSpec)

end Rows
end Go.Proofs.YtolohghpiccbaaaDoor
