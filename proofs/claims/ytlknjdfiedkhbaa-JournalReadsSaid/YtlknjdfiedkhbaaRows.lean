/-
  No cell of these rows narrows 'for every input' (looked for: loops, veiled, ifaces, maps, wideKeys, modest, calm, conditions, laid).
  DERIVED. THE GIVEN ROWS OF THIS SEAT. 6 by the template 'for every input the law returns true; each argument reads behind the call as it read before'; 0 by the template 'total and deterministic' (their statements: YtlknjdfiedkhbaaTotals.lean).
  GIVEN WITH THE SEED: the statements are not yours to turn. If you find one false, say at which input.
  Laid BY PROGRAM, IN A SANDBOX (cutbox-rows.mjs): the forced cells as the released guide's own fill.sh prints them over the translation 0535f0c95e8ae817… (all of the seat's roots in one cut). By AI agents, Wed Nov 11 2026. No macro, syntax, notation, axiom, sorry.
-/
import Derived.Test.YtlknjdfiedkhbaaChecked
import GoSem.Claim
import GoSem.ClaimJoined
import GoSem.ClaimMapViews
import Derived.JoinedTies
import Derived.KernelRfl
namespace Go.Proofs.Ytlknjdfiedkhbaa
/- THE CELL 'sum', in the pinned program and in every row, IS THE sha256 OF THE DUMP (.gsa) THAT YtlknjdfiedkhbaaProg.lean LOADS. Nothing in Lean hashes anything: it is a label: what it is worth is what the hold of that sum in a sandbox is worth. -/
noncomputable def Try.pinned : Pinned := { name := "ytlknjdfiedkhbaa", sum := "0535f0c95e8ae8179a2c8c17f89eb1f0ae2082c666017a11ed5ad629bab95c20", checked := Try.checked }
namespace Rows
def none {H : Type} : Left H := { results := [], args := [] }

/-- 'mailboatlaw42.JournalCompacts': WHATEVER THE INPUT: true; the input reads as it did. -/
def journalCompactsSpec : ChangeSpec := { name := "journalCompacts", fn := fun _ => fun
  | [d] => { results := [.lit (.bool true)], args := [d] }
  | _ => none }
def journalCompactsRow : OpenClaim := { program := "ytlknjdfiedkhbaa", sum := "0535f0c95e8ae8179a2c8c17f89eb1f0ae2082c666017a11ed5ad629bab95c20", func := "mailboat/mailboatlaw42.JournalCompacts", spec := "journalCompacts", inPlace := ["internal/abi.NoEscape"], unfollowed := true, recurses := true, plainKeys := false, apart := false }
def JournalCompactsSaid : Prop := journalCompactsRow.holds Try.pinned (OpenSpec.ofChange journalCompactsSpec)

/-- ITS FALSE NEIGHBOUR: 'it returns false'. Refute it at one input. -/
def journalCompactsWrong : ChangeSpec := { name := "journalCompacts", fn := fun _ => fun
  | [d] => { results := [.lit (.bool false)], args := [d] }
  | _ => none }
def JournalCompactsWrongFalsely : Prop := journalCompactsRow.holds Try.pinned (OpenSpec.ofChange journalCompactsWrong)

/-- 'mailboatlaw42.JournalCodes': WHATEVER THE INPUT: true; the input reads as it did. -/
def journalCodesSpec : ChangeSpec := { name := "journalCodes", fn := fun _ => fun
  | [d1, d2] => { results := [.lit (.bool true)], args := [d1, d2] }
  | _ => none }
def journalCodesRow : OpenClaim := { program := "ytlknjdfiedkhbaa", sum := "0535f0c95e8ae8179a2c8c17f89eb1f0ae2082c666017a11ed5ad629bab95c20", func := "mailboat/mailboatlaw42.JournalCodes", spec := "journalCodes", inPlace := ["internal/abi.NoEscape"], unfollowed := true, recurses := true, plainKeys := false, apart := false }
def JournalCodesSaid : Prop := journalCodesRow.holds Try.pinned (OpenSpec.ofChange journalCodesSpec)

/-- ITS FALSE NEIGHBOUR: 'it returns false'. Refute it at one input. -/
def journalCodesWrong : ChangeSpec := { name := "journalCodes", fn := fun _ => fun
  | [d1, d2] => { results := [.lit (.bool false)], args := [d1, d2] }
  | _ => none }
def JournalCodesWrongFalsely : Prop := journalCodesRow.holds Try.pinned (OpenSpec.ofChange journalCodesWrong)

/-- 'mailboatlaw42.JournalReads': WHATEVER THE INPUT: true; the input reads as it did. -/
def journalReadsSpec : ChangeSpec := { name := "journalReads", fn := fun _ => fun
  | [d1, d2] => { results := [.lit (.bool true)], args := [d1, d2] }
  | _ => none }
def journalReadsRow : OpenClaim := { program := "ytlknjdfiedkhbaa", sum := "0535f0c95e8ae8179a2c8c17f89eb1f0ae2082c666017a11ed5ad629bab95c20", func := "mailboat/mailboatlaw42.JournalReads", spec := "journalReads", inPlace := ["internal/abi.NoEscape"], unfollowed := true, recurses := true, plainKeys := false, apart := false }
def JournalReadsSaid : Prop := journalReadsRow.holds Try.pinned (OpenSpec.ofChange journalReadsSpec)

/-- ITS FALSE NEIGHBOUR: 'it returns false'. Refute it at one input. -/
def journalReadsWrong : ChangeSpec := { name := "journalReads", fn := fun _ => fun
  | [d1, d2] => { results := [.lit (.bool false)], args := [d1, d2] }
  | _ => none }
def JournalReadsWrongFalsely : Prop := journalReadsRow.holds Try.pinned (OpenSpec.ofChange journalReadsWrong)

/-- 'mailboatlaw42.JournalBack': WHATEVER THE INPUT: true; the input reads as it did. -/
def journalBackSpec : ChangeSpec := { name := "journalBack", fn := fun _ => fun
  | [d1, d2, d3] => { results := [.lit (.bool true)], args := [d1, d2, d3] }
  | _ => none }
def journalBackRow : OpenClaim := { program := "ytlknjdfiedkhbaa", sum := "0535f0c95e8ae8179a2c8c17f89eb1f0ae2082c666017a11ed5ad629bab95c20", func := "mailboat/mailboatlaw42.JournalBack", spec := "journalBack", inPlace := ["internal/abi.NoEscape"], unfollowed := true, recurses := true, plainKeys := false, apart := false }
def JournalBackSaid : Prop := journalBackRow.holds Try.pinned (OpenSpec.ofChange journalBackSpec)

/-- ITS FALSE NEIGHBOUR: 'it returns false'. Refute it at one input. -/
def journalBackWrong : ChangeSpec := { name := "journalBack", fn := fun _ => fun
  | [d1, d2, d3] => { results := [.lit (.bool false)], args := [d1, d2, d3] }
  | _ => none }
def JournalBackWrongFalsely : Prop := journalBackRow.holds Try.pinned (OpenSpec.ofChange journalBackWrong)

/-- 'mailboatlaw42.JournalCut': WHATEVER THE INPUT: true; the input reads as it did. -/
def journalCutSpec : ChangeSpec := { name := "journalCut", fn := fun _ => fun
  | [d1, d2] => { results := [.lit (.bool true)], args := [d1, d2] }
  | _ => none }
def journalCutRow : OpenClaim := { program := "ytlknjdfiedkhbaa", sum := "0535f0c95e8ae8179a2c8c17f89eb1f0ae2082c666017a11ed5ad629bab95c20", func := "mailboat/mailboatlaw42.JournalCut", spec := "journalCut", inPlace := ["internal/abi.NoEscape"], unfollowed := true, recurses := true, plainKeys := false, apart := false }
def JournalCutSaid : Prop := journalCutRow.holds Try.pinned (OpenSpec.ofChange journalCutSpec)

/-- ITS FALSE NEIGHBOUR: 'it returns false'. Refute it at one input. -/
def journalCutWrong : ChangeSpec := { name := "journalCut", fn := fun _ => fun
  | [d1, d2] => { results := [.lit (.bool false)], args := [d1, d2] }
  | _ => none }
def JournalCutWrongFalsely : Prop := journalCutRow.holds Try.pinned (OpenSpec.ofChange journalCutWrong)

/-- 'mailboatlaw42.JournalDamage': WHATEVER THE INPUT: true; the input reads as it did. -/
def journalDamageSpec : ChangeSpec := { name := "journalDamage", fn := fun _ => fun
  | [d1, d2, d3] => { results := [.lit (.bool true)], args := [d1, d2, d3] }
  | _ => none }
def journalDamageRow : OpenClaim := { program := "ytlknjdfiedkhbaa", sum := "0535f0c95e8ae8179a2c8c17f89eb1f0ae2082c666017a11ed5ad629bab95c20", func := "mailboat/mailboatlaw42.JournalDamage", spec := "journalDamage", inPlace := ["internal/abi.NoEscape"], unfollowed := true, recurses := true, plainKeys := false, apart := false }
def JournalDamageSaid : Prop := journalDamageRow.holds Try.pinned (OpenSpec.ofChange journalDamageSpec)

/-- ITS FALSE NEIGHBOUR: 'it returns false'. Refute it at one input. -/
def journalDamageWrong : ChangeSpec := { name := "journalDamage", fn := fun _ => fun
  | [d1, d2, d3] => { results := [.lit (.bool false)], args := [d1, d2, d3] }
  | _ => none }
def JournalDamageWrongFalsely : Prop := journalDamageRow.holds Try.pinned (OpenSpec.ofChange journalDamageWrong)

/- THE SECOND FORM. 'bulk': how many values and letters a reading holds, each counted each time it is reached (what is shared counts as often as it is met; a slice's spare places count too). A statement '..UptoSaid' is the law's where the arguments, and the package variables that the reading takes, are together of bulk at most 1048576: NARROWER than '..Said'. Prove '..Said' where nothing that the law and all that it calls make is longer than what came in: it says more and counts as full. Else prove '..UptoSaid'. A law counts once. -/
mutual
def uptoBulk {H : Type} : DataW H → Nat
  | .lit (.string bytes) => bytes.length + 1
  | .lit _ => 1
  | .nil => 1
  | .ptr d => uptoBulk d + 1
  | .slice elems spare => uptoBulkAll elems + uptoBulkAll spare + 1
  | .agg parts => uptoBulkAll parts + 1
  | .iface _ d => uptoBulk d + 1
  | .map entries => uptoBulkEntries entries + 1
  | .held _ => 1
def uptoBulkAll {H : Type} : List (DataW H) → Nat
  | [] => 0
  | d :: r => uptoBulk d + uptoBulkAll r
def uptoBulkEntries {H : Type} : List (Lit × DataW H) → Nat
  | [] => 0
  | x :: r => uptoBulkEntry x + uptoBulkEntries r
def uptoBulkEntry {H : Type} : Lit × DataW H → Nat
  | (.string bytes, d) => bytes.length + uptoBulk d + 1
  | (_, d) => uptoBulk d + 1
 end
def uptoSmall : (H : Type) → List (DataW H) → Bool := fun _ ds => decide (uptoBulkAll ds ≤ 1048576)
def OpenSpec.upto (s : _root_.Go.ChangeSpec) : _root_.Go.OpenSpec := { _root_.Go.OpenSpec.ofChange s with cond := some uptoSmall }

/-- 'mailboatlaw42.JournalCompacts', WHERE WHAT IT READS IS OF BULK AT MOST 1048576: true; the input reads as it did. -/
def journalCompactsUptoRow : OpenClaim := { program := "ytlknjdfiedkhbaa", sum := "0535f0c95e8ae8179a2c8c17f89eb1f0ae2082c666017a11ed5ad629bab95c20", func := "mailboat/mailboatlaw42.JournalCompacts", spec := "journalCompacts", inPlace := ["internal/abi.NoEscape"], unfollowed := true, recurses := true, plainKeys := false, apart := false, narrowed := true }
def JournalCompactsUptoSaid : Prop := journalCompactsUptoRow.holds Try.pinned (OpenSpec.upto journalCompactsSpec)

/-- 'mailboatlaw42.JournalCodes', WHERE WHAT IT READS IS OF BULK AT MOST 1048576: true; the input reads as it did. -/
def journalCodesUptoRow : OpenClaim := { program := "ytlknjdfiedkhbaa", sum := "0535f0c95e8ae8179a2c8c17f89eb1f0ae2082c666017a11ed5ad629bab95c20", func := "mailboat/mailboatlaw42.JournalCodes", spec := "journalCodes", inPlace := ["internal/abi.NoEscape"], unfollowed := true, recurses := true, plainKeys := false, apart := false, narrowed := true }
def JournalCodesUptoSaid : Prop := journalCodesUptoRow.holds Try.pinned (OpenSpec.upto journalCodesSpec)

/-- 'mailboatlaw42.JournalReads', WHERE WHAT IT READS IS OF BULK AT MOST 1048576: true; the input reads as it did. -/
def journalReadsUptoRow : OpenClaim := { program := "ytlknjdfiedkhbaa", sum := "0535f0c95e8ae8179a2c8c17f89eb1f0ae2082c666017a11ed5ad629bab95c20", func := "mailboat/mailboatlaw42.JournalReads", spec := "journalReads", inPlace := ["internal/abi.NoEscape"], unfollowed := true, recurses := true, plainKeys := false, apart := false, narrowed := true }
def JournalReadsUptoSaid : Prop := journalReadsUptoRow.holds Try.pinned (OpenSpec.upto journalReadsSpec)

/-- 'mailboatlaw42.JournalBack', WHERE WHAT IT READS IS OF BULK AT MOST 1048576: true; the input reads as it did. -/
def journalBackUptoRow : OpenClaim := { program := "ytlknjdfiedkhbaa", sum := "0535f0c95e8ae8179a2c8c17f89eb1f0ae2082c666017a11ed5ad629bab95c20", func := "mailboat/mailboatlaw42.JournalBack", spec := "journalBack", inPlace := ["internal/abi.NoEscape"], unfollowed := true, recurses := true, plainKeys := false, apart := false, narrowed := true }
def JournalBackUptoSaid : Prop := journalBackUptoRow.holds Try.pinned (OpenSpec.upto journalBackSpec)

/-- 'mailboatlaw42.JournalCut', WHERE WHAT IT READS IS OF BULK AT MOST 1048576: true; the input reads as it did. -/
def journalCutUptoRow : OpenClaim := { program := "ytlknjdfiedkhbaa", sum := "0535f0c95e8ae8179a2c8c17f89eb1f0ae2082c666017a11ed5ad629bab95c20", func := "mailboat/mailboatlaw42.JournalCut", spec := "journalCut", inPlace := ["internal/abi.NoEscape"], unfollowed := true, recurses := true, plainKeys := false, apart := false, narrowed := true }
def JournalCutUptoSaid : Prop := journalCutUptoRow.holds Try.pinned (OpenSpec.upto journalCutSpec)

/-- 'mailboatlaw42.JournalDamage', WHERE WHAT IT READS IS OF BULK AT MOST 1048576: true; the input reads as it did. -/
def journalDamageUptoRow : OpenClaim := { program := "ytlknjdfiedkhbaa", sum := "0535f0c95e8ae8179a2c8c17f89eb1f0ae2082c666017a11ed5ad629bab95c20", func := "mailboat/mailboatlaw42.JournalDamage", spec := "journalDamage", inPlace := ["internal/abi.NoEscape"], unfollowed := true, recurses := true, plainKeys := false, apart := false, narrowed := true }
def JournalDamageUptoSaid : Prop := journalDamageUptoRow.holds Try.pinned (OpenSpec.upto journalDamageSpec)

end Rows
end Go.Proofs.Ytlknjdfiedkhbaa
