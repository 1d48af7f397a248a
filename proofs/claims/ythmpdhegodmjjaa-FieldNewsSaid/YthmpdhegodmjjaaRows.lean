/-
  No cell of these rows narrows 'for every input' (looked for: loops, veiled, ifaces, maps, wideKeys, modest, calm, conditions, laid).
  DERIVED. THE GIVEN ROWS OF THIS SEAT. 8 by the template 'for every input the law returns true; each argument reads behind the call as it read before'; 0 by the template 'total and deterministic' (their statements: YthmpdhegodmjjaaTotals.lean).
  GIVEN WITH THE SEED: the statements are not yours to turn. If you find one false, say at which input.
  Laid BY PROGRAM, IN A SANDBOX (cutbox-rows.mjs): the forced cells as the released guide's own fill.sh prints them over the translation e863ef59ba14d0ec… (all of the seat's roots in one cut). By AI agents, Wed Nov 11 2026. No macro, syntax, notation, axiom, sorry.
-/
import Derived.Test.YthmpdhegodmjjaaChecked
import GoSem.Claim
import GoSem.ClaimJoined
import GoSem.ClaimMapViews
import Derived.JoinedTies
import Derived.KernelRfl
namespace Go.Proofs.Ythmpdhegodmjjaa
/- THE CELL 'sum', in the pinned program and in every row, IS THE sha256 OF THE DUMP (.gsa) THAT YthmpdhegodmjjaaProg.lean LOADS. Nothing in Lean hashes anything: it is a label: what it is worth is what the hold of that sum in a sandbox is worth. -/
noncomputable def Try.pinned : Pinned := { name := "ythmpdhegodmjjaa", sum := "e863ef59ba14d0ecc061c067f1723cb44c211bcd248de0dd53cbfd78a9f9d9bd", checked := Try.checked }
namespace Rows
def none {H : Type} : Left H := { results := [], args := [] }

/-- 'witanlaw03.FieldSmall': WHATEVER THE INPUT: true; the input reads as it did. -/
def fieldSmallSpec : ChangeSpec := { name := "fieldSmall", fn := fun _ => fun
  | [d1, d2] => { results := [.lit (.bool true)], args := [d1, d2] }
  | _ => none }
def fieldSmallRow : OpenClaim := { program := "ythmpdhegodmjjaa", sum := "e863ef59ba14d0ecc061c067f1723cb44c211bcd248de0dd53cbfd78a9f9d9bd", func := "witan/witanlaw03.FieldSmall", spec := "fieldSmall", inPlace := ["math/bits.Add64"], apart := false }
def FieldSmallSaid : Prop := fieldSmallRow.holds Try.pinned (OpenSpec.ofChange fieldSmallSpec)

/-- ITS FALSE NEIGHBOUR: 'it returns false'. Refute it at one input. -/
def fieldSmallWrong : ChangeSpec := { name := "fieldSmall", fn := fun _ => fun
  | [d1, d2] => { results := [.lit (.bool false)], args := [d1, d2] }
  | _ => none }
def FieldSmallWrongFalsely : Prop := fieldSmallRow.holds Try.pinned (OpenSpec.ofChange fieldSmallWrong)

/-- 'witanlaw03.FieldNews': WHATEVER THE INPUT: true; the input reads as it did. -/
def fieldNewsSpec : ChangeSpec := { name := "fieldNews", fn := fun _ => fun
  | [d1, d2] => { results := [.lit (.bool true)], args := [d1, d2] }
  | _ => none }
def fieldNewsRow : OpenClaim := { program := "ythmpdhegodmjjaa", sum := "e863ef59ba14d0ecc061c067f1723cb44c211bcd248de0dd53cbfd78a9f9d9bd", func := "witan/witanlaw03.FieldNews", spec := "fieldNews", inPlace := ["math/bits.Add64"], apart := false }
def FieldNewsSaid : Prop := fieldNewsRow.holds Try.pinned (OpenSpec.ofChange fieldNewsSpec)

/-- ITS FALSE NEIGHBOUR: 'it returns false'. Refute it at one input. -/
def fieldNewsWrong : ChangeSpec := { name := "fieldNews", fn := fun _ => fun
  | [d1, d2] => { results := [.lit (.bool false)], args := [d1, d2] }
  | _ => none }
def FieldNewsWrongFalsely : Prop := fieldNewsRow.holds Try.pinned (OpenSpec.ofChange fieldNewsWrong)

/-- 'witanlaw03.FieldInv': WHATEVER THE INPUT: true; the input reads as it did. -/
def fieldInvSpec : ChangeSpec := { name := "fieldInv", fn := fun _ => fun
  | [d] => { results := [.lit (.bool true)], args := [d] }
  | _ => none }
def fieldInvRow : OpenClaim := { program := "ythmpdhegodmjjaa", sum := "e863ef59ba14d0ecc061c067f1723cb44c211bcd248de0dd53cbfd78a9f9d9bd", func := "witan/witanlaw03.FieldInv", spec := "fieldInv", inPlace := ["math/bits.Add64"], apart := false }
def FieldInvSaid : Prop := fieldInvRow.holds Try.pinned (OpenSpec.ofChange fieldInvSpec)

/-- ITS FALSE NEIGHBOUR: 'it returns false'. Refute it at one input. -/
def fieldInvWrong : ChangeSpec := { name := "fieldInv", fn := fun _ => fun
  | [d] => { results := [.lit (.bool false)], args := [d] }
  | _ => none }
def FieldInvWrongFalsely : Prop := fieldInvRow.holds Try.pinned (OpenSpec.ofChange fieldInvWrong)

/-- 'witanlaw03.FieldRoots': WHATEVER THE INPUT: true; the input reads as it did. -/
def fieldRootsSpec : ChangeSpec := { name := "fieldRoots", fn := fun _ => fun
  | [d1, d2] => { results := [.lit (.bool true)], args := [d1, d2] }
  | _ => none }
def fieldRootsRow : OpenClaim := { program := "ythmpdhegodmjjaa", sum := "e863ef59ba14d0ecc061c067f1723cb44c211bcd248de0dd53cbfd78a9f9d9bd", func := "witan/witanlaw03.FieldRoots", spec := "fieldRoots", inPlace := ["math/bits.Add64"], apart := false }
def FieldRootsSaid : Prop := fieldRootsRow.holds Try.pinned (OpenSpec.ofChange fieldRootsSpec)

/-- ITS FALSE NEIGHBOUR: 'it returns false'. Refute it at one input. -/
def fieldRootsWrong : ChangeSpec := { name := "fieldRoots", fn := fun _ => fun
  | [d1, d2] => { results := [.lit (.bool false)], args := [d1, d2] }
  | _ => none }
def FieldRootsWrongFalsely : Prop := fieldRootsRow.holds Try.pinned (OpenSpec.ofChange fieldRootsWrong)

/-- 'witanlaw03.FieldOps': WHATEVER THE INPUT: true; the input reads as it did. -/
def fieldOpsSpec : ChangeSpec := { name := "fieldOps", fn := fun _ => fun
  | [d1, d2] => { results := [.lit (.bool true)], args := [d1, d2] }
  | _ => none }
def fieldOpsRow : OpenClaim := { program := "ythmpdhegodmjjaa", sum := "e863ef59ba14d0ecc061c067f1723cb44c211bcd248de0dd53cbfd78a9f9d9bd", func := "witan/witanlaw03.FieldOps", spec := "fieldOps", inPlace := ["math/bits.Add64"], apart := false }
def FieldOpsSaid : Prop := fieldOpsRow.holds Try.pinned (OpenSpec.ofChange fieldOpsSpec)

/-- ITS FALSE NEIGHBOUR: 'it returns false'. Refute it at one input. -/
def fieldOpsWrong : ChangeSpec := { name := "fieldOps", fn := fun _ => fun
  | [d1, d2] => { results := [.lit (.bool false)], args := [d1, d2] }
  | _ => none }
def FieldOpsWrongFalsely : Prop := fieldOpsRow.holds Try.pinned (OpenSpec.ofChange fieldOpsWrong)

/-- 'witanlaw03.FieldLaws': WHATEVER THE INPUT: true; the input reads as it did. -/
def fieldLawsSpec : ChangeSpec := { name := "fieldLaws", fn := fun _ => fun
  | [d1, d2, d3] => { results := [.lit (.bool true)], args := [d1, d2, d3] }
  | _ => none }
def fieldLawsRow : OpenClaim := { program := "ythmpdhegodmjjaa", sum := "e863ef59ba14d0ecc061c067f1723cb44c211bcd248de0dd53cbfd78a9f9d9bd", func := "witan/witanlaw03.FieldLaws", spec := "fieldLaws", inPlace := ["math/bits.Add64"], apart := false }
def FieldLawsSaid : Prop := fieldLawsRow.holds Try.pinned (OpenSpec.ofChange fieldLawsSpec)

/-- ITS FALSE NEIGHBOUR: 'it returns false'. Refute it at one input. -/
def fieldLawsWrong : ChangeSpec := { name := "fieldLaws", fn := fun _ => fun
  | [d1, d2, d3] => { results := [.lit (.bool false)], args := [d1, d2, d3] }
  | _ => none }
def FieldLawsWrongFalsely : Prop := fieldLawsRow.holds Try.pinned (OpenSpec.ofChange fieldLawsWrong)

/-- 'witanlaw03.FieldRows': WHATEVER THE INPUT: true; the input reads as it did. -/
def fieldRowsSpec : ChangeSpec := { name := "fieldRows", fn := fun _ => fun
  | [d1, d2, d3] => { results := [.lit (.bool true)], args := [d1, d2, d3] }
  | _ => none }
def fieldRowsRow : OpenClaim := { program := "ythmpdhegodmjjaa", sum := "e863ef59ba14d0ecc061c067f1723cb44c211bcd248de0dd53cbfd78a9f9d9bd", func := "witan/witanlaw03.FieldRows", spec := "fieldRows", inPlace := ["math/bits.Add64"], apart := false }
def FieldRowsSaid : Prop := fieldRowsRow.holds Try.pinned (OpenSpec.ofChange fieldRowsSpec)

/-- ITS FALSE NEIGHBOUR: 'it returns false'. Refute it at one input. -/
def fieldRowsWrong : ChangeSpec := { name := "fieldRows", fn := fun _ => fun
  | [d1, d2, d3] => { results := [.lit (.bool false)], args := [d1, d2, d3] }
  | _ => none }
def FieldRowsWrongFalsely : Prop := fieldRowsRow.holds Try.pinned (OpenSpec.ofChange fieldRowsWrong)

/-- 'witanlaw03.FieldPowers': WHATEVER THE INPUT: true; the input reads as it did. -/
def fieldPowersSpec : ChangeSpec := { name := "fieldPowers", fn := fun _ => fun
  | [d] => { results := [.lit (.bool true)], args := [d] }
  | _ => none }
def fieldPowersRow : OpenClaim := { program := "ythmpdhegodmjjaa", sum := "e863ef59ba14d0ecc061c067f1723cb44c211bcd248de0dd53cbfd78a9f9d9bd", func := "witan/witanlaw03.FieldPowers", spec := "fieldPowers", inPlace := ["math/bits.Add64"], apart := false }
def FieldPowersSaid : Prop := fieldPowersRow.holds Try.pinned (OpenSpec.ofChange fieldPowersSpec)

/-- ITS FALSE NEIGHBOUR: 'it returns false'. Refute it at one input. -/
def fieldPowersWrong : ChangeSpec := { name := "fieldPowers", fn := fun _ => fun
  | [d] => { results := [.lit (.bool false)], args := [d] }
  | _ => none }
def FieldPowersWrongFalsely : Prop := fieldPowersRow.holds Try.pinned (OpenSpec.ofChange fieldPowersWrong)

/- THE SECOND FORM. 'bulk': how many values and letters a reading holds, each counted each time it is reached (what is shared counts as often as it is met; a slice's spare places count too). A statement '..UptoSaid' is the law's where the arguments, and the package variables that the reading takes, are together of bulk at most 1048576: NARROWER than '..Said'. Prove '..Said' where nothing that the law and all that it calls make is longer than what came in: it says more and counts as full. Else prove '..UptoSaid'. A law counts once. -/
mutual
def uptoBulk {H : Type} : DataW H → Nat
  | .lit (.string bytes) => bytes.length + 1
  | .lit _ => 1
  | .nil => 1
  | .ptr d => uptoBulk d + 1
  | .slice elems spare => uptoBulkAll elems + uptoBulkAll spare + 1
  | .agg parts => uptoBulkAll parts + 1
  | .iface _ d => uptoBulk d + 1
  | .map entries => uptoBulkEntries entries + 1
  | .held _ => 1
def uptoBulkAll {H : Type} : List (DataW H) → Nat
  | [] => 0
  | d :: r => uptoBulk d + uptoBulkAll r
def uptoBulkEntries {H : Type} : List (Lit × DataW H) → Nat
  | [] => 0
  | x :: r => uptoBulkEntry x + uptoBulkEntries r
def uptoBulkEntry {H : Type} : Lit × DataW H → Nat
  | (.string bytes, d) => bytes.length + uptoBulk d + 1
  | (_, d) => uptoBulk d + 1
 end
def uptoSmall : (H : Type) → List (DataW H) → Bool := fun _ ds => decide (uptoBulkAll ds ≤ 1048576)
def OpenSpec.upto (s : _root_.Go.ChangeSpec) : _root_.Go.OpenSpec := { _root_.Go.OpenSpec.ofChange s with cond := some uptoSmall }

/-- 'witanlaw03.FieldSmall', WHERE WHAT IT READS IS OF BULK AT MOST 1048576: true; the input reads as it did. -/
def fieldSmallUptoRow : OpenClaim := { program := "ythmpdhegodmjjaa", sum := "e863ef59ba14d0ecc061c067f1723cb44c211bcd248de0dd53cbfd78a9f9d9bd", func := "witan/witanlaw03.FieldSmall", spec := "fieldSmall", inPlace := ["math/bits.Add64"], apart := false, narrowed := true }
def FieldSmallUptoSaid : Prop := fieldSmallUptoRow.holds Try.pinned (OpenSpec.upto fieldSmallSpec)

/-- 'witanlaw03.FieldNews', WHERE WHAT IT READS IS OF BULK AT MOST 1048576: true; the input reads as it did. -/
def fieldNewsUptoRow : OpenClaim := { program := "ythmpdhegodmjjaa", sum := "e863ef59ba14d0ecc061c067f1723cb44c211bcd248de0dd53cbfd78a9f9d9bd", func := "witan/witanlaw03.FieldNews", spec := "fieldNews", inPlace := ["math/bits.Add64"], apart := false, narrowed := true }
def FieldNewsUptoSaid : Prop := fieldNewsUptoRow.holds Try.pinned (OpenSpec.upto fieldNewsSpec)

/-- 'witanlaw03.FieldInv', WHERE WHAT IT READS IS OF BULK AT MOST 1048576: true; the input reads as it did. -/
def fieldInvUptoRow : OpenClaim := { program := "ythmpdhegodmjjaa", sum := "e863ef59ba14d0ecc061c067f1723cb44c211bcd248de0dd53cbfd78a9f9d9bd", func := "witan/witanlaw03.FieldInv", spec := "fieldInv", inPlace := ["math/bits.Add64"], apart := false, narrowed := true }
def FieldInvUptoSaid : Prop := fieldInvUptoRow.holds Try.pinned (OpenSpec.upto fieldInvSpec)

/-- 'witanlaw03.FieldRoots', WHERE WHAT IT READS IS OF BULK AT MOST 1048576: true; the input reads as it did. -/
def fieldRootsUptoRow : OpenClaim := { program := "ythmpdhegodmjjaa", sum := "e863ef59ba14d0ecc061c067f1723cb44c211bcd248de0dd53cbfd78a9f9d9bd", func := "witan/witanlaw03.FieldRoots", spec := "fieldRoots", inPlace := ["math/bits.Add64"], apart := false, narrowed := true }
def FieldRootsUptoSaid : Prop := fieldRootsUptoRow.holds Try.pinned (OpenSpec.upto fieldRootsSpec)

/-- 'witanlaw03.FieldOps', WHERE WHAT IT READS IS OF BULK AT MOST 1048576: true; the input reads as it did. -/
def fieldOpsUptoRow : OpenClaim := { program := "ythmpdhegodmjjaa", sum := "e863ef59ba14d0ecc061c067f1723cb44c211bcd248de0dd53cbfd78a9f9d9bd", func := "witan/witanlaw03.FieldOps", spec := "fieldOps", inPlace := ["math/bits.Add64"], apart := false, narrowed := true }
def FieldOpsUptoSaid : Prop := fieldOpsUptoRow.holds Try.pinned (OpenSpec.upto fieldOpsSpec)

/-- 'witanlaw03.FieldLaws', WHERE WHAT IT READS IS OF BULK AT MOST 1048576: true; the input reads as it did. -/
def fieldLawsUptoRow : OpenClaim := { program := "ythmpdhegodmjjaa", sum := "e863ef59ba14d0ecc061c067f1723cb44c211bcd248de0dd53cbfd78a9f9d9bd", func := "witan/witanlaw03.FieldLaws", spec := "fieldLaws", inPlace := ["math/bits.Add64"], apart := false, narrowed := true }
def FieldLawsUptoSaid : Prop := fieldLawsUptoRow.holds Try.pinned (OpenSpec.upto fieldLawsSpec)

/-- 'witanlaw03.FieldRows', WHERE WHAT IT READS IS OF BULK AT MOST 1048576: true; the input reads as it did. -/
def fieldRowsUptoRow : OpenClaim := { program := "ythmpdhegodmjjaa", sum := "e863ef59ba14d0ecc061c067f1723cb44c211bcd248de0dd53cbfd78a9f9d9bd", func := "witan/witanlaw03.FieldRows", spec := "fieldRows", inPlace := ["math/bits.Add64"], apart := false, narrowed := true }
def FieldRowsUptoSaid : Prop := fieldRowsUptoRow.holds Try.pinned (OpenSpec.upto fieldRowsSpec)

/-- 'witanlaw03.FieldPowers', WHERE WHAT IT READS IS OF BULK AT MOST 1048576: true; the input reads as it did. -/
def fieldPowersUptoRow : OpenClaim := { program := "ythmpdhegodmjjaa", sum := "e863ef59ba14d0ecc061c067f1723cb44c211bcd248de0dd53cbfd78a9f9d9bd", func := "witan/witanlaw03.FieldPowers", spec := "fieldPowers", inPlace := ["math/bits.Add64"], apart := false, narrowed := true }
def FieldPowersUptoSaid : Prop := fieldPowersUptoRow.holds Try.pinned (OpenSpec.upto fieldPowersSpec)

end Rows
end Go.Proofs.Ythmpdhegodmjjaa
