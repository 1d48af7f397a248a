/-
  No cell of these rows narrows 'for every input' (looked for: loops, veiled, ifaces, maps, wideKeys, modest, calm, conditions, laid).
  DERIVED. THE GIVEN ROWS OF THIS SEAT. 5 by the template 'for every input the law returns true; each argument reads behind the call as it read before'; 0 by the template 'total and deterministic' (their statements: YtfamfdihflkdpaaTotals.lean).
  GIVEN WITH THE SEED: the statements are not yours to turn. If you find one false, say at which input.
  Laid BY PROGRAM, IN A SANDBOX (cutbox-rows.mjs): the forced cells as the released guide's own fill.sh prints them over the translation b88e5e465822a21b… (all of the seat's roots in one cut). By AI agents, Wed Nov 11 2026. No macro, syntax, notation, axiom, sorry.
-/
import Derived.Test.YtfamfdihflkdpaaChecked
import GoSem.Claim
import GoSem.ClaimJoined
import GoSem.ClaimMapViews
import Derived.JoinedTies
import Derived.KernelRfl
namespace Go.Proofs.Ytfamfdihflkdpaa
/- THE CELL 'sum', in the pinned program and in every row, IS THE sha256 OF THE DUMP (.gsa) THAT YtfamfdihflkdpaaProg.lean LOADS. Nothing in Lean hashes anything: it is a label: what it is worth is what the hold of that sum in a sandbox is worth. -/
noncomputable def Try.pinned : Pinned := { name := "ytfamfdihflkdpaa", sum := "b88e5e465822a21b25aa4396f05e953ebe357737ab55eaa6bfcab8c6ef78feca", checked := Try.checked }
namespace Rows
def none {H : Type} : Left H := { results := [], args := [] }

/-- 'witanlaw04.ScalarOps': WHATEVER THE INPUT: true; the input reads as it did. -/
def scalarOpsSpec : ChangeSpec := { name := "scalarOps", fn := fun _ => fun
  | [d1, d2] => { results := [.lit (.bool true)], args := [d1, d2] }
  | _ => none }
def scalarOpsRow : OpenClaim := { program := "ytfamfdihflkdpaa", sum := "b88e5e465822a21b25aa4396f05e953ebe357737ab55eaa6bfcab8c6ef78feca", func := "witan/witanlaw04.ScalarOps", spec := "scalarOps", inPlace := ["math/bits.Sub64", "math/bits.Add64"], apart := false }
def ScalarOpsSaid : Prop := scalarOpsRow.holds Try.pinned (OpenSpec.ofChange scalarOpsSpec)

/-- ITS FALSE NEIGHBOUR: 'it returns false'. Refute it at one input. -/
def scalarOpsWrong : ChangeSpec := { name := "scalarOps", fn := fun _ => fun
  | [d1, d2] => { results := [.lit (.bool false)], args := [d1, d2] }
  | _ => none }
def ScalarOpsWrongFalsely : Prop := scalarOpsRow.holds Try.pinned (OpenSpec.ofChange scalarOpsWrong)

/-- 'witanlaw04.ScalarNews': WHATEVER THE INPUT: true; the input reads as it did. -/
def scalarNewsSpec : ChangeSpec := { name := "scalarNews", fn := fun _ => fun
  | [d1, d2, d3] => { results := [.lit (.bool true)], args := [d1, d2, d3] }
  | _ => none }
def scalarNewsRow : OpenClaim := { program := "ytfamfdihflkdpaa", sum := "b88e5e465822a21b25aa4396f05e953ebe357737ab55eaa6bfcab8c6ef78feca", func := "witan/witanlaw04.ScalarNews", spec := "scalarNews", inPlace := ["math/bits.Sub64", "math/bits.Add64"], apart := false }
def ScalarNewsSaid : Prop := scalarNewsRow.holds Try.pinned (OpenSpec.ofChange scalarNewsSpec)

/-- ITS FALSE NEIGHBOUR: 'it returns false'. Refute it at one input. -/
def scalarNewsWrong : ChangeSpec := { name := "scalarNews", fn := fun _ => fun
  | [d1, d2, d3] => { results := [.lit (.bool false)], args := [d1, d2, d3] }
  | _ => none }
def ScalarNewsWrongFalsely : Prop := scalarNewsRow.holds Try.pinned (OpenSpec.ofChange scalarNewsWrong)

/-- 'witanlaw04.ScalarLaws': WHATEVER THE INPUT: true; the input reads as it did. -/
def scalarLawsSpec : ChangeSpec := { name := "scalarLaws", fn := fun _ => fun
  | [d1, d2, d3] => { results := [.lit (.bool true)], args := [d1, d2, d3] }
  | _ => none }
def scalarLawsRow : OpenClaim := { program := "ytfamfdihflkdpaa", sum := "b88e5e465822a21b25aa4396f05e953ebe357737ab55eaa6bfcab8c6ef78feca", func := "witan/witanlaw04.ScalarLaws", spec := "scalarLaws", inPlace := ["math/bits.Sub64", "math/bits.Add64"], apart := false }
def ScalarLawsSaid : Prop := scalarLawsRow.holds Try.pinned (OpenSpec.ofChange scalarLawsSpec)

/-- ITS FALSE NEIGHBOUR: 'it returns false'. Refute it at one input. -/
def scalarLawsWrong : ChangeSpec := { name := "scalarLaws", fn := fun _ => fun
  | [d1, d2, d3] => { results := [.lit (.bool false)], args := [d1, d2, d3] }
  | _ => none }
def ScalarLawsWrongFalsely : Prop := scalarLawsRow.holds Try.pinned (OpenSpec.ofChange scalarLawsWrong)

/-- 'witanlaw04.ScalarWide': WHATEVER THE INPUT: true; the input reads as it did. -/
def scalarWideSpec : ChangeSpec := { name := "scalarWide", fn := fun _ => fun
  | [d1, d2] => { results := [.lit (.bool true)], args := [d1, d2] }
  | _ => none }
def scalarWideRow : OpenClaim := { program := "ytfamfdihflkdpaa", sum := "b88e5e465822a21b25aa4396f05e953ebe357737ab55eaa6bfcab8c6ef78feca", func := "witan/witanlaw04.ScalarWide", spec := "scalarWide", inPlace := ["math/bits.Sub64", "math/bits.Add64"], apart := false }
def ScalarWideSaid : Prop := scalarWideRow.holds Try.pinned (OpenSpec.ofChange scalarWideSpec)

/-- ITS FALSE NEIGHBOUR: 'it returns false'. Refute it at one input. -/
def scalarWideWrong : ChangeSpec := { name := "scalarWide", fn := fun _ => fun
  | [d1, d2] => { results := [.lit (.bool false)], args := [d1, d2] }
  | _ => none }
def ScalarWideWrongFalsely : Prop := scalarWideRow.holds Try.pinned (OpenSpec.ofChange scalarWideWrong)

/-- 'witanlaw04.ScalarBits': WHATEVER THE INPUT: true; the input reads as it did. -/
def scalarBitsSpec : ChangeSpec := { name := "scalarBits", fn := fun _ => fun
  | [d] => { results := [.lit (.bool true)], args := [d] }
  | _ => none }
def scalarBitsRow : OpenClaim := { program := "ytfamfdihflkdpaa", sum := "b88e5e465822a21b25aa4396f05e953ebe357737ab55eaa6bfcab8c6ef78feca", func := "witan/witanlaw04.ScalarBits", spec := "scalarBits", inPlace := ["math/bits.Sub64", "math/bits.Add64"], apart := false }
def ScalarBitsSaid : Prop := scalarBitsRow.holds Try.pinned (OpenSpec.ofChange scalarBitsSpec)

/-- ITS FALSE NEIGHBOUR: 'it returns false'. Refute it at one input. -/
def scalarBitsWrong : ChangeSpec := { name := "scalarBits", fn := fun _ => fun
  | [d] => { results := [.lit (.bool false)], args := [d] }
  | _ => none }
def ScalarBitsWrongFalsely : Prop := scalarBitsRow.holds Try.pinned (OpenSpec.ofChange scalarBitsWrong)

/- THE SECOND FORM. 'bulk': how many values and letters a reading holds, each counted each time it is reached (what is shared counts as often as it is met; a slice's spare places count too). A statement '..UptoSaid' is the law's where the arguments, and the package variables that the reading takes, are together of bulk at most 1048576: NARROWER than '..Said'. Prove '..Said' where nothing that the law and all that it calls make is longer than what came in: it says more and counts as full. Else prove '..UptoSaid'. A law counts once. -/
mutual
def uptoBulk {H : Type} : DataW H → Nat
  | .lit (.string bytes) => bytes.length + 1
  | .lit _ => 1
  | .nil => 1
  | .ptr d => uptoBulk d + 1
  | .slice elems spare => uptoBulkAll elems + uptoBulkAll spare + 1
  | .agg parts => uptoBulkAll parts + 1
  | .iface _ d => uptoBulk d + 1
  | .map entries => uptoBulkEntries entries + 1
  | .held _ => 1
def uptoBulkAll {H : Type} : List (DataW H) → Nat
  | [] => 0
  | d :: r => uptoBulk d + uptoBulkAll r
def uptoBulkEntries {H : Type} : List (Lit × DataW H) → Nat
  | [] => 0
  | x :: r => uptoBulkEntry x + uptoBulkEntries r
def uptoBulkEntry {H : Type} : Lit × DataW H → Nat
  | (.string bytes, d) => bytes.length + uptoBulk d + 1
  | (_, d) => uptoBulk d + 1
 end
def uptoSmall : (H : Type) → List (DataW H) → Bool := fun _ ds => decide (uptoBulkAll ds ≤ 1048576)
def OpenSpec.upto (s : _root_.Go.ChangeSpec) : _root_.Go.OpenSpec := { _root_.Go.OpenSpec.ofChange s with cond := some uptoSmall }

/-- 'witanlaw04.ScalarOps', WHERE WHAT IT READS IS OF BULK AT MOST 1048576: true; the input reads as it did. -/
def scalarOpsUptoRow : OpenClaim := { program := "ytfamfdihflkdpaa", sum := "b88e5e465822a21b25aa4396f05e953ebe357737ab55eaa6bfcab8c6ef78feca", func := "witan/witanlaw04.ScalarOps", spec := "scalarOps", inPlace := ["math/bits.Sub64", "math/bits.Add64"], apart := false, narrowed := true }
def ScalarOpsUptoSaid : Prop := scalarOpsUptoRow.holds Try.pinned (OpenSpec.upto scalarOpsSpec)

/-- 'witanlaw04.ScalarNews', WHERE WHAT IT READS IS OF BULK AT MOST 1048576: true; the input reads as it did. -/
def scalarNewsUptoRow : OpenClaim := { program := "ytfamfdihflkdpaa", sum := "b88e5e465822a21b25aa4396f05e953ebe357737ab55eaa6bfcab8c6ef78feca", func := "witan/witanlaw04.ScalarNews", spec := "scalarNews", inPlace := ["math/bits.Sub64", "math/bits.Add64"], apart := false, narrowed := true }
def ScalarNewsUptoSaid : Prop := scalarNewsUptoRow.holds Try.pinned (OpenSpec.upto scalarNewsSpec)

/-- 'witanlaw04.ScalarLaws', WHERE WHAT IT READS IS OF BULK AT MOST 1048576: true; the input reads as it did. -/
def scalarLawsUptoRow : OpenClaim := { program := "ytfamfdihflkdpaa", sum := "b88e5e465822a21b25aa4396f05e953ebe357737ab55eaa6bfcab8c6ef78feca", func := "witan/witanlaw04.ScalarLaws", spec := "scalarLaws", inPlace := ["math/bits.Sub64", "math/bits.Add64"], apart := false, narrowed := true }
def ScalarLawsUptoSaid : Prop := scalarLawsUptoRow.holds Try.pinned (OpenSpec.upto scalarLawsSpec)

/-- 'witanlaw04.ScalarWide', WHERE WHAT IT READS IS OF BULK AT MOST 1048576: true; the input reads as it did. -/
def scalarWideUptoRow : OpenClaim := { program := "ytfamfdihflkdpaa", sum := "b88e5e465822a21b25aa4396f05e953ebe357737ab55eaa6bfcab8c6ef78feca", func := "witan/witanlaw04.ScalarWide", spec := "scalarWide", inPlace := ["math/bits.Sub64", "math/bits.Add64"], apart := false, narrowed := true }
def ScalarWideUptoSaid : Prop := scalarWideUptoRow.holds Try.pinned (OpenSpec.upto scalarWideSpec)

/-- 'witanlaw04.ScalarBits', WHERE WHAT IT READS IS OF BULK AT MOST 1048576: true; the input reads as it did. -/
def scalarBitsUptoRow : OpenClaim := { program := "ytfamfdihflkdpaa", sum := "b88e5e465822a21b25aa4396f05e953ebe357737ab55eaa6bfcab8c6ef78feca", func := "witan/witanlaw04.ScalarBits", spec := "scalarBits", inPlace := ["math/bits.Sub64", "math/bits.Add64"], apart := false, narrowed := true }
def ScalarBitsUptoSaid : Prop := scalarBitsUptoRow.holds Try.pinned (OpenSpec.upto scalarBitsSpec)

end Rows
end Go.Proofs.Ytfamfdihflkdpaa
