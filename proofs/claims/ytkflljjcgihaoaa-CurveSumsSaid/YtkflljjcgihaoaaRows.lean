/-
  No cell of these rows narrows 'for every input' (looked for: loops, veiled, ifaces, maps, wideKeys, modest, calm, conditions, laid).
  DERIVED. THE GIVEN ROWS OF THIS SEAT. 7 by the template 'for every input the law returns true; each argument reads behind the call as it read before'; 0 by the template 'total and deterministic' (their statements: YtkflljjcgihaoaaTotals.lean).
  GIVEN WITH THE SEED: the statements are not yours to turn. If you find one false, say at which input.
  Laid BY PROGRAM, IN A SANDBOX (cutbox-rows.mjs): the forced cells as the released guide's own fill.sh prints them over the translation 67c7d4574c930fe8… (all of the seat's roots in one cut). By AI agents, Wed Nov 11 2026. No macro, syntax, notation, axiom, sorry.
-/
import Derived.Test.YtkflljjcgihaoaaChecked
import GoSem.Claim
import GoSem.ClaimJoined
import GoSem.ClaimMapViews
import Derived.JoinedTies
import Derived.KernelRfl
namespace Go.Proofs.Ytkflljjcgihaoaa
/- THE CELL 'sum', in the pinned program and in every row, IS THE sha256 OF THE DUMP (.gsa) THAT YtkflljjcgihaoaaProg.lean LOADS. Nothing in Lean hashes anything: it is a label: what it is worth is what the hold of that sum in a sandbox is worth. -/
noncomputable def Try.pinned : Pinned := { name := "ytkflljjcgihaoaa", sum := "67c7d4574c930fe8b2475f478ee3a80c3559f4ae732ec26660d5f763edb1217b", checked := Try.checked }
namespace Rows
def none {H : Type} : Left H := { results := [], args := [] }

/-- 'witanlaw05.CurveReads': WHATEVER THE INPUT: true; the input reads as it did. -/
def curveReadsSpec : ChangeSpec := { name := "curveReads", fn := fun _ => fun
  | [d] => { results := [.lit (.bool true)], args := [d] }
  | _ => none }
def curveReadsRow : OpenClaim := { program := "ytkflljjcgihaoaa", sum := "67c7d4574c930fe8b2475f478ee3a80c3559f4ae732ec26660d5f763edb1217b", func := "witan/witanlaw05.CurveReads", spec := "curveReads", inPlace := ["math/bits.Add64"], apart := false }
def CurveReadsSaid : Prop := curveReadsRow.holds Try.pinned (OpenSpec.ofChange curveReadsSpec)

/-- ITS FALSE NEIGHBOUR: 'it returns false'. Refute it at one input. -/
def curveReadsWrong : ChangeSpec := { name := "curveReads", fn := fun _ => fun
  | [d] => { results := [.lit (.bool false)], args := [d] }
  | _ => none }
def CurveReadsWrongFalsely : Prop := curveReadsRow.holds Try.pinned (OpenSpec.ofChange curveReadsWrong)

/-- 'witanlaw05.CurveGroup': WHATEVER THE INPUT: true; the input reads as it did. -/
def curveGroupSpec : ChangeSpec := { name := "curveGroup", fn := fun _ => fun
  | [d1, d2, d3] => { results := [.lit (.bool true)], args := [d1, d2, d3] }
  | _ => none }
def curveGroupRow : OpenClaim := { program := "ytkflljjcgihaoaa", sum := "67c7d4574c930fe8b2475f478ee3a80c3559f4ae732ec26660d5f763edb1217b", func := "witan/witanlaw05.CurveGroup", spec := "curveGroup", inPlace := ["math/bits.Add64"], apart := false }
def CurveGroupSaid : Prop := curveGroupRow.holds Try.pinned (OpenSpec.ofChange curveGroupSpec)

/-- ITS FALSE NEIGHBOUR: 'it returns false'. Refute it at one input. -/
def curveGroupWrong : ChangeSpec := { name := "curveGroup", fn := fun _ => fun
  | [d1, d2, d3] => { results := [.lit (.bool false)], args := [d1, d2, d3] }
  | _ => none }
def CurveGroupWrongFalsely : Prop := curveGroupRow.holds Try.pinned (OpenSpec.ofChange curveGroupWrong)

/-- 'witanlaw05.CurveNegs': WHATEVER THE INPUT: true; the input reads as it did. -/
def curveNegsSpec : ChangeSpec := { name := "curveNegs", fn := fun _ => fun
  | [d1, d2] => { results := [.lit (.bool true)], args := [d1, d2] }
  | _ => none }
def curveNegsRow : OpenClaim := { program := "ytkflljjcgihaoaa", sum := "67c7d4574c930fe8b2475f478ee3a80c3559f4ae732ec26660d5f763edb1217b", func := "witan/witanlaw05.CurveNegs", spec := "curveNegs", inPlace := ["math/bits.Add64"], apart := false }
def CurveNegsSaid : Prop := curveNegsRow.holds Try.pinned (OpenSpec.ofChange curveNegsSpec)

/-- ITS FALSE NEIGHBOUR: 'it returns false'. Refute it at one input. -/
def curveNegsWrong : ChangeSpec := { name := "curveNegs", fn := fun _ => fun
  | [d1, d2] => { results := [.lit (.bool false)], args := [d1, d2] }
  | _ => none }
def CurveNegsWrongFalsely : Prop := curveNegsRow.holds Try.pinned (OpenSpec.ofChange curveNegsWrong)

/-- 'witanlaw05.CurveTorsion': WHATEVER THE INPUT: true; the input reads as it did. -/
def curveTorsionSpec : ChangeSpec := { name := "curveTorsion", fn := fun _ => fun
  | [d1, d2] => { results := [.lit (.bool true)], args := [d1, d2] }
  | _ => none }
def curveTorsionRow : OpenClaim := { program := "ytkflljjcgihaoaa", sum := "67c7d4574c930fe8b2475f478ee3a80c3559f4ae732ec26660d5f763edb1217b", func := "witan/witanlaw05.CurveTorsion", spec := "curveTorsion", inPlace := ["math/bits.Add64"], apart := false }
def CurveTorsionSaid : Prop := curveTorsionRow.holds Try.pinned (OpenSpec.ofChange curveTorsionSpec)

/-- ITS FALSE NEIGHBOUR: 'it returns false'. Refute it at one input. -/
def curveTorsionWrong : ChangeSpec := { name := "curveTorsion", fn := fun _ => fun
  | [d1, d2] => { results := [.lit (.bool false)], args := [d1, d2] }
  | _ => none }
def CurveTorsionWrongFalsely : Prop := curveTorsionRow.holds Try.pinned (OpenSpec.ofChange curveTorsionWrong)

/-- 'witanlaw05.CurveOrder': WHATEVER THE INPUT: true; the input reads as it did. -/
def curveOrderSpec : ChangeSpec := { name := "curveOrder", fn := fun _ => fun
  | [d] => { results := [.lit (.bool true)], args := [d] }
  | _ => none }
def curveOrderRow : OpenClaim := { program := "ytkflljjcgihaoaa", sum := "67c7d4574c930fe8b2475f478ee3a80c3559f4ae732ec26660d5f763edb1217b", func := "witan/witanlaw05.CurveOrder", spec := "curveOrder", inPlace := ["math/bits.Add64"], apart := false }
def CurveOrderSaid : Prop := curveOrderRow.holds Try.pinned (OpenSpec.ofChange curveOrderSpec)

/-- ITS FALSE NEIGHBOUR: 'it returns false'. Refute it at one input. -/
def curveOrderWrong : ChangeSpec := { name := "curveOrder", fn := fun _ => fun
  | [d] => { results := [.lit (.bool false)], args := [d] }
  | _ => none }
def CurveOrderWrongFalsely : Prop := curveOrderRow.holds Try.pinned (OpenSpec.ofChange curveOrderWrong)

/-- 'witanlaw05.CurveSums': WHATEVER THE INPUT: true; the input reads as it did. -/
def curveSumsSpec : ChangeSpec := { name := "curveSums", fn := fun _ => fun
  | [d1, d2, d3] => { results := [.lit (.bool true)], args := [d1, d2, d3] }
  | _ => none }
def curveSumsRow : OpenClaim := { program := "ytkflljjcgihaoaa", sum := "67c7d4574c930fe8b2475f478ee3a80c3559f4ae732ec26660d5f763edb1217b", func := "witan/witanlaw05.CurveSums", spec := "curveSums", inPlace := ["math/bits.Add64"], apart := false }
def CurveSumsSaid : Prop := curveSumsRow.holds Try.pinned (OpenSpec.ofChange curveSumsSpec)

/-- ITS FALSE NEIGHBOUR: 'it returns false'. Refute it at one input. -/
def curveSumsWrong : ChangeSpec := { name := "curveSums", fn := fun _ => fun
  | [d1, d2, d3] => { results := [.lit (.bool false)], args := [d1, d2, d3] }
  | _ => none }
def CurveSumsWrongFalsely : Prop := curveSumsRow.holds Try.pinned (OpenSpec.ofChange curveSumsWrong)

/-- 'witanlaw05.CurveNumbers': WHATEVER THE INPUT: true; the input reads as it did. -/
def curveNumbersSpec : ChangeSpec := { name := "curveNumbers", fn := fun _ => fun
  | [d1, d2] => { results := [.lit (.bool true)], args := [d1, d2] }
  | _ => none }
def curveNumbersRow : OpenClaim := { program := "ytkflljjcgihaoaa", sum := "67c7d4574c930fe8b2475f478ee3a80c3559f4ae732ec26660d5f763edb1217b", func := "witan/witanlaw05.CurveNumbers", spec := "curveNumbers", inPlace := ["math/bits.Add64", "math/bits.Sub64"], apart := false }
def CurveNumbersSaid : Prop := curveNumbersRow.holds Try.pinned (OpenSpec.ofChange curveNumbersSpec)

/-- ITS FALSE NEIGHBOUR: 'it returns false'. Refute it at one input. -/
def curveNumbersWrong : ChangeSpec := { name := "curveNumbers", fn := fun _ => fun
  | [d1, d2] => { results := [.lit (.bool false)], args := [d1, d2] }
  | _ => none }
def CurveNumbersWrongFalsely : Prop := curveNumbersRow.holds Try.pinned (OpenSpec.ofChange curveNumbersWrong)

/- THE SECOND FORM. 'bulk': how many values and letters a reading holds, each counted each time it is reached (what is shared counts as often as it is met; a slice's spare places count too). A statement '..UptoSaid' is the law's where the arguments, and the package variables that the reading takes, are together of bulk at most 1048576: NARROWER than '..Said'. Prove '..Said' where nothing that the law and all that it calls make is longer than what came in: it says more and counts as full. Else prove '..UptoSaid'. A law counts once. -/
mutual
def uptoBulk {H : Type} : DataW H → Nat
  | .lit (.string bytes) => bytes.length + 1
  | .lit _ => 1
  | .nil => 1
  | .ptr d => uptoBulk d + 1
  | .slice elems spare => uptoBulkAll elems + uptoBulkAll spare + 1
  | .agg parts => uptoBulkAll parts + 1
  | .iface _ d => uptoBulk d + 1
  | .map entries => uptoBulkEntries entries + 1
  | .held _ => 1
def uptoBulkAll {H : Type} : List (DataW H) → Nat
  | [] => 0
  | d :: r => uptoBulk d + uptoBulkAll r
def uptoBulkEntries {H : Type} : List (Lit × DataW H) → Nat
  | [] => 0
  | x :: r => uptoBulkEntry x + uptoBulkEntries r
def uptoBulkEntry {H : Type} : Lit × DataW H → Nat
  | (.string bytes, d) => bytes.length + uptoBulk d + 1
  | (_, d) => uptoBulk d + 1
 end
def uptoSmall : (H : Type) → List (DataW H) → Bool := fun _ ds => decide (uptoBulkAll ds ≤ 1048576)
def OpenSpec.upto (s : _root_.Go.ChangeSpec) : _root_.Go.OpenSpec := { _root_.Go.OpenSpec.ofChange s with cond := some uptoSmall }

/-- 'witanlaw05.CurveReads', WHERE WHAT IT READS IS OF BULK AT MOST 1048576: true; the input reads as it did. -/
def curveReadsUptoRow : OpenClaim := { program := "ytkflljjcgihaoaa", sum := "67c7d4574c930fe8b2475f478ee3a80c3559f4ae732ec26660d5f763edb1217b", func := "witan/witanlaw05.CurveReads", spec := "curveReads", inPlace := ["math/bits.Add64"], apart := false, narrowed := true }
def CurveReadsUptoSaid : Prop := curveReadsUptoRow.holds Try.pinned (OpenSpec.upto curveReadsSpec)

/-- 'witanlaw05.CurveGroup', WHERE WHAT IT READS IS OF BULK AT MOST 1048576: true; the input reads as it did. -/
def curveGroupUptoRow : OpenClaim := { program := "ytkflljjcgihaoaa", sum := "67c7d4574c930fe8b2475f478ee3a80c3559f4ae732ec26660d5f763edb1217b", func := "witan/witanlaw05.CurveGroup", spec := "curveGroup", inPlace := ["math/bits.Add64"], apart := false, narrowed := true }
def CurveGroupUptoSaid : Prop := curveGroupUptoRow.holds Try.pinned (OpenSpec.upto curveGroupSpec)

/-- 'witanlaw05.CurveNegs', WHERE WHAT IT READS IS OF BULK AT MOST 1048576: true; the input reads as it did. -/
def curveNegsUptoRow : OpenClaim := { program := "ytkflljjcgihaoaa", sum := "67c7d4574c930fe8b2475f478ee3a80c3559f4ae732ec26660d5f763edb1217b", func := "witan/witanlaw05.CurveNegs", spec := "curveNegs", inPlace := ["math/bits.Add64"], apart := false, narrowed := true }
def CurveNegsUptoSaid : Prop := curveNegsUptoRow.holds Try.pinned (OpenSpec.upto curveNegsSpec)

/-- 'witanlaw05.CurveTorsion', WHERE WHAT IT READS IS OF BULK AT MOST 1048576: true; the input reads as it did. -/
def curveTorsionUptoRow : OpenClaim := { program := "ytkflljjcgihaoaa", sum := "67c7d4574c930fe8b2475f478ee3a80c3559f4ae732ec26660d5f763edb1217b", func := "witan/witanlaw05.CurveTorsion", spec := "curveTorsion", inPlace := ["math/bits.Add64"], apart := false, narrowed := true }
def CurveTorsionUptoSaid : Prop := curveTorsionUptoRow.holds Try.pinned (OpenSpec.upto curveTorsionSpec)

/-- 'witanlaw05.CurveOrder', WHERE WHAT IT READS IS OF BULK AT MOST 1048576: true; the input reads as it did. -/
def curveOrderUptoRow : OpenClaim := { program := "ytkflljjcgihaoaa", sum := "67c7d4574c930fe8b2475f478ee3a80c3559f4ae732ec26660d5f763edb1217b", func := "witan/witanlaw05.CurveOrder", spec := "curveOrder", inPlace := ["math/bits.Add64"], apart := false, narrowed := true }
def CurveOrderUptoSaid : Prop := curveOrderUptoRow.holds Try.pinned (OpenSpec.upto curveOrderSpec)

/-- 'witanlaw05.CurveSums', WHERE WHAT IT READS IS OF BULK AT MOST 1048576: true; the input reads as it did. -/
def curveSumsUptoRow : OpenClaim := { program := "ytkflljjcgihaoaa", sum := "67c7d4574c930fe8b2475f478ee3a80c3559f4ae732ec26660d5f763edb1217b", func := "witan/witanlaw05.CurveSums", spec := "curveSums", inPlace := ["math/bits.Add64"], apart := false, narrowed := true }
def CurveSumsUptoSaid : Prop := curveSumsUptoRow.holds Try.pinned (OpenSpec.upto curveSumsSpec)

/-- 'witanlaw05.CurveNumbers', WHERE WHAT IT READS IS OF BULK AT MOST 1048576: true; the input reads as it did. -/
def curveNumbersUptoRow : OpenClaim := { program := "ytkflljjcgihaoaa", sum := "67c7d4574c930fe8b2475f478ee3a80c3559f4ae732ec26660d5f763edb1217b", func := "witan/witanlaw05.CurveNumbers", spec := "curveNumbers", inPlace := ["math/bits.Add64", "math/bits.Sub64"], apart := false, narrowed := true }
def CurveNumbersUptoSaid : Prop := curveNumbersUptoRow.holds Try.pinned (OpenSpec.upto curveNumbersSpec)

end Rows
end Go.Proofs.Ytkflljjcgihaoaa
