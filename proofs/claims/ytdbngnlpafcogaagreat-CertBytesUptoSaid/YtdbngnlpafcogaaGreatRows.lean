/-
  No cell of these rows narrows 'for every input' (looked for: loops, veiled, ifaces, maps, wideKeys, modest, calm, conditions, laid).
  DERIVED. THE GIVEN ROWS OF THIS SEAT. 4 by the template 'for every input the law returns true; each argument reads behind the call as it read before'; 0 by the template 'total and deterministic' (their statements: YtdbngnlpafcogaaGreatTotals.lean).
  GIVEN WITH THE SEED: the statements are not yours to turn. If you find one false, say at which input.
  Laid BY PROGRAM, IN A SANDBOX (cutbox-rows.mjs): the forced cells as the released guide's own fill.sh prints them over the translation abbdbb699496bd49… (all of the seat's roots in one cut). By AI agents, Wed Nov 11 2026. No macro, syntax, notation, axiom, sorry.
-/
import Derived.Test.YtdbngnlpafcogaaGreatChecked
import GoSem.Claim
import GoSem.ClaimJoined
import GoSem.ClaimMapViews
import Derived.JoinedTies
import Derived.KernelRfl
namespace Go.Proofs.YtdbngnlpafcogaaGreat
/- THE CELL 'sum', in the pinned program and in every row, IS THE sha256 OF THE DUMP (.gsa) THAT YtdbngnlpafcogaaGreatProg.lean LOADS. Nothing in Lean hashes anything: it is a label: what it is worth is what the hold of that sum in a sandbox is worth. -/
noncomputable def Tryz.pinned : Pinned := { name := "ytdbngnlpafcogaagreat", sum := "abbdbb699496bd49ccb782f1a72da62914f8889b3006200206055bf85a163093", checked := Tryz.checked }
namespace Rows
def none {H : Type} : Left H := { results := [], args := [] }

/-- 'witanlaw06.SignMakes': WHATEVER THE INPUT: true; the input reads as it did. -/
def signMakesSpec : ChangeSpec := { name := "signMakes", fn := fun _ => fun
  | [d1, d2, d3] => { results := [.lit (.bool true)], args := [d1, d2, d3] }
  | _ => none }
def signMakesRow : OpenClaim := { program := "ytdbngnlpafcogaagreat", sum := "abbdbb699496bd49ccb782f1a72da62914f8889b3006200206055bf85a163093", func := "witan/witanlaw06.SignMakes", spec := "signMakes", inPlace := ["math/bits.Add64", "math/bits.Sub64"], apart := false }
def SignMakesSaid : Prop := signMakesRow.holds Tryz.pinned (OpenSpec.ofChange signMakesSpec)

/-- ITS FALSE NEIGHBOUR: 'it returns false'. Refute it at one input. -/
def signMakesWrong : ChangeSpec := { name := "signMakes", fn := fun _ => fun
  | [d1, d2, d3] => { results := [.lit (.bool false)], args := [d1, d2, d3] }
  | _ => none }
def SignMakesWrongFalsely : Prop := signMakesRow.holds Tryz.pinned (OpenSpec.ofChange signMakesWrong)

/-- 'witanlaw06.SignReads': WHATEVER THE INPUT: true; the input reads as it did. -/
def signReadsSpec : ChangeSpec := { name := "signReads", fn := fun _ => fun
  | [d1, d2, d3] => { results := [.lit (.bool true)], args := [d1, d2, d3] }
  | _ => none }
def signReadsRow : OpenClaim := { program := "ytdbngnlpafcogaagreat", sum := "abbdbb699496bd49ccb782f1a72da62914f8889b3006200206055bf85a163093", func := "witan/witanlaw06.SignReads", spec := "signReads", inPlace := ["math/bits.Add64", "math/bits.Sub64"], apart := false }
def SignReadsSaid : Prop := signReadsRow.holds Tryz.pinned (OpenSpec.ofChange signReadsSpec)

/-- ITS FALSE NEIGHBOUR: 'it returns false'. Refute it at one input. -/
def signReadsWrong : ChangeSpec := { name := "signReads", fn := fun _ => fun
  | [d1, d2, d3] => { results := [.lit (.bool false)], args := [d1, d2, d3] }
  | _ => none }
def SignReadsWrongFalsely : Prop := signReadsRow.holds Tryz.pinned (OpenSpec.ofChange signReadsWrong)

/-- 'witanlaw11.HistBytes': WHATEVER THE INPUT: true; the input reads as it did. -/
def histBytesSpec : ChangeSpec := { name := "histBytes", fn := fun _ => fun
  | [d1, d2] => { results := [.lit (.bool true)], args := [d1, d2] }
  | _ => none }
def histBytesRow : OpenClaim := { program := "ytdbngnlpafcogaagreat", sum := "abbdbb699496bd49ccb782f1a72da62914f8889b3006200206055bf85a163093", func := "witan/witanlaw11.HistBytes", spec := "histBytes", inPlace := ["math/bits.Add64", "math/bits.Sub64"], apart := false }
def HistBytesSaid : Prop := histBytesRow.holds Tryz.pinned (OpenSpec.ofChange histBytesSpec)

/-- ITS FALSE NEIGHBOUR: 'it returns false'. Refute it at one input. -/
def histBytesWrong : ChangeSpec := { name := "histBytes", fn := fun _ => fun
  | [d1, d2] => { results := [.lit (.bool false)], args := [d1, d2] }
  | _ => none }
def HistBytesWrongFalsely : Prop := histBytesRow.holds Tryz.pinned (OpenSpec.ofChange histBytesWrong)

/-- 'witanlaw08.CertBytes': WHATEVER THE INPUT: true; the input reads as it did. -/
def certBytesSpec : ChangeSpec := { name := "certBytes", fn := fun _ => fun
  | [d1, d2] => { results := [.lit (.bool true)], args := [d1, d2] }
  | _ => none }
def certBytesRow : OpenClaim := { program := "ytdbngnlpafcogaagreat", sum := "abbdbb699496bd49ccb782f1a72da62914f8889b3006200206055bf85a163093", func := "witan/witanlaw08.CertBytes", spec := "certBytes", inPlace := ["math/bits.Add64", "math/bits.Sub64"], apart := false }
def CertBytesSaid : Prop := certBytesRow.holds Tryz.pinned (OpenSpec.ofChange certBytesSpec)

/-- ITS FALSE NEIGHBOUR: 'it returns false'. Refute it at one input. -/
def certBytesWrong : ChangeSpec := { name := "certBytes", fn := fun _ => fun
  | [d1, d2] => { results := [.lit (.bool false)], args := [d1, d2] }
  | _ => none }
def CertBytesWrongFalsely : Prop := certBytesRow.holds Tryz.pinned (OpenSpec.ofChange certBytesWrong)

/- THE SECOND FORM. 'bulk': how many values and letters a reading holds, each counted each time it is reached (what is shared counts as often as it is met; a slice's spare places count too). A statement '..UptoSaid' is the law's where the arguments, and the package variables that the reading takes, are together of bulk at most 1048576: NARROWER than '..Said'. Prove '..Said' where nothing that the law and all that it calls make is longer than what came in: it says more and counts as full. Else prove '..UptoSaid'. A law counts once. -/
mutual
def uptoBulk {H : Type} : DataW H → Nat
  | .lit (.string bytes) => bytes.length + 1
  | .lit _ => 1
  | .nil => 1
  | .ptr d => uptoBulk d + 1
  | .slice elems spare => uptoBulkAll elems + uptoBulkAll spare + 1
  | .agg parts => uptoBulkAll parts + 1
  | .iface _ d => uptoBulk d + 1
  | .map entries => uptoBulkEntries entries + 1
  | .held _ => 1
def uptoBulkAll {H : Type} : List (DataW H) → Nat
  | [] => 0
  | d :: r => uptoBulk d + uptoBulkAll r
def uptoBulkEntries {H : Type} : List (Lit × DataW H) → Nat
  | [] => 0
  | x :: r => uptoBulkEntry x + uptoBulkEntries r
def uptoBulkEntry {H : Type} : Lit × DataW H → Nat
  | (.string bytes, d) => bytes.length + uptoBulk d + 1
  | (_, d) => uptoBulk d + 1
 end
def uptoSmall : (H : Type) → List (DataW H) → Bool := fun _ ds => decide (uptoBulkAll ds ≤ 1048576)
def OpenSpec.upto (s : _root_.Go.ChangeSpec) : _root_.Go.OpenSpec := { _root_.Go.OpenSpec.ofChange s with cond := some uptoSmall }

/-- 'witanlaw06.SignMakes', WHERE WHAT IT READS IS OF BULK AT MOST 1048576: true; the input reads as it did. -/
def signMakesUptoRow : OpenClaim := { program := "ytdbngnlpafcogaagreat", sum := "abbdbb699496bd49ccb782f1a72da62914f8889b3006200206055bf85a163093", func := "witan/witanlaw06.SignMakes", spec := "signMakes", inPlace := ["math/bits.Add64", "math/bits.Sub64"], apart := false, narrowed := true }
def SignMakesUptoSaid : Prop := signMakesUptoRow.holds Tryz.pinned (OpenSpec.upto signMakesSpec)

/-- 'witanlaw06.SignReads', WHERE WHAT IT READS IS OF BULK AT MOST 1048576: true; the input reads as it did. -/
def signReadsUptoRow : OpenClaim := { program := "ytdbngnlpafcogaagreat", sum := "abbdbb699496bd49ccb782f1a72da62914f8889b3006200206055bf85a163093", func := "witan/witanlaw06.SignReads", spec := "signReads", inPlace := ["math/bits.Add64", "math/bits.Sub64"], apart := false, narrowed := true }
def SignReadsUptoSaid : Prop := signReadsUptoRow.holds Tryz.pinned (OpenSpec.upto signReadsSpec)

/-- 'witanlaw11.HistBytes', WHERE WHAT IT READS IS OF BULK AT MOST 1048576: true; the input reads as it did. -/
def histBytesUptoRow : OpenClaim := { program := "ytdbngnlpafcogaagreat", sum := "abbdbb699496bd49ccb782f1a72da62914f8889b3006200206055bf85a163093", func := "witan/witanlaw11.HistBytes", spec := "histBytes", inPlace := ["math/bits.Add64", "math/bits.Sub64"], apart := false, narrowed := true }
def HistBytesUptoSaid : Prop := histBytesUptoRow.holds Tryz.pinned (OpenSpec.upto histBytesSpec)

/-- 'witanlaw08.CertBytes', WHERE WHAT IT READS IS OF BULK AT MOST 1048576: true; the input reads as it did. -/
def certBytesUptoRow : OpenClaim := { program := "ytdbngnlpafcogaagreat", sum := "abbdbb699496bd49ccb782f1a72da62914f8889b3006200206055bf85a163093", func := "witan/witanlaw08.CertBytes", spec := "certBytes", inPlace := ["math/bits.Add64", "math/bits.Sub64"], apart := false, narrowed := true }
def CertBytesUptoSaid : Prop := certBytesUptoRow.holds Tryz.pinned (OpenSpec.upto certBytesSpec)

end Rows
end Go.Proofs.YtdbngnlpafcogaaGreat
