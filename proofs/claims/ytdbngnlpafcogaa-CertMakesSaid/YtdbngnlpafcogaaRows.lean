/-
  No cell of these rows narrows 'for every input' (looked for: loops, veiled, ifaces, maps, wideKeys, modest, calm, conditions, laid).
  DERIVED. THE GIVEN ROWS OF THIS SEAT. 7 by the template 'for every input the law returns true; each argument reads behind the call as it read before'; 0 by the template 'total and deterministic' (their statements: YtdbngnlpafcogaaTotals.lean).
  GIVEN WITH THE SEED: the statements are not yours to turn. If you find one false, say at which input.
  Laid BY PROGRAM, IN A SANDBOX (cutbox-rows.mjs): the forced cells as the released guide's own fill.sh prints them over the translation f9309e1007d84775… (all of the seat's roots in one cut). By AI agents, Wed Nov 11 2026. No macro, syntax, notation, axiom, sorry.
-/
import Derived.Test.YtdbngnlpafcogaaChecked
import GoSem.Claim
import GoSem.ClaimJoined
import GoSem.ClaimMapViews
import Derived.JoinedTies
import Derived.KernelRfl
namespace Go.Proofs.Ytdbngnlpafcogaa
/- THE CELL 'sum', in the pinned program and in every row, IS THE sha256 OF THE DUMP (.gsa) THAT YtdbngnlpafcogaaProg.lean LOADS. Nothing in Lean hashes anything: it is a label: what it is worth is what the hold of that sum in a sandbox is worth. -/
noncomputable def Try.pinned : Pinned := { name := "ytdbngnlpafcogaa", sum := "f9309e1007d847756c2de2c43c54e26f94d1f447b3e555b0fb1336e628046536", checked := Try.checked }
namespace Rows
def none {H : Type} : Left H := { results := [], args := [] }

/-- 'witanlaw07.RingOthers': WHATEVER THE INPUT: true; the input reads as it did. -/
def ringOthersSpec : ChangeSpec := { name := "ringOthers", fn := fun _ => fun
  | [d1, d2, d3] => { results := [.lit (.bool true)], args := [d1, d2, d3] }
  | _ => none }
def ringOthersRow : OpenClaim := { program := "ytdbngnlpafcogaa", sum := "f9309e1007d847756c2de2c43c54e26f94d1f447b3e555b0fb1336e628046536", func := "witan/witanlaw07.RingOthers", spec := "ringOthers", inPlace := ["math/bits.Add64", "math/bits.Sub64"], apart := false }
def RingOthersSaid : Prop := ringOthersRow.holds Try.pinned (OpenSpec.ofChange ringOthersSpec)

/-- ITS FALSE NEIGHBOUR: 'it returns false'. Refute it at one input. -/
def ringOthersWrong : ChangeSpec := { name := "ringOthers", fn := fun _ => fun
  | [d1, d2, d3] => { results := [.lit (.bool false)], args := [d1, d2, d3] }
  | _ => none }
def RingOthersWrongFalsely : Prop := ringOthersRow.holds Try.pinned (OpenSpec.ofChange ringOthersWrong)

/-- 'witanlaw07.RingMakes': WHATEVER THE INPUT: true; the input reads as it did. -/
def ringMakesSpec : ChangeSpec := { name := "ringMakes", fn := fun _ => fun
  | [d1, d2] => { results := [.lit (.bool true)], args := [d1, d2] }
  | _ => none }
def ringMakesRow : OpenClaim := { program := "ytdbngnlpafcogaa", sum := "f9309e1007d847756c2de2c43c54e26f94d1f447b3e555b0fb1336e628046536", func := "witan/witanlaw07.RingMakes", spec := "ringMakes", inPlace := ["math/bits.Add64", "math/bits.Sub64"], apart := false }
def RingMakesSaid : Prop := ringMakesRow.holds Try.pinned (OpenSpec.ofChange ringMakesSpec)

/-- ITS FALSE NEIGHBOUR: 'it returns false'. Refute it at one input. -/
def ringMakesWrong : ChangeSpec := { name := "ringMakes", fn := fun _ => fun
  | [d1, d2] => { results := [.lit (.bool false)], args := [d1, d2] }
  | _ => none }
def RingMakesWrongFalsely : Prop := ringMakesRow.holds Try.pinned (OpenSpec.ofChange ringMakesWrong)

/-- 'witanlaw11.HistNext': WHATEVER THE INPUT: true; the input reads as it did. -/
def histNextSpec : ChangeSpec := { name := "histNext", fn := fun _ => fun
  | [d1, d2, d3] => { results := [.lit (.bool true)], args := [d1, d2, d3] }
  | _ => none }
def histNextRow : OpenClaim := { program := "ytdbngnlpafcogaa", sum := "f9309e1007d847756c2de2c43c54e26f94d1f447b3e555b0fb1336e628046536", func := "witan/witanlaw11.HistNext", spec := "histNext", inPlace := ["math/bits.Add64", "math/bits.Sub64"], apart := false }
def HistNextSaid : Prop := histNextRow.holds Try.pinned (OpenSpec.ofChange histNextSpec)

/-- ITS FALSE NEIGHBOUR: 'it returns false'. Refute it at one input. -/
def histNextWrong : ChangeSpec := { name := "histNext", fn := fun _ => fun
  | [d1, d2, d3] => { results := [.lit (.bool false)], args := [d1, d2, d3] }
  | _ => none }
def HistNextWrongFalsely : Prop := histNextRow.holds Try.pinned (OpenSpec.ofChange histNextWrong)

/-- 'witanlaw11.HistChains': WHATEVER THE INPUT: true; the input reads as it did. -/
def histChainsSpec : ChangeSpec := { name := "histChains", fn := fun _ => fun
  | [d1, d2, d3] => { results := [.lit (.bool true)], args := [d1, d2, d3] }
  | _ => none }
def histChainsRow : OpenClaim := { program := "ytdbngnlpafcogaa", sum := "f9309e1007d847756c2de2c43c54e26f94d1f447b3e555b0fb1336e628046536", func := "witan/witanlaw11.HistChains", spec := "histChains", inPlace := ["math/bits.Add64", "math/bits.Sub64"], apart := false }
def HistChainsSaid : Prop := histChainsRow.holds Try.pinned (OpenSpec.ofChange histChainsSpec)

/-- ITS FALSE NEIGHBOUR: 'it returns false'. Refute it at one input. -/
def histChainsWrong : ChangeSpec := { name := "histChains", fn := fun _ => fun
  | [d1, d2, d3] => { results := [.lit (.bool false)], args := [d1, d2, d3] }
  | _ => none }
def HistChainsWrongFalsely : Prop := histChainsRow.holds Try.pinned (OpenSpec.ofChange histChainsWrong)

/-- 'witanlaw08.CertQuorums': WHATEVER THE INPUT: true; the input reads as it did. -/
def certQuorumsSpec : ChangeSpec := { name := "certQuorums", fn := fun _ => fun
  | [d1, d2, d3] => { results := [.lit (.bool true)], args := [d1, d2, d3] }
  | _ => none }
def certQuorumsRow : OpenClaim := { program := "ytdbngnlpafcogaa", sum := "f9309e1007d847756c2de2c43c54e26f94d1f447b3e555b0fb1336e628046536", func := "witan/witanlaw08.CertQuorums", spec := "certQuorums", inPlace := ["math/bits.Add64", "math/bits.Sub64"], apart := false }
def CertQuorumsSaid : Prop := certQuorumsRow.holds Try.pinned (OpenSpec.ofChange certQuorumsSpec)

/-- ITS FALSE NEIGHBOUR: 'it returns false'. Refute it at one input. -/
def certQuorumsWrong : ChangeSpec := { name := "certQuorums", fn := fun _ => fun
  | [d1, d2, d3] => { results := [.lit (.bool false)], args := [d1, d2, d3] }
  | _ => none }
def CertQuorumsWrongFalsely : Prop := certQuorumsRow.holds Try.pinned (OpenSpec.ofChange certQuorumsWrong)

/-- 'witanlaw08.CertMakes': WHATEVER THE INPUT: true; the input reads as it did. -/
def certMakesSpec : ChangeSpec := { name := "certMakes", fn := fun _ => fun
  | [d1, d2, d3] => { results := [.lit (.bool true)], args := [d1, d2, d3] }
  | _ => none }
def certMakesRow : OpenClaim := { program := "ytdbngnlpafcogaa", sum := "f9309e1007d847756c2de2c43c54e26f94d1f447b3e555b0fb1336e628046536", func := "witan/witanlaw08.CertMakes", spec := "certMakes", inPlace := ["math/bits.Add64", "math/bits.Sub64"], apart := false }
def CertMakesSaid : Prop := certMakesRow.holds Try.pinned (OpenSpec.ofChange certMakesSpec)

/-- ITS FALSE NEIGHBOUR: 'it returns false'. Refute it at one input. -/
def certMakesWrong : ChangeSpec := { name := "certMakes", fn := fun _ => fun
  | [d1, d2, d3] => { results := [.lit (.bool false)], args := [d1, d2, d3] }
  | _ => none }
def CertMakesWrongFalsely : Prop := certMakesRow.holds Try.pinned (OpenSpec.ofChange certMakesWrong)

/-- 'witanlaw08.CertChecks': WHATEVER THE INPUT: true; the input reads as it did. -/
def certChecksSpec : ChangeSpec := { name := "certChecks", fn := fun _ => fun
  | [d1, d2, d3] => { results := [.lit (.bool true)], args := [d1, d2, d3] }
  | _ => none }
def certChecksRow : OpenClaim := { program := "ytdbngnlpafcogaa", sum := "f9309e1007d847756c2de2c43c54e26f94d1f447b3e555b0fb1336e628046536", func := "witan/witanlaw08.CertChecks", spec := "certChecks", inPlace := ["math/bits.Add64", "math/bits.Sub64"], apart := false }
def CertChecksSaid : Prop := certChecksRow.holds Try.pinned (OpenSpec.ofChange certChecksSpec)

/-- ITS FALSE NEIGHBOUR: 'it returns false'. Refute it at one input. -/
def certChecksWrong : ChangeSpec := { name := "certChecks", fn := fun _ => fun
  | [d1, d2, d3] => { results := [.lit (.bool false)], args := [d1, d2, d3] }
  | _ => none }
def CertChecksWrongFalsely : Prop := certChecksRow.holds Try.pinned (OpenSpec.ofChange certChecksWrong)

/- THE SECOND FORM. 'bulk': how many values and letters a reading holds, each counted each time it is reached (what is shared counts as often as it is met; a slice's spare places count too). A statement '..UptoSaid' is the law's where the arguments, and the package variables that the reading takes, are together of bulk at most 1048576: NARROWER than '..Said'. Prove '..Said' where nothing that the law and all that it calls make is longer than what came in: it says more and counts as full. Else prove '..UptoSaid'. A law counts once. -/
mutual
def uptoBulk {H : Type} : DataW H → Nat
  | .lit (.string bytes) => bytes.length + 1
  | .lit _ => 1
  | .nil => 1
  | .ptr d => uptoBulk d + 1
  | .slice elems spare => uptoBulkAll elems + uptoBulkAll spare + 1
  | .agg parts => uptoBulkAll parts + 1
  | .iface _ d => uptoBulk d + 1
  | .map entries => uptoBulkEntries entries + 1
  | .held _ => 1
def uptoBulkAll {H : Type} : List (DataW H) → Nat
  | [] => 0
  | d :: r => uptoBulk d + uptoBulkAll r
def uptoBulkEntries {H : Type} : List (Lit × DataW H) → Nat
  | [] => 0
  | x :: r => uptoBulkEntry x + uptoBulkEntries r
def uptoBulkEntry {H : Type} : Lit × DataW H → Nat
  | (.string bytes, d) => bytes.length + uptoBulk d + 1
  | (_, d) => uptoBulk d + 1
 end
def uptoSmall : (H : Type) → List (DataW H) → Bool := fun _ ds => decide (uptoBulkAll ds ≤ 1048576)
def OpenSpec.upto (s : _root_.Go.ChangeSpec) : _root_.Go.OpenSpec := { _root_.Go.OpenSpec.ofChange s with cond := some uptoSmall }

/-- 'witanlaw07.RingOthers', WHERE WHAT IT READS IS OF BULK AT MOST 1048576: true; the input reads as it did. -/
def ringOthersUptoRow : OpenClaim := { program := "ytdbngnlpafcogaa", sum := "f9309e1007d847756c2de2c43c54e26f94d1f447b3e555b0fb1336e628046536", func := "witan/witanlaw07.RingOthers", spec := "ringOthers", inPlace := ["math/bits.Add64", "math/bits.Sub64"], apart := false, narrowed := true }
def RingOthersUptoSaid : Prop := ringOthersUptoRow.holds Try.pinned (OpenSpec.upto ringOthersSpec)

/-- 'witanlaw07.RingMakes', WHERE WHAT IT READS IS OF BULK AT MOST 1048576: true; the input reads as it did. -/
def ringMakesUptoRow : OpenClaim := { program := "ytdbngnlpafcogaa", sum := "f9309e1007d847756c2de2c43c54e26f94d1f447b3e555b0fb1336e628046536", func := "witan/witanlaw07.RingMakes", spec := "ringMakes", inPlace := ["math/bits.Add64", "math/bits.Sub64"], apart := false, narrowed := true }
def RingMakesUptoSaid : Prop := ringMakesUptoRow.holds Try.pinned (OpenSpec.upto ringMakesSpec)

/-- 'witanlaw11.HistNext', WHERE WHAT IT READS IS OF BULK AT MOST 1048576: true; the input reads as it did. -/
def histNextUptoRow : OpenClaim := { program := "ytdbngnlpafcogaa", sum := "f9309e1007d847756c2de2c43c54e26f94d1f447b3e555b0fb1336e628046536", func := "witan/witanlaw11.HistNext", spec := "histNext", inPlace := ["math/bits.Add64", "math/bits.Sub64"], apart := false, narrowed := true }
def HistNextUptoSaid : Prop := histNextUptoRow.holds Try.pinned (OpenSpec.upto histNextSpec)

/-- 'witanlaw11.HistChains', WHERE WHAT IT READS IS OF BULK AT MOST 1048576: true; the input reads as it did. -/
def histChainsUptoRow : OpenClaim := { program := "ytdbngnlpafcogaa", sum := "f9309e1007d847756c2de2c43c54e26f94d1f447b3e555b0fb1336e628046536", func := "witan/witanlaw11.HistChains", spec := "histChains", inPlace := ["math/bits.Add64", "math/bits.Sub64"], apart := false, narrowed := true }
def HistChainsUptoSaid : Prop := histChainsUptoRow.holds Try.pinned (OpenSpec.upto histChainsSpec)

/-- 'witanlaw08.CertQuorums', WHERE WHAT IT READS IS OF BULK AT MOST 1048576: true; the input reads as it did. -/
def certQuorumsUptoRow : OpenClaim := { program := "ytdbngnlpafcogaa", sum := "f9309e1007d847756c2de2c43c54e26f94d1f447b3e555b0fb1336e628046536", func := "witan/witanlaw08.CertQuorums", spec := "certQuorums", inPlace := ["math/bits.Add64", "math/bits.Sub64"], apart := false, narrowed := true }
def CertQuorumsUptoSaid : Prop := certQuorumsUptoRow.holds Try.pinned (OpenSpec.upto certQuorumsSpec)

/-- 'witanlaw08.CertMakes', WHERE WHAT IT READS IS OF BULK AT MOST 1048576: true; the input reads as it did. -/
def certMakesUptoRow : OpenClaim := { program := "ytdbngnlpafcogaa", sum := "f9309e1007d847756c2de2c43c54e26f94d1f447b3e555b0fb1336e628046536", func := "witan/witanlaw08.CertMakes", spec := "certMakes", inPlace := ["math/bits.Add64", "math/bits.Sub64"], apart := false, narrowed := true }
def CertMakesUptoSaid : Prop := certMakesUptoRow.holds Try.pinned (OpenSpec.upto certMakesSpec)

/-- 'witanlaw08.CertChecks', WHERE WHAT IT READS IS OF BULK AT MOST 1048576: true; the input reads as it did. -/
def certChecksUptoRow : OpenClaim := { program := "ytdbngnlpafcogaa", sum := "f9309e1007d847756c2de2c43c54e26f94d1f447b3e555b0fb1336e628046536", func := "witan/witanlaw08.CertChecks", spec := "certChecks", inPlace := ["math/bits.Add64", "math/bits.Sub64"], apart := false, narrowed := true }
def CertChecksUptoSaid : Prop := certChecksUptoRow.holds Try.pinned (OpenSpec.upto certChecksSpec)

end Rows
end Go.Proofs.Ytdbngnlpafcogaa
