/-
  No cell of these rows narrows 'for every input' (looked for: loops, veiled, ifaces, maps, wideKeys, modest, calm, conditions, laid).
  DERIVED. THE GIVEN ROWS OF THIS SEAT. 3 by the template 'for every input the law returns true; each argument reads behind the call as it read before'; 0 by the template 'total and deterministic' (their statements: YthffkgnbgncfaaaTotals.lean).
  GIVEN WITH THE SEED: the statements are not yours to turn. If you find one false, say at which input.
  Laid BY PROGRAM, IN A SANDBOX (cutbox-rows.mjs): the forced cells as the released guide's own fill.sh prints them over the translation 2277fdee1d1cbb35… (all of the seat's roots in one cut). By AI agents, Wed Nov 11 2026. No macro, syntax, notation, axiom, sorry.
-/
import Derived.Test.YthffkgnbgncfaaaChecked
import GoSem.Claim
import GoSem.ClaimJoined
import GoSem.ClaimMapViews
import Derived.JoinedTies
import Derived.KernelRfl
namespace Go.Proofs.Ythffkgnbgncfaaa
/- THE CELL 'sum', in the pinned program and in every row, IS THE sha256 OF THE DUMP (.gsa) THAT YthffkgnbgncfaaaProg.lean LOADS. Nothing in Lean hashes anything: it is a label: what it is worth is what the hold of that sum in a sandbox is worth. -/
noncomputable def Try.pinned : Pinned := { name := "ythffkgnbgncfaaa", sum := "2277fdee1d1cbb354520f16d6b55eb362fc195369ade55c832849420948bb703", checked := Try.checked }
namespace Rows
def none {H : Type} : Left H := { results := [], args := [] }

/-- 'witanlaw17.SlotsOne': WHATEVER THE INPUT: true; the input reads as it did. -/
def slotsOneSpec : ChangeSpec := { name := "slotsOne", fn := fun _ => fun
  | [d1, d2, d3] => { results := [.lit (.bool true)], args := [d1, d2, d3] }
  | _ => none }
def slotsOneRow : OpenClaim := { program := "ythffkgnbgncfaaa", sum := "2277fdee1d1cbb354520f16d6b55eb362fc195369ade55c832849420948bb703", func := "witan/witanlaw17.SlotsOne", spec := "slotsOne", inPlace := ["slices.overlaps[witan/slots.vote]", "internal/bytealg.Compare"], unfollowed := true, recurses := true, apart := false }
def SlotsOneSaid : Prop := slotsOneRow.holds Try.pinned (OpenSpec.ofChange slotsOneSpec)

/-- ITS FALSE NEIGHBOUR: 'it returns false'. Refute it at one input. -/
def slotsOneWrong : ChangeSpec := { name := "slotsOne", fn := fun _ => fun
  | [d1, d2, d3] => { results := [.lit (.bool false)], args := [d1, d2, d3] }
  | _ => none }
def SlotsOneWrongFalsely : Prop := slotsOneRow.holds Try.pinned (OpenSpec.ofChange slotsOneWrong)

/-- 'witanlaw17.SlotsOrder': WHATEVER THE INPUT: true; the input reads as it did. -/
def slotsOrderSpec : ChangeSpec := { name := "slotsOrder", fn := fun _ => fun
  | [d1, d2] => { results := [.lit (.bool true)], args := [d1, d2] }
  | _ => none }
def slotsOrderRow : OpenClaim := { program := "ythffkgnbgncfaaa", sum := "2277fdee1d1cbb354520f16d6b55eb362fc195369ade55c832849420948bb703", func := "witan/witanlaw17.SlotsOrder", spec := "slotsOrder", inPlace := ["slices.overlaps[witan/slots.vote]", "internal/bytealg.Compare"], unfollowed := true, recurses := true, apart := false }
def SlotsOrderSaid : Prop := slotsOrderRow.holds Try.pinned (OpenSpec.ofChange slotsOrderSpec)

/-- ITS FALSE NEIGHBOUR: 'it returns false'. Refute it at one input. -/
def slotsOrderWrong : ChangeSpec := { name := "slotsOrder", fn := fun _ => fun
  | [d1, d2] => { results := [.lit (.bool false)], args := [d1, d2] }
  | _ => none }
def SlotsOrderWrongFalsely : Prop := slotsOrderRow.holds Try.pinned (OpenSpec.ofChange slotsOrderWrong)

/-- 'witanlaw17.SlotsPlay': WHATEVER THE INPUT: true; the input reads as it did. -/
def slotsPlaySpec : ChangeSpec := { name := "slotsPlay", fn := fun _ => fun
  | [d1, d2] => { results := [.lit (.bool true)], args := [d1, d2] }
  | _ => none }
def slotsPlayRow : OpenClaim := { program := "ythffkgnbgncfaaa", sum := "2277fdee1d1cbb354520f16d6b55eb362fc195369ade55c832849420948bb703", func := "witan/witanlaw17.SlotsPlay", spec := "slotsPlay", inPlace := ["slices.overlaps[witan/slots.vote]", "internal/bytealg.Compare"], unfollowed := true, recurses := true, apart := false }
def SlotsPlaySaid : Prop := slotsPlayRow.holds Try.pinned (OpenSpec.ofChange slotsPlaySpec)

/-- ITS FALSE NEIGHBOUR: 'it returns false'. Refute it at one input. -/
def slotsPlayWrong : ChangeSpec := { name := "slotsPlay", fn := fun _ => fun
  | [d1, d2] => { results := [.lit (.bool false)], args := [d1, d2] }
  | _ => none }
def SlotsPlayWrongFalsely : Prop := slotsPlayRow.holds Try.pinned (OpenSpec.ofChange slotsPlayWrong)

/- THE SECOND FORM. 'bulk': how many values and letters a reading holds, each counted each time it is reached (what is shared counts as often as it is met; a slice's spare places count too). A statement '..UptoSaid' is the law's where the arguments, and the package variables that the reading takes, are together of bulk at most 1048576: NARROWER than '..Said'. Prove '..Said' where nothing that the law and all that it calls make is longer than what came in: it says more and counts as full. Else prove '..UptoSaid'. A law counts once. -/
mutual
def uptoBulk {H : Type} : DataW H → Nat
  | .lit (.string bytes) => bytes.length + 1
  | .lit _ => 1
  | .nil => 1
  | .ptr d => uptoBulk d + 1
  | .slice elems spare => uptoBulkAll elems + uptoBulkAll spare + 1
  | .agg parts => uptoBulkAll parts + 1
  | .iface _ d => uptoBulk d + 1
  | .map entries => uptoBulkEntries entries + 1
  | .held _ => 1
def uptoBulkAll {H : Type} : List (DataW H) → Nat
  | [] => 0
  | d :: r => uptoBulk d + uptoBulkAll r
def uptoBulkEntries {H : Type} : List (Lit × DataW H) → Nat
  | [] => 0
  | x :: r => uptoBulkEntry x + uptoBulkEntries r
def uptoBulkEntry {H : Type} : Lit × DataW H → Nat
  | (.string bytes, d) => bytes.length + uptoBulk d + 1
  | (_, d) => uptoBulk d + 1
 end
def uptoSmall : (H : Type) → List (DataW H) → Bool := fun _ ds => decide (uptoBulkAll ds ≤ 1048576)
def OpenSpec.upto (s : _root_.Go.ChangeSpec) : _root_.Go.OpenSpec := { _root_.Go.OpenSpec.ofChange s with cond := some uptoSmall }

/-- 'witanlaw17.SlotsOne', WHERE WHAT IT READS IS OF BULK AT MOST 1048576: true; the input reads as it did. -/
def slotsOneUptoRow : OpenClaim := { program := "ythffkgnbgncfaaa", sum := "2277fdee1d1cbb354520f16d6b55eb362fc195369ade55c832849420948bb703", func := "witan/witanlaw17.SlotsOne", spec := "slotsOne", inPlace := ["slices.overlaps[witan/slots.vote]", "internal/bytealg.Compare"], unfollowed := true, recurses := true, apart := false, narrowed := true }
def SlotsOneUptoSaid : Prop := slotsOneUptoRow.holds Try.pinned (OpenSpec.upto slotsOneSpec)

/-- 'witanlaw17.SlotsOrder', WHERE WHAT IT READS IS OF BULK AT MOST 1048576: true; the input reads as it did. -/
def slotsOrderUptoRow : OpenClaim := { program := "ythffkgnbgncfaaa", sum := "2277fdee1d1cbb354520f16d6b55eb362fc195369ade55c832849420948bb703", func := "witan/witanlaw17.SlotsOrder", spec := "slotsOrder", inPlace := ["slices.overlaps[witan/slots.vote]", "internal/bytealg.Compare"], unfollowed := true, recurses := true, apart := false, narrowed := true }
def SlotsOrderUptoSaid : Prop := slotsOrderUptoRow.holds Try.pinned (OpenSpec.upto slotsOrderSpec)

/-- 'witanlaw17.SlotsPlay', WHERE WHAT IT READS IS OF BULK AT MOST 1048576: true; the input reads as it did. -/
def slotsPlayUptoRow : OpenClaim := { program := "ythffkgnbgncfaaa", sum := "2277fdee1d1cbb354520f16d6b55eb362fc195369ade55c832849420948bb703", func := "witan/witanlaw17.SlotsPlay", spec := "slotsPlay", inPlace := ["slices.overlaps[witan/slots.vote]", "internal/bytealg.Compare"], unfollowed := true, recurses := true, apart := false, narrowed := true }
def SlotsPlayUptoSaid : Prop := slotsPlayUptoRow.holds Try.pinned (OpenSpec.upto slotsPlaySpec)

end Rows
end Go.Proofs.Ythffkgnbgncfaaa
