/-
  A disk answers every script of calls (DiskPlays): the walk and what comes in, joined.
-/
import Derived.Test.YtfdioobkbdgbmaaDisk11
import Derived.Test.YtfdioobkbdgbmaaDisk12
namespace Go.Proofs.Ytfdioobkbdgbmaa
open Go.RowKit Go.Mem

theorem plays_law (size : Int) (sv : Value) (ops : List (Int × Int × Value × List UInt8)) (w : World) (hw : (Lit.int .i64 size).wf = true) (hs : Script w sv ops) (hB : ∀ o ∈ ops, o.2.2.2.length ≤ 1048576)
    (hn : ops.length ≤ 9223372036854775807) (hN : ∀ o ∈ ops, -9223372036854775808 ≤ o.2.1 ∧ o.2.1 ≤ 9223372036854775807) :
    Calls Try.prog 4 #[.int .i64 size, sv] w fun e w' => e = .returned (.bool true) ∧ Kept [] w w' :=
  plays_walk sv size ops w hs hn (wf_i64 hw).1 (wf_i64 hw).2 hB hN

end Go.Proofs.Ytfdioobkbdgbmaa
