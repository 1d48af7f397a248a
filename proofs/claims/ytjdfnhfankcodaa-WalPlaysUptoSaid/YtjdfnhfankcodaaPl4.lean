/-
  The log: logs answer every script (WalPlays): the walk and what comes in, joined.
-/
import Derived.Test.YtjdfnhfankcodaaPl3
namespace Go.Proofs.Ytjdfnhfankcodaa
open Go.RowKit Go.Mem

theorem plays_law (size : Int) (sv : Value) (ops : List POp) (w : World) (_ : (Lit.int .i64 size).wf = true) (hs : Scr w sv ops) (hB : ∀ o ∈ ops, o.2.2.1.2.length ≤ 1048576 ∧ o.2.2.2.2.length ≤ 1048576)
    (hn : ops.length ≤ 9223372036854775807) (_ : True) :
    Calls Try.prog 6 #[.int .i64 size, sv] w fun e w' => e = .returned (.bool true) ∧ Kept [] w w' :=
  plays_walk size sv ops w hs hB hn
end Go.Proofs.Ytjdfnhfankcodaa
