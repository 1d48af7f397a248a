/-
  Slots: both tallies answer every script of votes: the walk, of every bound.
-/
import Derived.Test.YthffkgnbgncfaaaLwPlay0
import Derived.Test.YthffkgnbgncfaaaSp10
namespace Go.Proofs.Ythffkgnbgncfaaa
open Go.RowKit Go.Mem Go.Txt

theorem play_law (f : Int) (v : Value) (ops : List Ev) (w : World) (_ : (Lit.int .i64 f).wf = true) (hs : Rd w 5 v ops.length (evs ops)) (hn : ops.length ≤ 9223372036854775807) (_ : True) :
    Calls Try.prog 5 #[.int .i64 f, v] w fun e w' => e = .returned (.bool true) ∧ Kept [] w w' := by
  by_cases h : 0 ≤ f ∧ f ≤ 2
  · obtain ⟨k, rfl⟩ := Int.eq_ofNat_of_zero_le h.1
    exact play_walk k (by omega) v ops w hs hn
  · exact play_no f (by omega) v w
end Go.Proofs.Ythffkgnbgncfaaa
