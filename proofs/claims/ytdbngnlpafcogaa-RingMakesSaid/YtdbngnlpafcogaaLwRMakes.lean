/-
  The ring's laws: which rings there are, and what they tell of their replicas (RingMakes): the walk.
-/
import Derived.Test.YtdbngnlpafcogaaRg14
namespace Go.Proofs.Ytdbngnlpafcogaa
open Go.RowKit Go.Mem Go.Txt

theorem makes_walk (v : Value) (keys : List (List UInt8)) (i : Int) (w : World) (rd : Rd w 32 v keys.length (keys.flatMap bv)) (bz : keys.length ≤ 4398046510976) (_ : keys.length ≤ 9223372036854775807) (hl : ∀ k ∈ keys, k.length = 32) (_ : (Lit.int .i64 i).wf = true) :
    Calls Try.prog 4 #[v, .int .i64 i] w fun e w' => e = .returned (.bool true) ∧ Kept [] w w' := by
  by_cases hb : keys.length % 3 = 1 ∧ keys.length ≤ 7
  · by_cases hn : keys.Nodup
    · refine makes_yes i rd (by omega) hb.2 hl hb.1 (fun u x hx => (rnew_any x keys u hx hl (by omega) hb.1 hb.2).mono ?_) (fun u hu => (rfits_any v keys u hu hl hb).mono ?_)
      · rintro e w' (⟨h, _⟩ | ⟨_, h⟩)
        · exact absurd hn h
        · exact h
      · rintro e w' ⟨rfl, hk⟩
        exact ⟨by rw [decide_eq_true hn], hk⟩
    · refine makes_no i rd bz (fun u x hx => (rnew_any x keys u hx hl (by omega) hb.1 hb.2).mono ?_) (fun u hu => (rfits_any v keys u hu hl hb).mono ?_)
      · rintro e w' (⟨_, h⟩ | ⟨h, _⟩)
        · exact h
        · exact absurd h hn
      · rintro e w' ⟨rfl, hk⟩
        exact ⟨by rw [decide_eq_false hn], hk⟩
  · exact makes_no i rd bz (fun u x hx => rnew_bad x keys u hx hb) (fun u hu => rfits_bad v keys u hu hb)
end Go.Proofs.Ytdbngnlpafcogaa
