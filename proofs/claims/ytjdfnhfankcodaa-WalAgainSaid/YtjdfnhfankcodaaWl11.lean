/-
  The log: opened again (WalAgain): words for the walk.
-/
import Derived.Test.YtjdfnhfankcodaaWl10
namespace Go.Proofs.Ytjdfnhfankcodaa
open Go.RowKit Go.Mem Go.Txt

theorem dcrash_any {w0 w : World} {b size : Nat} {dv : Value} {xs : List UInt8} (h : Dw w0 w b size xs.length dv xs) (k : Int) (hx : xs.length ≤ 9223372036854775807) :
    Calls Try.prog 20 #[.pointer (some ⟨b, 0, none⟩), .int .i64 k] w fun e w' => e = .returned (.tuple #[]) ∧ ∃ dv', Dw w0 w' b size xs.length dv' xs ∧ Kept [b] w w' := by
  refine (Dk.crash_any _ _ _ k _ _ _ h.disk (Nat.le_refl _) hx).mono ?_
  rintro e w' ⟨rfl, v', h1, h2, h3⟩
  have e : Dk.left xs.length xs.length k = xs.length := by unfold Dk.left; omega
  rw [e, List.take_length] at h1
  exact ⟨rfl, v', ⟨h1, h.lb, by rw [h3]; exact h.ld, Kept.fresh h.k h2 (by simpa using h.lb)⟩, h2⟩
/-- What came in lies apart from what was made since. -/
theorem Parts.far {w u : World} {S : List Nat} {v : Value} {ps : List (Value × List UInt8)} (h : Parts w v ps) (hk : Kept [] w u) (hS : ∀ k ∈ S, w.heap.size ≤ k) : Dk.Parts u S v ps := by
  refine ⟨h.outer.kept0 hk, fun hn k hk1 hm => ?_, fun x hx => ⟨(h.inner x hx).kept0 hk, fun hn k hk1 hm => ?_⟩⟩
  · obtain ⟨b', hb, hlt⟩ := h.outer.lt (by decide) hn
    rw [hk1] at hb; cases hb
    have := hS _ hm
    omega
  · obtain ⟨b', hb, hlt⟩ := (h.inner x hx).lt (by decide) hn
    rw [hk1] at hb; cases hb
    have := hS _ hm
    omega
end Go.Proofs.Ytjdfnhfankcodaa
