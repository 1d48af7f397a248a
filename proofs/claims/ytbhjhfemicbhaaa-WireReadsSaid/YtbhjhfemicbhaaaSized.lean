/-
  What the reach gives.
-/
import Derived.SizedLaws
namespace Go.Mem

/-- A slice of bytes among what is read. -/
theorem sized_bytes {H : Type} {P : Program} {ts : List TypeId} {ds : List (DataW H)} (h : (DataW.weightsEach P ts ds).all (· ≤ reachBytes) = true) {j : Nat} {t e : TypeId} {d : DataW H} (ht : ts[j]? = some t) (hd : ds[j]? = some d)
    (hu : P.underlying t = some (.slice e)) (hb : P.bytesOf e = 1) {bs : List UInt8} (sh : bs = [] ∧ d = .nil ∨ ∃ el sp, d = .slice el sp ∧ el.length = bs.length) : bs.length ≤ 140737488351232 := by
  rcases sh with ⟨rfl, _⟩ | ⟨el, sp, rfl, he⟩
  · simp
  · have := sized_slice h ht hd hu
    rw [hb] at this
    simp only [reachBytes] at this
    omega

end Go.Mem
