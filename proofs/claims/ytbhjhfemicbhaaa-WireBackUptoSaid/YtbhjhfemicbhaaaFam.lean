/-
  Words for memory: an array of n cells, told by a function; a loop that changes cell after cell.
-/
import Derived.Test.YtbhjhfemicbhaaaArr
namespace Go.Mem
open Go.RowKit

variable {α : Type}
def fam (n : Nat) (f : Nat → α) : List α := (List.range n).map f
theorem fam_len (n : Nat) (f : Nat → α) : (fam n f).length = n := by simp [fam]
theorem fam_get (n : Nat) (f : Nat → α) (i : Nat) (h : i < n) : (fam n f)[i]'(by rw [fam_len]; exact h) = f i := by simp [fam]
theorem fam_ext (n : Nat) {f g : Nat → α} (h : ∀ i, i < n → f i = g i) : fam n f = fam n g := by
  unfold fam
  apply List.map_congr_left
  intro i hi
  exact h i (by simpa using hi)
/-- The first k are new. -/
def mix (f g : Nat → α) (k : Nat) (i : Nat) : α := if i < k then g i else f i
theorem mix_at (f g : Nat → α) (k : Nat) : mix f g k k = f k := by simp [mix]
theorem mix_old (f g : Nat → α) {k i : Nat} (h : k ≤ i) : mix f g k i = f i := if_neg (by omega)
theorem mix_new (f g : Nat → α) {k i : Nat} (h : i < k) : mix f g k i = g i := if_pos h
theorem mix_zero (n : Nat) (f g : Nat → α) : fam n (mix f g 0) = fam n f := fam_ext n fun _ _ => mix_old f g (Nat.zero_le _)
theorem mix_full (n : Nat) (f g : Nat → α) : fam n (mix f g n) = fam n g := fam_ext n fun _ h => mix_new f g h
theorem fam_set (n : Nat) (f : Nat → α) (k : Nat) (v : α) : (fam n f).set k v = fam n (fun i => if i = k then v else f i) := by
  apply List.ext_getElem
  · simp [fam]
  · intro i h1 h2
    have hi : i < n := by simpa [fam] using h2
    rw [List.getElem_set, fam_get n f i hi, fam_get n (fun j => if j = k then v else f j) i hi]
    by_cases h : k = i
    · rw [if_pos h, if_pos h.symm]
    · rw [if_neg h, if_neg (fun e => h e.symm)]
theorem mix_set (n : Nat) (f g : Nat → α) (k : Nat) : (fam n (mix f g k)).set k (g k) = fam n (mix f g (k + 1)) := by
  rw [fam_set]
  apply fam_ext
  intro i _
  unfold mix
  by_cases e : i = k
  · rw [if_pos e, if_pos (by omega), e]
  · rw [if_neg e]
    by_cases h : i < k
    · rw [if_pos h, if_pos (by omega)]
    · rw [if_neg h, if_neg (by omega)]

variable {w : World} {g : Nat} {bt : TypeId} {n : Nat} {v : α → Value}
theorem Blk.fget {f : Nat → α} (h : Blk w g bt ((fam n f).map v).toArray) (i : Nat) (hi : i < n) : w.cell? ⟨g, i, none⟩ = some (v (f i)) := by
  have := h.mget (f := v) i (by rw [fam_len]; exact hi)
  rwa [fam_get n f i hi] at this
theorem Blk.fset {f : Nat → α} (h : Blk w g bt ((fam n f).map v).toArray) (i : Nat) (x : α) : Blk (w.setCell ⟨g, i, none⟩ (v x)) g bt ((fam n (fun j => if j = i then x else f j)).map v).toArray := by
  have := h.set_ i (v x)
  have e : ((fam n f).map v).toArray.setIfInBounds i (v x) = ((fam n (fun j => if j = i then x else f j)).map v).toArray := by
    rw [← fam_set]; simp [List.map_set]
  rwa [e] at this
theorem Blk.fstep {f f' : Nat → α} {k : Nat} (h : Blk w g bt ((fam n (mix f f' k)).map v).toArray) : Blk (w.setCell ⟨g, k, none⟩ (v (f' k))) g bt ((fam n (mix f f' (k + 1))).map v).toArray := by
  have := h.set_ k (v (f' k))
  have e : ((fam n (mix f f' k)).map v).toArray.setIfInBounds k (v (f' k)) = ((fam n (mix f f' (k + 1))).map v).toArray := by
    rw [← mix_set]; simp [List.map_set]
  rwa [e] at this
end Go.Mem
