/-
  Words for memory: a slice of a row of one's own is one's own.
-/
import Derived.Test.YtbhjhfemicbhaaaMem4
namespace Go.Mem
open Go.RowKit

section
variable {P : Program} {w : World} {t e : TypeId} {s bytes n : Nat} {z v : Value} {xs : List Value}

/-- 'v[:k:k]'. -/
theorem ow_to3 (T : SliceT P t e s bytes z) (hr : Ow w e s v n xs) (kd : IntKind) (k : Nat) (hk : k ≤ n) :
    ∃ B d, (∀ W, (Instr.sliceAt t v none (some (.int kd k)) (some (.int kd k))).run P W = .ok (.slice B k d) W) ∧ Ow w e s (.slice B k d) k (xs.take (k * s)) := by
  have hr0 := hr
  obtain ⟨A, c, rfl, hnc⟩ := hr.shape
  have hcut := hr0.cut (lo := 0) (hi := k) (m := k) (Nat.zero_le _) hk (Nat.le_refl _) (by omega)
  have ha : (if k = 0 then A else A.map (·.add (0 * s))) = A := by
    rw [Nat.zero_mul]
    have : A.map (fun x => x.add 0) = A := by cases A <;> rfl
    rw [this, ite_self]
  rw [ha] at hcut
  refine ⟨A, k, fun W => ?_, by simpa using hcut⟩
  rw [run_cutAt T A n c none _ _ 0 k k W (by unfold Instr.sliceBounds; simp [run_bound kd k c _ (by omega) W, run_bound kd k k _ (Nat.le_refl _) W]), ha]
  simp

/-- 'v[:k]'. -/
theorem ow_to (T : SliceT P t e s bytes z) (hr : Ow w e s v n xs) (kd : IntKind) (k : Nat) (hk : k ≤ n) :
    ∃ B d, (∀ W, (Instr.sliceAt t v none (some (.int kd k)) none).run P W = .ok (.slice B k d) W) ∧ Ow w e s (.slice B k d) k (xs.take (k * s)) ∧ (Value.slice B k d).ownBlock = v.ownBlock := by
  have hr0 := hr
  obtain ⟨A, c, rfl, hnc⟩ := hr.shape
  have hcut := hr0.cut (lo := 0) (hi := k) (m := c) (Nat.zero_le _) hk (by omega) (Nat.le_refl _)
  have ha : (if c = 0 then A else A.map (·.add (0 * s))) = A := by
    rw [Nat.zero_mul]
    have : A.map (fun x => x.add 0) = A := by cases A <;> rfl
    rw [this, ite_self]
  rw [ha] at hcut
  refine ⟨A, c, fun W => ?_, by simpa using hcut, by cases A <;> rfl⟩
  rw [run_cutAt T A n c none _ none 0 k c W (by unfold Instr.sliceBounds; simp [run_bound kd k c _ (by omega) W]), ha]
  simp

/-- 'v[k:]'. -/
theorem ow_from (T : SliceT P t e s bytes z) (hr : Ow w e s v n xs) (kd : IntKind) (k : Nat) (hk : k ≤ n) :
    ∃ B d, (∀ W, (Instr.sliceAt t v (some (.int kd k)) none none).run P W = .ok (.slice B (n - k) d) W) ∧ Ow w e s (.slice B (n - k) d) (n - k) (xs.drop (k * s)) := by
  have hr0 := hr
  obtain ⟨A, c, rfl, hnc⟩ := hr.shape
  have hcut := hr0.cut (lo := k) (hi := n) (m := c) hk (Nat.le_refl _) hnc (Nat.le_refl _)
  refine ⟨_, _, fun W => run_cutAt T A n c _ none none k n c W (by unfold Instr.sliceBounds; simp [run_bound kd k n _ hk W]), ?_⟩
  have e : (xs.drop (k * s)).take ((n - k) * s) = xs.drop (k * s) := by
    apply List.take_of_length_le
    rw [List.length_drop, hr0.1, Nat.sub_mul]; omega
  rw [← e]; exact hcut

end
end Go.Mem
