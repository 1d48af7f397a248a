/-
  Words for memory: a slice of a slice, its value behind a name.
-/
import Derived.Test.YtbhjhfemicbhaaaMem3
namespace Go.Mem
open Go.RowKit

section
variable {P : Program} {w : World} {t e : TypeId} {s bytes n : Nat} {z v : Value} {xs : List Value}

theorem run_bound (k : IntKind) (i y : Nat) (c : BoundsCode) (h : i ≤ y) (w : World) : (Instr.sliceBound (.int k i) y c).run P w = .ok i w := by
  unfold Instr.sliceBound
  have : (0 : Int) ≤ (i : Int) ∧ (i : Int) ≤ (y : Int) := by omega
  simp [asIntOf, this]

theorem run_cutAt (T : SliceT P t e s bytes z) (A : Option Addr) (n c : Nat) (lo hi mx : Option Value) (l h m : Nat) (w : World)
    (hb : (Instr.sliceBounds true n c lo hi mx).run P w = .ok (l, h, m) w) :
    (Instr.sliceAt t (.slice A n c) lo hi mx).run P w = .ok (.slice (if m = l then A else A.map (·.add (l * s))) (h - l) (m - l)) w := by
  obtain ⟨i, hi, _, hsz, _⟩ := T.get
  unfold Instr.sliceAt Instr.slice
  simp [run_underlying T.under, hb, Go.sizeOf, typeInfo, hi, hsz]

/-- 'v[:k]'. -/
theorem cut_to (T : SliceT P t e s bytes z) (hr : Rd w s v n xs) (kd : IntKind) (k : Nat) (hk : k ≤ n) :
    ∃ B d, (∀ W, (Instr.sliceAt t v none (some (.int kd k)) none).run P W = .ok (.slice B k d) W) ∧ Rd w s (.slice B k d) k (xs.take (k * s)) ∧ (Value.slice B k d).ownBlock = v.ownBlock ∧ k ≤ d := by
  have hr0 := hr
  obtain ⟨A, c, rfl, _, hnc, _⟩ := hr
  have hcut := hr0.cut (lo := 0) (hi := k) (m := c) (Nat.zero_le _) hk (by omega)
  have ha : (if c = 0 then A else A.map (·.add (0 * s))) = A := by
    rw [Nat.zero_mul]
    have : A.map (fun x => x.add 0) = A := by cases A <;> rfl
    rw [this, ite_self]
  rw [ha] at hcut
  refine ⟨A, c, fun W => ?_, by simpa using hcut, by cases A <;> rfl, by omega⟩
  rw [run_cutAt T A n c none _ none 0 k c W (by unfold Instr.sliceBounds; simp [run_bound kd k c _ (by omega) W]), ha]
  simp

/-- 'v[k:]'. -/
theorem cut_from (T : SliceT P t e s bytes z) (hr : Rd w s v n xs) (kd : IntKind) (k : Nat) (hk : k ≤ n) :
    ∃ B d, (∀ W, (Instr.sliceAt t v (some (.int kd k)) none none).run P W = .ok (.slice B (n - k) d) W) ∧ Rd w s (.slice B (n - k) d) (n - k) (xs.drop (k * s)) ∧ (0 < n - k → (Value.slice B (n - k) d).ownBlock = v.ownBlock) ∧ n - k ≤ d := by
  have hr0 := hr
  obtain ⟨A, c, rfl, hl, hnc, hx⟩ := hr
  have hcut := hr0.cut (lo := k) (hi := n) (m := c) hk (Nat.le_refl _) hnc
  refine ⟨_, _, fun W => run_cutAt T A n c _ none none k n c W (by unfold Instr.sliceBounds; simp [run_bound kd k n _ hk W]), ?_, fun hn => ?_, by omega⟩
  · have e : (xs.drop (k * s)).take ((n - k) * s) = xs.drop (k * s) := by
      apply List.take_of_length_le
      rw [List.length_drop, hl, Nat.sub_mul]; omega
    rw [← e]; exact hcut
  · obtain ⟨b, o, rfl, _⟩ := hx (by omega)
    rw [if_neg (by omega)]
    simp [Value.ownBlock, add_none]

/-- 'v[a:b]'. -/
theorem cut_part (T : SliceT P t e s bytes z) (hr : Rd w s v n xs) (kd kd' : IntKind) (k m : Nat) (hk : k ≤ m) (hm : m ≤ n) :
    ∃ B d, (∀ W, (Instr.sliceAt t v (some (.int kd k)) (some (.int kd' m)) none).run P W = .ok (.slice B (m - k) d) W) ∧ Rd w s (.slice B (m - k) d) (m - k) ((xs.drop (k * s)).take ((m - k) * s)) ∧ (0 < m - k → (Value.slice B (m - k) d).ownBlock = v.ownBlock) ∧ m - k ≤ d := by
  have hr0 := hr
  obtain ⟨A, c, rfl, hl, hnc, hx⟩ := hr
  have hcut := hr0.cut (lo := k) (hi := m) (m := c) hk hm (by omega)
  refine ⟨_, _, fun W => run_cutAt T A n c _ _ none k m c W (by unfold Instr.sliceBounds; simp [run_bound kd' m c _ (by omega) W, run_bound kd k m _ hk W]), hcut, fun hn => ?_, by omega⟩
  obtain ⟨b, o, rfl, _⟩ := hx (by omega)
  rw [if_neg (by omega)]
  simp [Value.ownBlock, add_none]

end
end Go.Mem
