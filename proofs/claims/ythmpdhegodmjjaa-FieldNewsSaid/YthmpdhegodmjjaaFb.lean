/-
  Field: numbers and their bytes (as in sc4, sc5).
-/
import Derived.Test.YthmpdhegodmjjaaFe3
namespace Go.Proofs.Ythmpdhegodmjjaa
open Go.RowKit Go.Mem

/-- Word i of x. -/
def wrd (x i : Nat) : Nat := x / 2 ^ (64 * i) % 18446744073709551616
theorem wrd_lt (x i : Nat) : wrd x i < 18446744073709551616 := Nat.mod_lt _ (by decide)
/-- What bytes come to. -/
def leV : List UInt8 → Nat
  | [] => 0
  | a :: l => a.toNat + 256 * leV l
theorem leV_lt : ∀ l : List UInt8, leV l < 256 ^ l.length
  | [] => by simp [leV]
  | a :: l => by
    have h := leV_lt l
    have ha := a.toNat_lt
    simp only [leV, List.length_cons, Nat.pow_succ]
    omega
theorem leV_snoc : ∀ (l : List UInt8) (b : UInt8), leV (l ++ [b]) = leV l + b.toNat * 256 ^ l.length
  | [], b => by simp [leV]
  | a :: l, b => by
    simp only [List.cons_append, leV, leV_snoc l b, List.length_cons, Nat.pow_succ]
    rw [Nat.mul_add, Nat.add_assoc]
    congr 2
    rw [Nat.mul_comm 256, Nat.mul_assoc]
theorem leV_take (l : List UInt8) (k : Nat) (h : k < l.length) : leV (l.take (k + 1)) = leV (l.take k) + l[k].toNat * 2 ^ (8 * k) := by
  rw [List.take_succ_eq_append_getElem h, leV_snoc, List.length_take, Nat.min_eq_left (by omega), show (256 : Nat) = 2 ^ 8 from rfl, ← Nat.pow_mul]
theorem leV_take_lt (l : List UInt8) (k : Nat) (h : k ≤ l.length) : leV (l.take k) < 2 ^ (8 * k) := by
  have := leV_lt (l.take k)
  rwa [List.length_take, Nat.min_eq_left h, show (256 : Nat) = 2 ^ 8 from rfl, ← Nat.pow_mul] at this
/-- The first n bytes of x. -/
def le (x n : Nat) : List UInt8 := (List.range n).map fun i => UInt8.ofNat (x / 2 ^ (8 * i) % 256)
theorem le_len (x n : Nat) : (le x n).length = n := by simp [le]
theorem le_get (x n i : Nat) (h : i < n) : (le x n)[i]'(by rw [le_len]; exact h) = UInt8.ofNat (x / 2 ^ (8 * i) % 256) := by simp [le]
theorem leV_le : ∀ (n x : Nat), leV (le x n) = x % 2 ^ (8 * n)
  | 0, x => by simp [le, leV, Nat.mod_one]
  | n + 1, x => by
    have h := leV_le n (x / 256)
    have e : le x (n + 1) = UInt8.ofNat (x % 256) :: le (x / 256) n := by
      unfold le
      rw [List.range_succ_eq_map, List.map_cons, List.map_map]
      congr 1
      · simp
      apply List.map_congr_left
      intro i _
      simp only [Function.comp_apply]
      rw [show 8 * (i.succ) = 8 + 8 * i from by omega, Nat.pow_add, ← Nat.div_div_eq_div_mul]
    have hm : (UInt8.ofNat (x % 256)).toNat = x % 256 := by rw [UInt8.toNat_ofNat']; omega
    rw [e, leV, h, hm, show 8 * (n + 1) = 8 + 8 * n from by omega, Nat.pow_add]
    show _ = x % (256 * _)
    rw [Nat.mod_mul]
theorem le_leV : ∀ l : List UInt8, le (leV l) l.length = l
  | [] => rfl
  | a :: l => by
    have h := le_leV l
    have ha := a.toNat_lt
    unfold le
    rw [List.length_cons, List.range_succ_eq_map, List.map_cons, List.map_map]
    congr 1
    · have : leV (a :: l) / 2 ^ (8 * 0) % 256 = a.toNat := by simp only [leV, Nat.mul_zero, Nat.pow_zero, Nat.div_one]; omega
      rw [this]; simp
    · conv => rhs; rw [← h]
      unfold le
      apply List.map_congr_left
      intro i _
      simp only [Function.comp_apply]
      rw [show 8 * (i.succ) = 8 + 8 * i from by omega, Nat.pow_add, ← Nat.div_div_eq_div_mul]
      congr 3
      show (a.toNat + 256 * leV l) / 256 = leV l
      omega
theorem le_inj {x y n : Nat} (hx : x < 2 ^ (8 * n)) (hy : y < 2 ^ (8 * n)) : (le x n == le y n) = decide (x = y) := by
  rw [Bool.eq_iff_iff, beq_iff_eq, decide_eq_true_iff]
  constructor
  · intro h
    have := congrArg leV h
    rwa [leV_le, leV_le, Nat.mod_eq_of_lt hx, Nat.mod_eq_of_lt hy] at this
  · rintro rfl; rfl

theorem byte_word (x i : Nat) : wrd x (i / 8) / 2 ^ (8 * (i % 8)) % 256 = x / 2 ^ (8 * i) % 256 := by
  unfold wrd
  have e : 8 * i = 64 * (i / 8) + 8 * (i % 8) := by omega
  rw [e, Nat.pow_add, ← Nat.div_div_eq_div_mul]
  generalize x / 2 ^ (64 * (i / 8)) = U
  have hr : i % 8 = 0 ∨ i % 8 = 1 ∨ i % 8 = 2 ∨ i % 8 = 3 ∨ i % 8 = 4 ∨ i % 8 = 5 ∨ i % 8 = 6 ∨ i % 8 = 7 := by omega
  rcases hr with h | h | h | h | h | h | h | h <;> rw [h] <;> simp only [Nat.reduceMul, Nat.reducePow] <;> omega

theorem byte_of (x i : Nat) (h : i < 32) : (((wrd x (i / 8) : Nat) : Int) / 2 ^ (8 * (i % 8)) % 256) = (((le x 32)[i]'(by rw [le_len]; exact h)).toNat : Int) := by
  rw [le_get x 32 i h, UInt8.toNat_ofNat', ← byte_word]
  have : ((wrd x (i / 8) : Nat) : Int) / 2 ^ (8 * (i % 8)) = ((wrd x (i / 8) / 2 ^ (8 * (i % 8)) : Nat) : Int) := by simp
  rw [this]
  omega

theorem leV_lt2 (l : List UInt8) : leV l < 2 ^ (8 * l.length) := by
  have := leV_lt l
  rwa [show (256 : Nat) = 2 ^ 8 from rfl, ← Nat.pow_mul] at this
end Go.Proofs.Ythmpdhegodmjjaa
