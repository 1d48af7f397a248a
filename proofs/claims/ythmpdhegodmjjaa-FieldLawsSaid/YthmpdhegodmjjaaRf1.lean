/-
  The document's field: carrying digits: the plain law.
-/
import Derived.Test.YthmpdhegodmjjaaFe24
namespace Go.Proofs.Ythmpdhegodmjjaa
open Go.RowKit Go.Mem Go.Txt

/-- What comes to digit i; what stays; what goes on. -/
def ce (d : Nat → Int) : Nat → Int
  | 0 => d 0
  | i + 1 => d (i + 1) + ce d i / 65536
def cr (d : Nat → Int) (i : Nat) : Int := ce d i % 65536
def cq (d : Nat → Int) (i : Nat) : Int := ce d i / 65536
/-- After k rounds. -/
def cst (d : Nat → Int) (k i : Nat) : Int := if i < k then cr d i else if i = k then ce d k else d i
/-- All carried. -/
def cy (d : Nat → Int) (i : Nat) : Int := if i = 0 then cr d 0 + 38 * cq d 15 else cr d i
/-- What n digits come to. -/
def dv (d : Nat → Int) : Nat → Int
  | 0 => 0
  | n + 1 => dv d n + d n * 65536 ^ n
theorem dv_ext {d e : Nat → Int} : ∀ n, (∀ i, i < n → d i = e i) → dv d n = dv e n
  | 0, _ => rfl
  | n + 1, h => by rw [dv, dv, dv_ext n fun i hi => h i (by omega), h n (by omega)]
theorem cr_bound (d : Nat → Int) (i : Nat) : 0 ≤ cr d i ∧ cr d i < 65536 := by unfold cr; omega
theorem ce_split (d : Nat → Int) (i : Nat) : ce d i = cr d i + 65536 * cq d i := by unfold cr cq; omega
theorem dv_carry (d : Nat → Int) : ∀ n, dv d (n + 1) = dv (cr d) (n + 1) + cq d n * 65536 ^ (n + 1)
  | 0 => by
    have := ce_split d 0
    simp only [dv, ce] at *
    simp; omega
  | n + 1 => by
    have h := dv_carry d n
    have e := ce_split d (n + 1)
    have e2 : ce d (n + 1) = d (n + 1) + cq d n := rfl
    rw [dv, h, show dv (cr d) (n + 1 + 1) = dv (cr d) (n + 1) + cr d (n + 1) * 65536 ^ (n + 1) from rfl, show d (n + 1) = cr d (n + 1) + 65536 * cq d (n + 1) - cq d n from by omega, Int.pow_succ]
    grind
theorem dv_nat (r : Nat → Int) (h : ∀ i, 0 ≤ r i ∧ r i < 65536) : ∀ n, 0 ≤ dv r n ∧ dv r n < 65536 ^ n
  | 0 => by simp [dv]
  | n + 1 => by
    have ih := dv_nat r h n
    have hr := h n
    have hp : (0 : Int) < 65536 ^ n := Int.pow_pos (by omega)
    rw [dv, Int.pow_succ]
    generalize (65536 : Int) ^ n = B at *
    have h1 : 0 ≤ r n * B := Int.mul_nonneg hr.1 (by omega)
    have h2 : r n * B ≤ 65535 * B := Int.mul_le_mul_of_nonneg_right (by omega) (by omega)
    constructor <;> omega
/-- A sum's digits above n. -/
theorem dv_split (r : Nat → Int) (n : Nat) : ∀ m, dv r (n + m) = dv r n + 65536 ^ n * dv (fun j => r (n + j)) m
  | 0 => by simp [dv]
  | m + 1 => by
    rw [show n + (m + 1) = (n + m) + 1 from rfl, dv, dv_split r n m, dv, Int.pow_add]
    grind
theorem dv_digit (r : Nat → Int) (h : ∀ i, 0 ≤ r i ∧ r i < 65536) (n i : Nat) (hi : i < n) : dv r n / 65536 ^ i % 65536 = r i := by
  obtain ⟨m, rfl⟩ : ∃ m, n = i + (1 + m) := ⟨n - i - 1, by omega⟩
  have hb := dv_nat r h i
  have hp : (0 : Int) < 65536 ^ i := Int.pow_pos (by omega)
  have e : dv (fun j => r (i + j)) (1 + m) = r i + 65536 * dv (fun j => r (i + (1 + j))) m := by
    rw [dv_split (fun j => r (i + j)) 1 m]
    simp [dv]
  rw [dv_split r i (1 + m), Int.add_mul_ediv_left _ _ (by omega), Int.ediv_eq_zero_of_lt hb.1 hb.2, Int.zero_add, e, Int.add_mul_emod_self_left]
  exact Int.emod_eq_of_lt (h i).1 (h i).2
def B16 : Int := 115792089237316195423570985008687907853269984665640564039457584007913129639936
theorem B16_eq : (65536 : Int) ^ 16 = B16 := by decide +kernel
theorem dv_cy (d : Nat → Int) : dv (cy d) 16 = dv d 16 % B16 + 38 * (dv d 16 / B16) := by
  have h := dv_carry d 15
  have hb := dv_nat (cr d) (cr_bound d) 16
  rw [B16_eq] at h hb
  have hB : (0 : Int) < B16 := by decide
  have e1 : dv d 16 / B16 = cq d 15 := by
    rw [h, Int.add_mul_ediv_right _ _ (by omega), Int.ediv_eq_zero_of_lt hb.1 hb.2, Int.zero_add]
  have e2 : dv d 16 % B16 = dv (cr d) 16 := by
    rw [h, Int.add_mul_emod_self_right]
    exact Int.emod_eq_of_lt hb.1 hb.2
  rw [e1, e2]
  have hs := dv_split (cy d) 1 15
  have hs2 := dv_split (cr d) 1 15
  have e3 : dv (fun j => cy d (1 + j)) 15 = dv (fun j => cr d (1 + j)) 15 := dv_ext 15 fun i _ => by unfold cy; rw [if_neg (by omega)]
  rw [e3] at hs
  have e4 : dv (cy d) 1 = cr d 0 + 38 * cq d 15 := by simp [dv, cy]
  have e5 : dv (cr d) 1 = cr d 0 := by simp [dv]
  rw [show (16 : Nat) = 1 + 15 from rfl, hs, hs2, e4, e5]
  omega
/-- Digits of at most M. -/
def Sm (M : Int) (d : Nat → Int) : Prop := ∀ i, i < 16 → -M ≤ d i ∧ d i ≤ M
theorem ce_bound {d : Nat → Int} (h : Sm 4611686018427387904 d) : ∀ i, i < 16 → -4611826755915743232 ≤ ce d i ∧ ce d i ≤ 4611826755915743232
  | 0, _ => by have := h 0 (by omega); simp only [ce]; omega
  | i + 1, hi => by
    have h1 := ce_bound h i (by omega)
    have h2 := h (i + 1) hi
    simp only [ce]
    omega
theorem cy_small {d : Nat → Int} (h : Sm 4611686018427387904 d) : Sm 2674136093360128 (cy d) := by
  intro i hi
  have hc := ce_bound h 15 (by omega)
  have h0 := cr_bound d 0
  have h1 := cr_bound d i
  unfold cy cq
  split <;> omega
end Go.Proofs.Ythmpdhegodmjjaa
