/-
  Field: a number's bytes: what is reckoned.
-/
import Derived.Test.YthmpdhegodmjjaaFb
namespace Go.Proofs.Ythmpdhegodmjjaa
open Go.RowKit Go.Mem

/-- Is it p or more? -/
def qq (A : Nat → Nat) : Nat → Nat
  | 0 => (A 0 + 19) / 2251799813685248
  | k + 1 => (A (k + 1) + qq A k) / 2251799813685248
/-- Less p, if it is p or more. -/
def lessL (A : Nat → Nat) (i : Nat) : Nat := if i = 0 then A 0 + 19 * qq A 4 else A i
/-- Carried on. -/
def tc (B : Nat → Nat) : Nat → Nat
  | 0 => B 0
  | k + 1 => B (k + 1) + tc B k / 2251799813685248
/-- While it is carried on. -/
def nm (B : Nat → Nat) (k j : Nat) : Nat := if j < k then tc B j % 2251799813685248 else if j = k then tc B k else B j
/-- The limbs at the end. -/
def endL (A : Nat → Nat) (j : Nat) : Nat := tc (lessL A) j % 2251799813685248

def T255 : Nat := 57896044618658097711785492504343953926634992332820282019728792003956564819968
theorem qq_val (A : Nat → Nat) : qq A 4 = (fv A + 19) / T255 := by
  unfold fv T255
  rw [show qq A 4 = (A 4 + (A 3 + (A 2 + (A 1 + (A 0 + 19) / 2251799813685248) / 2251799813685248) / 2251799813685248) / 2251799813685248) / 2251799813685248 from rfl]
  omega
theorem endL_val (A : Nat → Nat) : fv (endL A) = (fv A + 19 * qq A 4) % T255 := by
  have h0 : tc (lessL A) 0 = A 0 + 19 * qq A 4 := rfl
  have h1 : tc (lessL A) 1 = A 1 + tc (lessL A) 0 / 2251799813685248 := rfl
  have h2 : tc (lessL A) 2 = A 2 + tc (lessL A) 1 / 2251799813685248 := rfl
  have h3 : tc (lessL A) 3 = A 3 + tc (lessL A) 2 / 2251799813685248 := rfl
  have h4 : tc (lessL A) 4 = A 4 + tc (lessL A) 3 / 2251799813685248 := rfl
  unfold fv T255 endL
  generalize tc (lessL A) 0 = t0 at *
  generalize tc (lessL A) 1 = t1 at *
  generalize tc (lessL A) 2 = t2 at *
  generalize tc (lessL A) 3 = t3 at *
  generalize tc (lessL A) 4 = t4 at *
  omega
/-- What two carries leave. -/
structure Low2 (A : Nat → Nat) : Prop where
  a0 : A 0 < 2251799813685248 + 19
  ai : ∀ i, 1 ≤ i → i < 5 → A i ≤ 2251799813685248
theorem low2 (F : Nat → Nat) (h : Lim F) : Low2 (carL (carL F)) := by
  have k1 : ∀ i, i < 5 → carL F i < 2251799813685248 + 19 := by
    intro i hi
    have h4 := h 4 (by omega)
    have hi2 := h i hi
    have hi3 := h (i - 1) (by omega)
    unfold carL loL hiL
    split <;> omega
  have h4 := k1 4 (by omega)
  have h0 := k1 0 (by omega)
  generalize carL F = G at *
  constructor
  · rw [show carL G 0 = G 0 % 2251799813685248 + 19 * (G 4 / 2251799813685248) from rfl]
    omega
  · intro i h1 hi
    have hi2 := k1 i hi
    have hi3 := k1 (i - 1) (by omega)
    unfold carL loL hiL
    rw [if_neg (by omega)]
    omega
theorem end_mod (F : Nat → Nat) (h : Lim F) : fv (endL (carL (carL F))) = fv F % PP := by
  have hl := low2 F h
  have e := endL_val (carL (carL F))
  rw [qq_val] at e
  have hm : fv (carL (carL F)) % PP = fv F % PP := by rw [carL_mod, carL_mod]
  have hb : fv (carL (carL F)) < 2 * PP := by
    have := hl.a0
    have a1 := hl.ai 1 (by omega) (by omega)
    have a2 := hl.ai 2 (by omega) (by omega)
    have a3 := hl.ai 3 (by omega) (by omega)
    have a4 := hl.ai 4 (by omega) (by omega)
    unfold fv PP
    omega
  rw [e, ← hm]
  clear e hm hl h
  generalize fv (carL (carL F)) = v at *
  unfold PP at *
  unfold T255
  by_cases hv : v < 57896044618658097711785492504343953926634992332820282019728792003956564819949
  · have hq : (v + 19) / 57896044618658097711785492504343953926634992332820282019728792003956564819968 = 0 := by omega
    rw [hq, Nat.mod_eq_of_lt hv]
    omega
  · have hq : (v + 19) / 57896044618658097711785492504343953926634992332820282019728792003956564819968 = 1 := by omega
    rw [hq]
    omega
theorem endL_lt (A : Nat → Nat) (i : Nat) : endL A i < 2251799813685248 := Nat.mod_lt _ (by decide)
/-- The words. -/
theorem end_words (R : Nat → Nat) (h : ∀ i, R i < 2251799813685248) :
    wrd (fv R) 0 = (R 0 + R 1 * 2251799813685248) % 18446744073709551616 ∧ wrd (fv R) 1 = R 1 / 8192 + R 2 * 274877906944 % 18446744073709551616 ∧
    wrd (fv R) 2 = R 2 / 67108864 + R 3 * 33554432 % 18446744073709551616 ∧ wrd (fv R) 3 = R 3 / 549755813888 + R 4 * 4096 := by
  have h0 := h 0
  have h1 := h 1
  have h2 := h 2
  have h3 := h 3
  have h4 := h 4
  unfold wrd fv
  rw [show 2 ^ (64 * 0) = 1 from rfl, show 2 ^ (64 * 1) = 18446744073709551616 from rfl, show 2 ^ (64 * 2) = 340282366920938463463374607431768211456 from rfl, show 2 ^ (64 * 3) = 6277101735386680763835789423207666416102355444464034512896 from rfl]
  generalize R 0 = r0 at *
  generalize R 1 = r1 at *
  generalize R 2 = r2 at *
  generalize R 3 = r3 at *
  generalize R 4 = r4 at *
  refine ⟨?_, ?_, ?_, ?_⟩ <;> omega
end Go.Proofs.Ythmpdhegodmjjaa
