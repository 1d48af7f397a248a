/-
  Scalars, the document's answer: digits, plain: a difference, a doubling.
-/
import Derived.Test.YtfamfdihflkdpaaSr1
namespace Go.Proofs.Ytfamfdihflkdpaa

/-- The borrow behind k digits of x less L. -/
def bw (x k : Nat) : Nat := if x % 256 ^ k < LL % 256 ^ k then 1 else 0
theorem bw_le (x k : Nat) : bw x k ≤ 1 := by unfold bw; split <;> omega
theorem bw_zero (x : Nat) : bw x 0 = 0 := by simp [bw, Nat.mod_one]
theorem mod_dg (x k : Nat) : x % 256 ^ (k + 1) = x % 256 ^ k + 256 ^ k * dg x k := by
  rw [Nat.pow_succ, Nat.mod_mul]; rfl
/-- What digit k comes to. -/
theorem bw_step (x k : Nat) (hx : LL ≤ x) : ((dg x k : Int) - bw x k - dg LL k < 0 ↔ bw x (k + 1) = 1) ∧ (dg (x - LL) k : Int) = (if (dg x k : Int) - bw x k - dg LL k < 0 then (dg x k : Int) - bw x k - dg LL k + 256 else (dg x k : Int) - bw x k - dg LL k) := by
  have hp : 0 < 256 ^ k := Nat.pow_pos (by decide)
  have m1 := mod_dg x k
  have m2 := mod_dg LL k
  have l1 : x % 256 ^ k < 256 ^ k := Nat.mod_lt _ hp
  have l2 : LL % 256 ^ k < 256 ^ k := Nat.mod_lt _ hp
  have d1 := dg_lt x k
  have d2 := dg_lt LL k
  have e1 : x = 256 ^ k * (x / 256 ^ k) + x % 256 ^ k := (Nat.div_add_mod x (256 ^ k)).symm
  have e2 : LL = 256 ^ k * (LL / 256 ^ k) + LL % 256 ^ k := (Nat.div_add_mod LL (256 ^ k)).symm
  have s1 := dg_succ x k
  have s2 := dg_succ LL k
  have hb : bw x (k + 1) = if x % 256 ^ k + 256 ^ k * dg x k < LL % 256 ^ k + 256 ^ k * dg LL k then 1 else 0 := by unfold bw; rw [m1, m2]
  have hbk : bw x k = if x % 256 ^ k < LL % 256 ^ k then 1 else 0 := rfl
  have hle : LL / 256 ^ k ≤ x / 256 ^ k := Nat.div_le_div_right hx
  have key : (x - LL) / 256 ^ k = x / 256 ^ k - LL / 256 ^ k - bw x k ∧ bw x k ≤ x / 256 ^ k - LL / 256 ^ k := by
    generalize x / 256 ^ k = X1 at *
    generalize LL / 256 ^ k = L1 at *
    generalize x % 256 ^ k = r at *
    generalize LL % 256 ^ k = s at *
    generalize bw x k = β at *
    generalize 256 ^ k = P at *
    by_cases hrs : r < s
    · rw [if_pos hrs] at hbk
      subst hbk
      have hlt : L1 < X1 := by
        rcases Nat.lt_or_ge L1 X1 with h | h
        · exact h
        · exfalso
          have : P * X1 ≤ P * L1 := Nat.mul_le_mul_left _ h
          omega
      refine ⟨?_, by omega⟩
      obtain ⟨D, rfl⟩ : ∃ D, X1 = L1 + 1 + D := ⟨X1 - L1 - 1, by omega⟩
      have h1 : P * (L1 + 1 + D) = P * L1 + P + P * D := by rw [Nat.mul_add, Nat.mul_add, Nat.mul_one]
      have h2 : x - LL = P * D + (P + r - s) := by omega
      rw [h2, Nat.mul_add_div hp, Nat.div_eq_of_lt (by omega)]
      omega
    · rw [if_neg hrs] at hbk
      subst hbk
      refine ⟨?_, by omega⟩
      obtain ⟨D, rfl⟩ : ∃ D, X1 = L1 + D := ⟨X1 - L1, by omega⟩
      have h1 : P * (L1 + D) = P * L1 + P * D := by rw [Nat.mul_add]
      have h2 : x - LL = P * D + (r - s) := by omega
      rw [h2, Nat.mul_add_div hp, Nat.div_eq_of_lt (by omega)]
      omega
  have hd : dg (x - LL) k = (x - LL) / 256 ^ k % 256 := rfl
  rw [hd, key.1]
  have kl := key.2
  rw [s1, s2] at kl hle ⊢
  clear key hd s1 s2 e1 e2 m1 m2
  have hbl := bw_le x k
  rw [hb]
  clear hb
  generalize x / 256 ^ (k + 1) = A at *
  generalize LL / 256 ^ (k + 1) = B at *
  generalize x % 256 ^ k = r at *
  generalize LL % 256 ^ k = s at *
  generalize bw x k = β at *
  generalize dg x k = a at *
  generalize dg LL k = b at *
  generalize 256 ^ k = P at *
  have hcmp : r + P * a < s + P * b ↔ (a : Int) - β - b < 0 := by
    rcases Nat.lt_trichotomy a b with h | h | h
    · have : P * (a + 1) ≤ P * b := Nat.mul_le_mul_left _ h
      rw [Nat.mul_add, Nat.mul_one] at this
      constructor <;> intro <;> omega
    · subst h
      split at hbk <;> constructor <;> intro <;> omega
    · have : P * (b + 1) ≤ P * a := Nat.mul_le_mul_left _ h
      rw [Nat.mul_add, Nat.mul_one] at this
      constructor <;> intro hh
      · omega
      · split at hbk <;> omega
  constructor
  · rw [← hcmp]
    split <;> simp_all
  · split <;> omega
end Go.Proofs.Ytfamfdihflkdpaa
