/-
  The document's field: powers: the plain law.
-/
import Derived.Test.YtkflljjcgihaoaaRf8
namespace Go.Proofs.Ytkflljjcgihaoaa
open Go.RowKit Go.Mem Go.Txt

/-- The lowest bit that is 1. -/
theorem low_bit : ∀ E : Nat, 0 < E → ∃ z m, E = 2 ^ z * (2 * m + 1) := fun E => by
  induction E using Nat.strongRecOn with
  | ind E ih =>
    intro h
    rcases Nat.mod_two_eq_zero_or_one E with h2 | h2
    · obtain ⟨z, m, e⟩ := ih (E / 2) (by omega) (by omega)
      exact ⟨z + 1, m, by rw [Nat.pow_succ, Nat.mul_comm (2 ^ z) 2, Nat.mul_assoc, ← e]; omega⟩
    · exact ⟨0, E / 2, by rw [Nat.pow_zero]; omega⟩
theorem bit_less (z m j : Nat) : (2 ^ z * (2 * m + 1) - 1).testBit j = if j < z then true else if j = z then false else (2 ^ z * (2 * m + 1)).testBit j := by
  have hp : 0 < 2 ^ z := Nat.two_pow_pos z
  have e : 2 ^ z * (2 * m + 1) - 1 = 2 ^ z * (2 * m) + (2 ^ z - 1) := by rw [Nat.mul_add, Nat.mul_one]; omega
  have e2 : 2 ^ z * (2 * m + 1) = 2 ^ z * (2 * m + 1) + 0 := rfl
  rw [e, Nat.testBit_two_pow_mul_add _ (by omega), e2, Nat.testBit_two_pow_mul_add _ hp]
  by_cases h : j < z
  · rw [if_pos h, if_pos h, Nat.testBit_two_pow_sub_one]
    simpa using h
  · rw [if_neg h, if_neg h]
    by_cases h2 : j = z
    · rw [if_pos h2, h2, Nat.sub_self, Nat.testBit_zero]
      simp
    · rw [if_neg h2, if_neg h]
      obtain ⟨q, hq⟩ : ∃ q, j - z = q + 1 := ⟨j - z - 1, by omega⟩
      rw [hq, Nat.testBit_succ, Nat.testBit_succ]
      congr 1
      omega
theorem bit_at (z m : Nat) : (2 ^ z * (2 * m + 1)).testBit z = true := by
  rw [show 2 ^ z * (2 * m + 1) = 2 ^ z * (2 * m + 1) + 0 from rfl, Nat.testBit_two_pow_mul_add _ (Nat.two_pow_pos z), if_neg (by omega), Nat.sub_self, Nat.testBit_zero]
  simp
theorem bit_under (z m j : Nat) (h : j < z) : (2 ^ z * (2 * m + 1)).testBit j = false := by
  rw [show 2 ^ z * (2 * m + 1) = 2 ^ z * (2 * m + 1) + 0 from rfl, Nat.testBit_two_pow_mul_add _ (Nat.two_pow_pos z), if_pos h]
  simp
theorem bit_le {z m n : Nat} (h : 2 ^ z * (2 * m + 1) ≤ 2 ^ n) : z ≤ n := by
  rcases Nat.lt_or_ge n z with h1 | h1
  · have := Nat.pow_lt_pow_right (show 1 < 2 by omega) h1
    have h2 : 2 ^ z * 1 ≤ 2 ^ z * (2 * m + 1) := Nat.mul_le_mul_left _ (by omega)
    omega
  · exact h1
/-- The exponent's bits from m on. -/
theorem exp_step (E m : Nat) (h : 0 < m) : E / 2 ^ (m - 1) = 2 * (E / 2 ^ m) + (if E.testBit (m - 1) then 1 else 0) := by
  obtain ⟨q, rfl⟩ : ∃ q, m = q + 1 := ⟨m - 1, by omega⟩
  rw [Nat.add_sub_cancel, Nat.pow_succ, ← Nat.div_div_eq_div_mul]
  have : E.testBit q = decide (E / 2 ^ q % 2 = 1) := by rw [Nat.testBit_eq_decide_div_mod_eq]
  rw [this]
  generalize E / 2 ^ q = x
  by_cases hx : x % 2 = 1
  · rw [decide_eq_true hx, if_pos rfl]; omega
  · rw [decide_eq_false hx, if_neg (by simp)]; omega
/-- What stands for a number. -/
structure Dr (d : Nat → Int) (x : Nat) : Prop where
  sm : Sm 70000 d
  val : dv d 16 % PZ = ((x % PP : Nat) : Int)
theorem Dr.mu {a b : Nat → Int} {x y : Nat} (h : Dr a x) (h2 : Dr b y) : Dr (muN a b) (x * y) := by
  refine ⟨muN_sm h.sm h2.sm, ?_⟩
  rw [muN_val, Int.mul_emod, h.val, h2.val, PZ_eq, ← Int.natCast_mul, ← Int.natCast_emod, ← Nat.mul_mod]
theorem Dr.to {d : Nat → Int} {x y : Nat} (h : Dr d x) (e : x = y) : Dr d y := e ▸ h
theorem dr_dgN (x : Nat) (h : x < 65536 ^ 16) : Dr (dgN x) x := by
  refine ⟨(dgN_sm x).le (by omega), ?_⟩
  rw [dv_dgN, Nat.mod_eq_of_lt h, PZ_eq]
  rfl
theorem dr_pk {d : Nat → Int} {x y : Nat} (h : Dr d x) (e : x % PP = y) : PkC d y :=
  pack_le d (h.sm.le (by omega)) x y (by rw [h.val, PZ_eq]; rfl) e
theorem pow_step (a X m : Nat) (h : 0 < m) : a ^ (X / 2 ^ (m - 1)) = if X.testBit (m - 1) then a ^ (X / 2 ^ m) * a ^ (X / 2 ^ m) * a else a ^ (X / 2 ^ m) * a ^ (X / 2 ^ m) := by
  rw [exp_step X m h]
  split
  · rw [Nat.pow_succ, Nat.two_mul, Nat.pow_add]
  · rw [Nat.add_zero, Nat.two_mul, Nat.pow_add]
theorem made_no (k : Nat) : madeCells #[.bool false] k = ((fam k (fun _ => false)).map Value.bool).toArray := by
  apply Array.toList_inj.1
  rw [made_list]
  unfold fam
  simp
  apply List.ext_getElem
  · simp
  · intro i h1 h2
    simp
end Go.Proofs.Ytkflljjcgihaoaa
