/-
  Field: what products come to: the plain law.
-/
import Derived.Test.YthmpdhegodmjjaaFe7
namespace Go.Proofs.Ythmpdhegodmjjaa
open Go.RowKit Go.Mem

def lo51 (x : Nat) : Nat := x % 2251799813685248
theorem lo_word (x : Nat) : bits .and .u64 ((l64 x : Nat) : Int) 2251799813685247 = ((lo51 x : Nat) : Int) := by
  rw [and51 (l64 x) (l64_lt x)]
  unfold l64 lo51
  omega
/-- The limbs of five sums. -/
def gaL (t : Nat → Nat) (i : Nat) : Nat := if i = 0 then lo51 (t 0) + 19 * up51 (t 4) else lo51 (t i) + up51 (t (i - 1))
/-- Five sums that fit. -/
structure Fit (t : Nat → Nat) : Prop where
  lo : ∀ i, i < 4 → t i < 2596148429267413814265248164610048
  top : t 4 < 162259276829213363391578010288128
theorem Fit.word {t : Nat → Nat} (h : Fit t) (i : Nat) (hi : i < 5) : gaL t i < 18446744073709551616 := by
  have l0 : ∀ i, lo51 (t i) < 2251799813685248 := fun i => Nat.mod_lt _ (by decide)
  have := h.top
  unfold gaL up51
  split
  · have := l0 0; omega
  · have := l0 i; have := h.lo (i - 1) (by omega); omega
theorem gaL_val (t : Nat → Nat) : fv (gaL t) + PP * up51 (t 4) = fv t := by
  unfold fv
  rw [show gaL t 0 = lo51 (t 0) + 19 * up51 (t 4) from rfl, show gaL t 1 = lo51 (t 1) + up51 (t 0) from rfl, show gaL t 2 = lo51 (t 2) + up51 (t 1) from rfl, show gaL t 3 = lo51 (t 3) + up51 (t 2) from rfl, show gaL t 4 = lo51 (t 4) + up51 (t 3) from rfl]
  unfold PP lo51 up51
  omega
theorem ga_lim {t : Nat → Nat} (h : Fit t) : Lim (carL (gaL t)) := carL_lim _ h.word
theorem ga_mod (t : Nat → Nat) : fv (carL (gaL t)) % PP = fv t % PP := by
  rw [carL_mod, ← gaL_val t, Nat.add_mul_mod_self_left]
/-- The five sums of a product. -/
def mulT (F G : Nat → Nat) (i : Nat) : Nat :=
  if i = 0 then F 0 * G 0 + 19 * F 1 * G 4 + 19 * F 2 * G 3 + 19 * F 3 * G 2 + 19 * F 4 * G 1
  else if i = 1 then F 0 * G 1 + F 1 * G 0 + 19 * F 2 * G 4 + 19 * F 3 * G 3 + 19 * F 4 * G 2
  else if i = 2 then F 0 * G 2 + F 1 * G 1 + F 2 * G 0 + 19 * F 3 * G 4 + 19 * F 4 * G 3
  else if i = 3 then F 0 * G 3 + F 1 * G 2 + F 2 * G 1 + F 3 * G 0 + 19 * F 4 * G 4
  else F 0 * G 4 + F 1 * G 3 + F 2 * G 2 + F 3 * G 1 + F 4 * G 0
theorem mulT_val (F G : Nat → Nat) : fv F * fv G = fv (mulT F G) + PP * ((F 1 * G 4 + F 2 * G 3 + F 3 * G 2 + F 4 * G 1) + 2251799813685248 * (F 2 * G 4 + F 3 * G 3 + F 4 * G 2) + 5070602400912917605986812821504 * (F 3 * G 4 + F 4 * G 3) + 11417981541647679048466287755595961091061972992 * (F 4 * G 4)) := by
  unfold fv
  rw [show mulT F G 0 = F 0 * G 0 + 19 * F 1 * G 4 + 19 * F 2 * G 3 + 19 * F 3 * G 2 + 19 * F 4 * G 1 from rfl,
    show mulT F G 1 = F 0 * G 1 + F 1 * G 0 + 19 * F 2 * G 4 + 19 * F 3 * G 3 + 19 * F 4 * G 2 from rfl,
    show mulT F G 2 = F 0 * G 2 + F 1 * G 1 + F 2 * G 0 + 19 * F 3 * G 4 + 19 * F 4 * G 3 from rfl,
    show mulT F G 3 = F 0 * G 3 + F 1 * G 2 + F 2 * G 1 + F 3 * G 0 + 19 * F 4 * G 4 from rfl,
    show mulT F G 4 = F 0 * G 4 + F 1 * G 3 + F 2 * G 2 + F 3 * G 1 + F 4 * G 0 from rfl]
  unfold PP
  generalize F 0 = a0, F 1 = a1, F 2 = a2, F 3 = a3, F 4 = a4, G 0 = b0, G 1 = b1, G 2 = b2, G 3 = b3, G 4 = b4
  grind
theorem prod_lt {F G : Nat → Nat} (hF : Lim F) (hG : Lim G) (i j : Nat) (hi : i < 5) (hj : j < 5) : F i * G j < 20282409603651670423947251286016 :=
  Nat.lt_of_le_of_lt (Nat.mul_le_mul (Nat.le_sub_one_of_lt (hF i hi)) (Nat.le_sub_one_of_lt (hG j hj))) (by decide)
theorem mulT_fit {F G : Nat → Nat} (hF : Lim F) (hG : Lim G) : Fit (mulT F G) := by
  have p := prod_lt hF hG
  have p00 := p 0 0 (by omega) (by omega); have p01 := p 0 1 (by omega) (by omega); have p02 := p 0 2 (by omega) (by omega); have p03 := p 0 3 (by omega) (by omega); have p04 := p 0 4 (by omega) (by omega)
  have p10 := p 1 0 (by omega) (by omega); have p11 := p 1 1 (by omega) (by omega); have p12 := p 1 2 (by omega) (by omega); have p13 := p 1 3 (by omega) (by omega); have p14 := p 1 4 (by omega) (by omega)
  have p20 := p 2 0 (by omega) (by omega); have p21 := p 2 1 (by omega) (by omega); have p22 := p 2 2 (by omega) (by omega); have p23 := p 2 3 (by omega) (by omega); have p24 := p 2 4 (by omega) (by omega)
  have p30 := p 3 0 (by omega) (by omega); have p31 := p 3 1 (by omega) (by omega); have p32 := p 3 2 (by omega) (by omega); have p33 := p 3 3 (by omega) (by omega); have p34 := p 3 4 (by omega) (by omega)
  have p40 := p 4 0 (by omega) (by omega); have p41 := p 4 1 (by omega) (by omega); have p42 := p 4 2 (by omega) (by omega); have p43 := p 4 3 (by omega) (by omega); have p44 := p 4 4 (by omega) (by omega)
  constructor
  · intro i hi
    rcases (show i = 0 ∨ i = 1 ∨ i = 2 ∨ i = 3 by omega) with rfl | rfl | rfl | rfl <;> simp only [mulT, Nat.mul_assoc, if_true, if_false, Nat.reduceEqDiff, reduceCtorEq] <;> omega
  · simp only [mulT, Nat.mul_assoc, Nat.reduceEqDiff, reduceIte, reduceCtorEq]; omega
theorem Rep.mul {F G : Nat → Nat} {x y : Nat} (h : Rep F x) (h2 : Rep G y) : Rep (carL (gaL (mulT F G))) (x * y) := by
  refine ⟨ga_lim (mulT_fit h.lim h2.lim), ?_⟩
  have e := mulT_val F G
  rw [ga_mod, ← Nat.add_mul_mod_self_left (fv (mulT F G)) PP, ← e, Nat.mul_mod, h.val, h2.val, ← Nat.mul_mod]
end Go.Proofs.Ythmpdhegodmjjaa
