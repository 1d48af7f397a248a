/-
  Field's laws: inverses, powers, roots: the plain law.
-/
import Derived.Test.YthmpdhegodmjjaaFl1
namespace Go.Proofs.Ythmpdhegodmjjaa
open Go.RowKit Go.Mem Go.Txt

theorem PP_pr : Go.Nt.Pr PP := by
  have := Go.Nt.pr_P
  unfold PP
  exact this
theorem mm {a b c d : Nat} (h : a % PP = b % PP) (h2 : c % PP = d % PP) : a * c % PP = b * d % PP := by rw [Nat.mul_mod, h, h2, ← Nat.mul_mod]
theorem mp {a b : Nat} (h : a % PP = b % PP) (n : Nat) : a ^ n % PP = b ^ n % PP := by rw [Nat.pow_mod, h, ← Nat.pow_mod]
theorem ma {a b c d : Nat} (h : a % PP = b % PP) (h2 : c % PP = d % PP) : (a + c) % PP = (b + d) % PP := by rw [Nat.add_mod, h, h2, ← Nat.add_mod]
theorem mlM_mod (x y : Nat) : mlM x y % PP = x * y % PP := Nat.mod_mod _ _
theorem zero_pow_ {x n : Nat} (h : x % PP = 0) (hn : 0 < n) : x ^ n % PP = 0 := by
  obtain ⟨m, rfl⟩ : ∃ m, n = m + 1 := ⟨n - 1, by omega⟩
  rw [Nat.pow_succ, Nat.mul_mod, h, Nat.mul_zero, Nat.zero_mod]
theorem pow_zero_ {x n : Nat} (h : x ^ n % PP = 0) : x % PP = 0 := Nat.mod_eq_zero_of_dvd (PP_pr.pow n (Nat.dvd_of_mod_eq_zero h))
/-- (p - 1) / 2. -/
def EE : Nat := 28948022309329048855892746252171976963317496166410141009864396001978282409974
theorem EE_two : PP - 1 = EE + EE := by decide +kernel
theorem EE_eq : 2 ^ 254 - 10 = EE := by decide +kernel
theorem inv_exp : 2 ^ 255 - 21 = PP - 2 := by decide +kernel
theorem fermat {x : Nat} (h : x % PP ≠ 0) : x ^ (PP - 1) % PP = 1 := PP_pr.fermat h
theorem invM_eq (x : Nat) : invM x % PP = x ^ (PP - 2) % PP := by
  have h : Pw x (PP - 2) (invM x) := (invM_pw x).to (by decide +kernel)
  exact h
theorem inv_mul {x : Nat} (h : x % PP ≠ 0) : x * invM x % PP = 1 := by
  rw [mm rfl (invM_eq x), Nat.mul_comm, ← Nat.pow_succ, show (PP - 2).succ = PP - 1 from by decide +kernel]
  exact fermat h
theorem inv_zero {x : Nat} (h : x % PP = 0) : invM x % PP = 0 := by
  rw [invM_eq]
  exact zero_pow_ h (by decide +kernel)
theorem one_ne {x y : Nat} (h : x * y % PP = 1) : y % PP ≠ 0 := fun e => by
  rw [Nat.mul_mod, e, Nat.mul_zero, Nat.zero_mod] at h
  omega
theorem inv_inv {x : Nat} (h : x % PP ≠ 0) : invM (invM x) % PP = x % PP := by
  have h1 := inv_mul h
  have h2 := inv_mul (one_ne h1)
  have e1 : x * (invM x * invM (invM x)) % PP = x * 1 % PP := mm rfl (h2.trans (by decide +kernel))
  have e2 : x * invM x * invM (invM x) % PP = 1 * invM (invM x) % PP := mm (h1.trans (by decide +kernel)) rfl
  rw [Nat.mul_one] at e1
  rw [Nat.one_mul] at e2
  rw [← e1, ← e2, Nat.mul_assoc]
/-- Equal squares. -/
theorem eq_sq {a b : Nat} (h : a * a % PP = b * b % PP) : a % PP = b % PP ∨ (a + b) % PP = 0 := by
  obtain ⟨n, hn⟩ : ∃ n, n = PP - b % PP := ⟨_, rfl⟩
  have hp := PP_pos
  have hb := Nat.mod_lt b hp
  have hd := Nat.div_add_mod b PP
  have hnb : n + b = PP * (1 + b / PP) := by rw [Nat.mul_add]; omega
  have key : (a + n) * (a + b) % PP = 0 := by
    have e : (a + n) * (a + b) = a * a + (a * (n + b) + n * b) := by grind
    have e2 : (a * a + (a * (n + b) + n * b)) % PP = (b * b + (a * (n + b) + n * b)) % PP := ma h rfl
    rw [e, e2, show b * b + (a * (n + b) + n * b) = (a + b) * (n + b) from by grind, hnb, ← Nat.mul_assoc, Nat.mul_comm (a + b) PP, Nat.mul_assoc, Nat.mul_mod_right]
  rcases PP_pr.euclid (Nat.dvd_of_mod_eq_zero key) with h1 | h1
  · left
    have h2 := Nat.mod_eq_zero_of_dvd h1
    have h3 : (a + n + b) % PP = b % PP := by rw [Nat.add_mod, h2, Nat.zero_add, Nat.mod_mod]
    rw [Nat.add_assoc, hnb, Nat.add_mul_mod_self_left] at h3
    exact h3
  · exact .inr (Nat.mod_eq_zero_of_dvd h1)
theorem M1_sq : M1 * M1 % PP = PP - 1 := by decide +kernel
theorem minus_sq {t w : Nat} (h : (t * t + w) % PP = 0) : t * M1 * (t * M1) % PP = w % PP := by
  have e : t * M1 * (t * M1) = t * t * (M1 * M1) := by grind
  have e2 : t * t * (M1 * M1) % PP = t * t * (PP - 1) % PP := mm rfl (by rw [M1_sq]; exact (Nat.mod_eq_of_lt (by decide +kernel)).symm)
  rw [e, e2]
  have e3 : (t * t * (PP - 1) + (t * t + w)) % PP = t * t * (PP - 1) % PP := by rw [Nat.add_mod, h, Nat.add_zero, Nat.mod_mod]
  rw [← e3, show t * t * (PP - 1) + (t * t + w) = w + PP * (t * t) from by
    have : PP = (PP - 1) + 1 := by decide +kernel
    generalize PP - 1 = q at *
    rw [this]; grind, Nat.add_mul_mod_self_left]
def TE : Nat := 7237005577332262213973186563042994240829374041602535252466099000494570602494
theorem tryM_eq (w : Nat) : tryM w % PP = w ^ TE % PP := by
  have h : Pw w TE (tryM w) := (tryM_pw w).to (by decide +kernel)
  exact h
theorem try_four {w : Nat} (h : w ^ EE % PP = 1) : tryM w * tryM w * (tryM w * tryM w) % PP = w * w % PP := by
  have e := tryM_eq w
  rw [mm (mm e e) (mm e e), ← Nat.pow_add, ← Nat.pow_add]
  rw [show (TE + TE) + (TE + TE) = EE + 2 from by decide +kernel, Nat.pow_add, Nat.mul_mod, h, Nat.one_mul, Nat.mod_mod]
  congr 1
  exact Nat.pow_two w
theorem x1_yes {u v : Nat} (h : wM u v ^ EE % PP = 1 ∨ wM u v % PP = 0) : x1M u v * x1M u v % PP = wM u v % PP := by
  unfold x1M
  rw [mlM_mod]
  generalize wM u v = w at *
  by_cases h2 : tryM w * tryM w % PP = w % PP
  · rw [if_pos h2]; exact h2
  · rw [if_neg h2]
    rcases h with h | h
    · rw [mm (mlM_mod _ _) (mlM_mod _ _)]
      rcases eq_sq (try_four h) with h3 | h3
      · exact absurd h3 h2
      · exact minus_sq h3
    · exfalso
      apply h2
      have : tryM w % PP = 0 := by rw [tryM_eq]; exact zero_pow_ h (by decide)
      rw [h, Nat.mul_mod, this, Nat.zero_mul, Nat.zero_mod]
theorem sq_pow {x w : Nat} (h : x * x % PP = w % PP) : w ^ EE % PP = 1 ∨ w % PP = 0 := by
  by_cases hx : x % PP = 0
  · right
    rw [← h, Nat.mul_mod, hx, Nat.zero_mul, Nat.zero_mod]
  · left
    rw [← mp h EE, Nat.mul_pow, ← Nat.pow_add, ← EE_two]
    exact fermat hx
/-- When quotients have roots. -/
theorem okM_eq (u v : Nat) (hv : v % PP ≠ 0) : okM u v = (decide (wM u v ^ EE % PP = 1) || decide (wM u v ^ EE % PP = 0)) := by
  unfold okM
  rw [decide_eq_true hv, Bool.true_and, Bool.eq_iff_iff, Bool.or_eq_true, decide_eq_true_eq, decide_eq_true_eq, decide_eq_true_eq, mlM_mod]
  constructor
  · intro h
    rcases sq_pow h with h | h
    · exact .inl h
    · exact .inr (zero_pow_ h (by decide +kernel))
  · intro h
    exact x1_yes (h.imp id pow_zero_)
theorem okM_sq {u v : Nat} (h : okM u v = true) : v % PP ≠ 0 ∧ x1M u v * x1M u v % PP = wM u v % PP := by
  unfold okM at h
  rw [Bool.and_eq_true, decide_eq_true_eq, decide_eq_true_eq, mlM_mod] at h
  exact h
theorem neg_sq (x : Nat) : negM x * negM x % PP = x * x % PP := by
  have hp := PP_pos
  have hb := Nat.mod_lt x hp
  have hd := Nat.div_add_mod x PP
  obtain ⟨n, hn⟩ : ∃ n, n = negM x := ⟨_, rfl⟩
  have hnb : n + x = PP * (1 + x / PP) := by rw [hn, negM, Nat.mul_add]; omega
  rw [← hn]
  have e1 : (n * n + n * x) % PP = 0 := by rw [← Nat.mul_add, hnb, ← Nat.mul_assoc, Nat.mul_comm n PP, Nat.mul_assoc, Nat.mul_mod_right]
  have e2 : (x * x + n * x) % PP = 0 := by rw [← Nat.add_mul, Nat.add_comm x n, hnb, Nat.mul_assoc, Nat.mul_mod_right]
  have e3 : (n * n + n * x + x * x) % PP = x * x % PP := by rw [Nat.add_mod, e1, Nat.zero_add, Nat.mod_mod]
  have e4 : (x * x + n * x + n * n) % PP = n * n % PP := by rw [Nat.add_mod, e2, Nat.zero_add, Nat.mod_mod]
  rw [← e3, ← e4]
  congr 1
  omega
theorem rt_sq (u v : Nat) : rtM u v * rtM u v % PP = x1M u v * x1M u v % PP := by
  unfold rtM
  split
  · exact neg_sq _
  · rfl
theorem rt_even (u v : Nat) : rtM u v % PP % 2 = 0 := by
  have hp := PP_pos
  have hb := Nat.mod_lt (x1M u v) hp
  unfold rtM
  split
  · rename_i h
    unfold negM
    have h0 : 0 < x1M u v % PP := by omega
    rw [Nat.mod_eq_of_lt (show PP - x1M u v % PP < PP by omega)]
    have : PP % 2 = 1 := by decide +kernel
    omega
  · omega
theorem root_back {u v : Nat} (h : okM u v = true) : rtM u v * rtM u v * v % PP = u % PP := by
  obtain ⟨hv, hs⟩ := okM_sq h
  have e1 : rtM u v * rtM u v * v % PP = wM u v * v % PP := mm ((rt_sq u v).trans hs) rfl
  have e2 : wM u v * v % PP = u * (v * invM v) % PP := by
    unfold wM
    rw [mm (mlM_mod _ _) rfl]
    congr 1
    grind
  rw [e1, e2, mm rfl ((inv_mul hv).trans (show 1 = 1 % PP by decide +kernel)), Nat.mul_one]
/-- A square's root. -/
theorem w_one (x : Nat) : wM (x * x) 1 % PP = x * x % PP := by
  unfold wM
  rw [mlM_mod, mm rfl (show invM 1 % PP = 1 % PP by decide +kernel), Nat.mul_one]
theorem ok_sq (x : Nat) : okM (x * x) 1 = true := by
  unfold okM
  rw [decide_eq_true (show 1 % PP ≠ 0 by decide +kernel), Bool.true_and, decide_eq_true_eq, mlM_mod]
  exact x1_yes ((sq_pow (w_one x).symm).imp id id)
theorem rt_of_sq (x : Nat) : rtM (x * x) 1 % PP = x % PP ∨ (rtM (x * x) 1 + x) % PP = 0 :=
  eq_sq (((rt_sq _ _).trans (okM_sq (ok_sq x)).2).trans (w_one x))
theorem ok01 : okM 0 1 = true := by decide +kernel
theorem rt01 : rtM 0 1 % PP = 0 := by decide +kernel
/-- p - 1, bit by bit. -/
theorem bits_p (i : Nat) (h : i < 255) : (PP - 1).testBit i = (decide (4 < i) || decide (19 / 2 ^ i % 2 = 0)) := by
  have : ((List.range 255).all fun i => (PP - 1).testBit i == (decide (4 < i) || decide (19 / 2 ^ i % 2 = 0))) = true := by decide +kernel
  have := List.all_eq_true.1 this i (by simpa using h)
  simpa using this
end Go.Proofs.Ythmpdhegodmjjaa
