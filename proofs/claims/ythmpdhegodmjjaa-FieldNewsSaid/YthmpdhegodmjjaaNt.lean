/-
  Numbers: primes, Fermat's theorem, a test that numbers are primes.
-/
namespace Go.Nt

def Pr (p : Nat) : Prop := 1 < p ∧ ∀ d, d ∣ p → d = 1 ∨ d = p
theorem Pr.pos {p : Nat} (h : Pr p) : 0 < p := by have := h.1; omega
theorem Pr.cop {p a : Nat} (h : Pr p) (ha : ¬ p ∣ a) : Nat.Coprime p a := by
  rcases h.2 _ (Nat.gcd_dvd_left p a) with h1 | h1
  · exact h1
  · exact absurd (h1 ▸ Nat.gcd_dvd_right p a) ha
theorem Pr.euclid {p a b : Nat} (h : Pr p) (hd : p ∣ a * b) : p ∣ a ∨ p ∣ b := by
  by_cases ha : p ∣ a
  · exact .inl ha
  · exact .inr ((h.cop ha).dvd_of_dvd_mul_left hd)
theorem Pr.pow {p a : Nat} (h : Pr p) : ∀ n, p ∣ a ^ n → p ∣ a
  | 0, hd => by
    have := Nat.le_of_dvd (by omega) (show p ∣ 1 from by simpa using hd)
    have := h.1
    omega
  | n + 1, hd => by
    rw [Nat.pow_succ] at hd
    rcases h.euclid hd with h1 | h1
    · exact Pr.pow h n h1
    · exact h1

/-- Ways to choose. -/
def ch : Nat → Nat → Nat
  | _, 0 => 1
  | 0, _ + 1 => 0
  | n + 1, k + 1 => ch n k + ch n (k + 1)
theorem ch_zero (n : Nat) : ch n 0 = 1 := by cases n <;> rfl
theorem ch_big : ∀ n k, n < k → ch n k = 0
  | 0, k + 1, _ => rfl
  | n + 1, k + 1, h => by rw [ch, ch_big n k (by omega), ch_big n (k + 1) (by omega)]
theorem ch_self : ∀ n, ch n n = 1
  | 0 => rfl
  | n + 1 => by rw [ch, ch_self n, ch_big n (n + 1) (by omega)]
theorem ch_mul : ∀ n k, (k + 1) * ch (n + 1) (k + 1) = (n + 1) * ch n k
  | 0, 0 => rfl
  | 0, k + 1 => by
    rw [show ch (0 + 1) (k + 1 + 1) = ch 0 (k + 1) + ch 0 (k + 1 + 1) from rfl, ch_big 0 (k + 1) (by omega), ch_big 0 (k + 1 + 1) (by omega)]
    simp
  | n + 1, 0 => by
    have h := ch_mul n 0
    rw [ch_zero] at h
    have hz := ch_zero n
    rw [show ch (n + 1 + 1) (0 + 1) = ch (n + 1) 0 + ch (n + 1) (0 + 1) from rfl, ch_zero, Nat.mul_one]
    omega
  | n + 1, k + 1 => by
    have h1 := ch_mul n k
    have h2 := ch_mul n (k + 1)
    have e : ch (n + 1) (k + 1) = ch n k + ch n (k + 1) := rfl
    rw [show ch (n + 1 + 1) (k + 1 + 1) = ch (n + 1) (k + 1) + ch (n + 1) (k + 1 + 1) from rfl]
    grind
/-- The first terms of a power of a + 1. -/
def bs (n a : Nat) : Nat → Nat
  | 0 => 0
  | m + 1 => bs n a m + ch n m * a ^ m
theorem bs_succ (n a : Nat) : ∀ m, bs (n + 1) a (m + 1) = bs n a (m + 1) + a * bs n a m
  | 0 => by simp [bs, ch_zero]
  | m + 1 => by
    have h := bs_succ n a m
    rw [bs, h, show bs n a (m + 1 + 1) = bs n a (m + 1) + ch n (m + 1) * a ^ (m + 1) from rfl, show bs n a (m + 1) = bs n a m + ch n m * a ^ m from rfl, show ch (n + 1) (m + 1) = ch n m + ch n (m + 1) from rfl]
    grind
theorem bs_pow (a : Nat) : ∀ n, bs n a (n + 1) = (a + 1) ^ n
  | 0 => by simp [bs, ch_zero]
  | n + 1 => by
    have h := bs_pow a n
    rw [bs_succ, show bs n a (n + 1 + 1) = bs n a (n + 1) + ch n (n + 1) * a ^ (n + 1) from rfl, ch_big n (n + 1) (by omega), h, Nat.pow_succ]
    grind
theorem Pr.ch {p k : Nat} (h : Pr p) (hk : 0 < k) (hkp : k < p) : p ∣ ch p k := by
  obtain ⟨q, rfl⟩ : ∃ q, p = q + 1 := ⟨p - 1, by have := h.1; omega⟩
  obtain ⟨j, rfl⟩ : ∃ j, k = j + 1 := ⟨k - 1, by omega⟩
  have := ch_mul q j
  rcases h.euclid (show q + 1 ∣ (j + 1) * Nt.ch (q + 1) (j + 1) from this ▸ Nat.dvd_mul_right _ _) with h1 | h1
  · exact absurd (Nat.le_of_dvd (by omega) h1) (by omega)
  · exact h1
theorem Pr.bs {p : Nat} (h : Pr p) (a : Nat) : ∀ m, m < p → bs p a (m + 1) % p = 1
  | 0, _ => by simp [Nt.bs, ch_zero]; exact Nat.mod_eq_of_lt h.1
  | m + 1, hm => by
    have h1 := Pr.bs h a m (by omega)
    obtain ⟨c, hc⟩ := h.ch (k := m + 1) (by omega) hm
    rw [Nt.bs, hc, Nat.mul_assoc, Nat.add_mul_mod_self_left, h1]
theorem Pr.succ {p : Nat} (h : Pr p) (a : Nat) : (a + 1) ^ p % p = (a ^ p + 1) % p := by
  obtain ⟨q, rfl⟩ : ∃ q, p = q + 1 := ⟨p - 1, by have := h.1; omega⟩
  have h1 := h.bs a q (by omega)
  rw [← bs_pow, show Nt.bs (q + 1) a (q + 1 + 1) = Nt.bs (q + 1) a (q + 1) + Nt.ch (q + 1) (q + 1) * a ^ (q + 1) from rfl, ch_self, Nat.one_mul, Nat.add_mod, h1, Nat.add_comm (a ^ (q + 1)) 1]
  rw [Nat.add_mod 1 (a ^ (q + 1)), Nat.mod_eq_of_lt h.1]
theorem Pr.little {p : Nat} (h : Pr p) : ∀ a, a ^ p % p = a % p
  | 0 => by rw [Nat.zero_pow h.pos]
  | a + 1 => by rw [h.succ a, Nat.add_mod, Pr.little h a, ← Nat.add_mod]
theorem mod_dvd {p a b : Nat} (h : a % p = b % p) (hb : b ≤ a) : p ∣ a - b := by
  refine ⟨a / p - b / p, ?_⟩
  have h1 := Nat.div_add_mod a p
  have h2 := Nat.div_add_mod b p
  rw [Nat.mul_sub]
  omega
/-- Fermat's theorem. -/
theorem Pr.fermat {p a : Nat} (h : Pr p) (ha : a % p ≠ 0) : a ^ (p - 1) % p = 1 := by
  have hna : ¬ p ∣ a := fun hd => ha (Nat.mod_eq_zero_of_dvd hd)
  have hpos : 0 < a := Nat.pos_of_ne_zero fun e => ha (by rw [e, Nat.zero_mod])
  have h1 := h.little a
  have e : a ^ p = a * a ^ (p - 1) := by
    obtain ⟨q, rfl⟩ : ∃ q, p = q + 1 := ⟨p - 1, by have := h.1; omega⟩
    rw [Nat.pow_succ, Nat.mul_comm]; rfl
  have hp1 : 1 ≤ a ^ (p - 1) := Nat.pow_pos hpos
  have hd : p ∣ a * (a ^ (p - 1) - 1) := by
    rw [Nat.mul_sub, Nat.mul_one, ← e]
    exact mod_dvd h1 (by rw [e]; exact Nat.le_mul_of_pos_right a hp1)
  obtain ⟨c, hc⟩ := (h.euclid hd).resolve_left hna
  have : a ^ (p - 1) = 1 + p * c := by omega
  rw [this, Nat.add_mul_mod_self_left, Nat.mod_eq_of_lt h.1]

/-- Powers that are 1. -/
theorem one_mul_ {p h a b : Nat} (hp : 1 < p) (ha : h ^ a % p = 1) : h ^ (a * b) % p = 1 := by
  rw [Nat.pow_mul, Nat.pow_mod, ha, Nat.one_pow, Nat.mod_eq_of_lt hp]
theorem one_gcd {p h : Nat} (hp : 1 < p) : ∀ a b, h ^ a % p = 1 → h ^ b % p = 1 → h ^ (Nat.gcd a b) % p = 1 := by
  intro a b
  induction a, b using Nat.gcd.induction with
  | H0 b => intro _ h2; simpa using h2
  | H1 a b ha ih =>
    intro h1 h2
    rw [Nat.gcd_rec]
    refine ih ?_ h1
    have e := Nat.div_add_mod b a
    rw [← e, Nat.pow_add, Nat.mul_mod, one_mul_ hp h1, Nat.one_mul, Nat.mod_mod] at h2
    exact h2
/-- Every number has a prime that divides it. -/
theorem has_prime : ∀ n, 1 < n → ∃ p, Pr p ∧ p ∣ n := by
  intro n
  induction n using Nat.strongRecOn with
  | _ n ih =>
    intro h
    by_cases hp : Pr n
    · exact ⟨n, hp, Nat.dvd_refl _⟩
    · obtain ⟨d, hd, h1, h2⟩ : ∃ d, d ∣ n ∧ d ≠ 1 ∧ d ≠ n := Classical.byContradiction fun hn => hp ⟨h, fun d hd => by
        by_cases e1 : d = 1
        · exact .inl e1
        · by_cases e2 : d = n
          · exact .inr e2
          · exact absurd ⟨d, hd, e1, e2⟩ hn⟩
      have hle := Nat.le_of_dvd (by omega) hd
      have h0 : d ≠ 0 := fun e => by subst e; have := Nat.eq_zero_of_zero_dvd hd; omega
      obtain ⟨p, hp, hpd⟩ := ih d (by omega) (by omega)
      exact ⟨p, hp, Nat.dvd_trans hpd hd⟩
/-- A number with no prime up to its root is a prime. -/
theorem pr_of {n : Nat} (h1 : 1 < n) (h : ∀ p, Pr p → p ∣ n → n < p * p) : Pr n := by
  refine ⟨h1, fun d hd => ?_⟩
  obtain ⟨e, he⟩ := hd
  by_cases d1 : d = 1
  · exact .inl d1
  · by_cases e1 : e = 1
    · exact .inr (by rw [he, e1, Nat.mul_one])
    · exfalso
      have hd0 : 0 < d := Nat.pos_of_ne_zero fun hz => by rw [hz, Nat.zero_mul] at he; omega
      have he0 : 0 < e := Nat.pos_of_ne_zero fun hz => by rw [hz, Nat.mul_zero] at he; omega
      obtain ⟨p, hp, hpd⟩ := has_prime d (by omega)
      obtain ⟨q, hq, hqe⟩ := has_prime e (by omega)
      have l1 := h p hp (he ▸ Nat.dvd_trans hpd (Nat.dvd_mul_right _ _))
      have l2 := h q hq (he ▸ Nat.dvd_trans hqe (Nat.dvd_mul_left _ _))
      have l3 := Nat.le_of_dvd hd0 hpd
      have l4 := Nat.le_of_dvd he0 hqe
      rcases Nat.le_total d e with hde | hde
      · have := Nat.mul_le_mul l3 l3
        have := Nat.mul_le_mul_left d hde
        omega
      · have := Nat.mul_le_mul l4 l4
        have := Nat.mul_le_mul_right e hde
        omega
/-- What a prime that divides n is, where q divides n - 1. -/
theorem pock {n q g p : Nat} (hq : Pr q) (hqn : n - 1 = (n - 1) / q * q) (h1 : g ^ (n - 1) % n = 1) (h2 : Nat.gcd (g ^ ((n - 1) / q) % n + n - 1) n = 1) (hp : Pr p) (hpn : p ∣ n) (hn : 1 < n) : q ∣ p - 1 := by
  obtain ⟨h, hh⟩ : ∃ h, h = g ^ ((n - 1) / q) := ⟨_, rfl⟩
  rw [← hh] at h2
  have hq1 : h ^ q % p = 1 := by
    rw [hh, ← Nat.pow_mul, ← hqn, ← Nat.mod_mod_of_dvd _ hpn, h1, Nat.mod_eq_of_lt hp.1]
  have hne : h % p ≠ 1 := by
    intro e
    have hd : p ∣ h % n + n - 1 := by
      have e2 : (h % n + n) % p = 1 % p := by
        rw [Nat.add_mod, Nat.mod_mod_of_dvd _ hpn, e, Nat.mod_eq_zero_of_dvd hpn, Nat.add_zero]
      exact mod_dvd e2 (by omega)
    have := Nat.dvd_gcd hd hpn
    rw [h2] at this
    have := Nat.le_of_dvd (by omega) this
    have := hp.1
    omega
  have hh0 : h % p ≠ 0 := by
    intro e
    rw [Nat.pow_mod, e, Nat.zero_pow hq.pos, Nat.zero_mod] at hq1
    cases hq1
  have hf := hp.fermat hh0
  by_cases hd : q ∣ p - 1
  · exact hd
  · exfalso
    have hg := one_gcd hp.1 q (p - 1) hq1 hf
    rw [show Nat.gcd q (p - 1) = 1 from hq.cop hd, Nat.pow_one] at hg
    exact hne hg
theorem two_dvd {a b m : Nat} (ha : Pr a) (hb : Pr b) (hne : a ≠ b) (h1 : a ∣ m) (h2 : b ∣ m) : a * b ∣ m := by
  refine Nat.Coprime.mul_dvd_of_dvd_of_dvd (ha.cop fun hd => ?_) h1 h2
  rcases hb.2 a hd with e | e
  · have := ha.1; omega
  · exact hne e

/-- Powers, fast. -/
def pm (n : Nat) : Nat → Nat → Nat → Nat
  | 0, _, _ => 1 % n
  | f + 1, b, e => if e % 2 = 1 then pm n f (b * b % n) (e / 2) * b % n else pm n f (b * b % n) (e / 2)
theorem pm_eq (n : Nat) : ∀ f b e, e < 2 ^ f → pm n f b e = b ^ e % n
  | 0, b, e, h => by
    obtain rfl : e = 0 := by simpa using h
    simp [pm]
  | f + 1, b, e, h => by
    have h2 : e / 2 < 2 ^ f := by rw [Nat.pow_succ] at h; omega
    have ih := pm_eq n f (b * b % n) (e / 2) h2
    have e1 : (b * b % n) ^ (e / 2) % n = b ^ (2 * (e / 2)) % n := by rw [← Nat.pow_mod, Nat.pow_mul, Nat.pow_two]
    unfold pm
    rw [ih, e1]
    split
    · rename_i ho
      conv => rhs; rw [show e = 2 * (e / 2) + 1 from by omega, Nat.pow_succ]
      rw [Nat.mod_mul_mod]
    · rename_i ho
      conv => rhs; rw [show e = 2 * (e / 2) from by omega]
def okQ (f n q g : Nat) : Bool := (n - 1) % q == 0 && pm n f g (n - 1) == 1 && Nat.gcd (pm n f g ((n - 1) / q) + n - 1) n == 1
theorem okQ_spec {f n q g p : Nat} (hq : Pr q) (hf : n < 2 ^ f) (h : okQ f n q g = true) (hn : 1 < n) (hp : Pr p) (hpn : p ∣ n) : q ∣ p - 1 := by
  simp only [okQ, Bool.and_eq_true, beq_iff_eq] at h
  obtain ⟨⟨h0, h1⟩, h2⟩ := h
  have hle := Nat.div_le_self (n - 1) q
  rw [pm_eq n f g _ (by omega)] at h1 h2
  exact pock hq (by have := Nat.div_add_mod (n - 1) q; rw [h0, Nat.mul_comm] at this; omega) h1 h2 hp hpn hn
theorem pr_one {n q : Nat} (f g : Nat) (hq : Pr q) (hf : n < 2 ^ f) (h : okQ f n q g = true) (hn : 1 < n) (hs : n < (q + 1) * (q + 1)) : Pr n := by
  refine pr_of hn fun p hp hpn => ?_
  have hd := okQ_spec hq hf h hn hp hpn
  have := hp.1
  have := Nat.le_of_dvd (by omega) hd
  have := Nat.mul_le_mul (show q + 1 ≤ p by omega) (show q + 1 ≤ p by omega)
  omega
theorem pr_two {n q r : Nat} (f g g2 : Nat) (hq : Pr q) (hr : Pr r) (hne : q ≠ r) (hf : n < 2 ^ f) (h : okQ f n q g = true) (h2 : okQ f n r g2 = true) (hn : 1 < n) (hs : n < (q * r + 1) * (q * r + 1)) : Pr n := by
  refine pr_of hn fun p hp hpn => ?_
  have hd := two_dvd hq hr hne (okQ_spec hq hf h hn hp hpn) (okQ_spec hr hf h2 hn hp hpn)
  have := hp.1
  have := Nat.le_of_dvd (by omega) hd
  have := Nat.mul_le_mul (show q * r + 1 ≤ p by omega) (show q * r + 1 ≤ p by omega)
  omega
theorem pr_small {n : Nat} (k : Nat) (hn : 1 < n) (hk : n < k * k) (h : ((List.range k).all fun d => d < 2 || n % d != 0) = true) : Pr n := by
  refine pr_of hn fun p hp hpn => ?_
  rcases Nat.lt_or_ge p k with hlt | hge
  · exfalso
    have := List.all_eq_true.1 h p (by simpa using hlt)
    have hp1 := hp.1
    simp at this
    rcases this with h1 | h1
    · omega
    · exact h1 (Nat.mod_eq_zero_of_dvd hpn)
  · have := Nat.mul_le_mul hge hge
    omega
theorem pr127 : Pr 127 := pr_small 12 (by decide) (by decide) (by decide +kernel)
theorem pr4153 : Pr 4153 := pr_small 65 (by decide) (by decide) (by decide +kernel)
theorem pr75707 : Pr 75707 := pr_small 276 (by decide) (by decide) (by decide +kernel)
theorem pr430751 : Pr 430751 := pr_small 657 (by decide) (by decide) (by decide +kernel)
theorem pr8574133 : Pr 8574133 := pr_small 2929 (by decide) (by decide) (by decide +kernel)
theorem pr_c : Pr 1919519569386763 := pr_two 51 2 2 pr8574133 pr127 (by decide) (by decide +kernel) (by decide +kernel) (by decide +kernel) (by decide) (by decide)
theorem pr_a : Pr 31757755568855353 := pr_two 55 2 5 pr430751 pr4153 (by decide) (by decide +kernel) (by decide +kernel) (by decide +kernel) (by decide) (by decide)
theorem pr_b : Pr 75445702479781427272750846543864801 := pr_two 116 2 7 pr_c pr75707 (by decide) (by decide +kernel) (by decide +kernel) (by decide +kernel) (by decide) (by decide)
theorem pr_r : Pr 74058212732561358302231226437062788676166966415465897661863160754340907 := pr_two 236 2 2 pr_a pr_b (by decide) (by decide +kernel) (by decide +kernel) (by decide +kernel) (by decide) (by decide)
/-- 2^255 - 19 is a prime. -/
theorem pr_P : Pr 57896044618658097711785492504343953926634992332820282019728792003956564819949 := pr_one 255 2 pr_r (by decide +kernel) (by decide +kernel) (by decide) (by decide)
end Go.Nt
