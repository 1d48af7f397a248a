/-
  The document's field: bytes of digits: the plain law.
-/
import Derived.Test.YthmpdhegodmjjaaRf2
namespace Go.Proofs.Ythmpdhegodmjjaa
open Go.RowKit Go.Mem Go.Txt

/-- Sixteen digits of 16 bits. -/
def Dg (t : Nat → Int) : Prop := ∀ i, i < 16 → 0 ≤ t i ∧ t i < 65536
def PZ : Int := 57896044618658097711785492504343953926634992332820282019728792003956564819949
theorem PZ_eq : PZ = (PP : Int) := by decide +kernel
/-- The digits of p. -/
def pd (i : Nat) : Int := if i = 0 then 65517 else if i = 15 then 32767 else 65535
def mn (t : Nat → Int) (i : Nat) : Int := t i - pd i
theorem pd_bound (i : Nat) : 32767 ≤ pd i ∧ pd i ≤ 65535 := by unfold pd; split <;> (try split) <;> omega
theorem dv_sub (a b : Nat → Int) : ∀ n, dv (fun i => a i - b i) n = dv a n - dv b n
  | 0 => rfl
  | n + 1 => by rw [dv, dv, dv, dv_sub a b n]; grind
theorem dv_pd : dv pd 16 = PZ := by decide +kernel
theorem dv_mn (t : Nat → Int) : dv (mn t) 16 = dv t 16 - PZ := by rw [← dv_pd, ← dv_sub]; rfl
theorem dg_dv {t : Nat → Int} (h : Dg t) : 0 ≤ dv t 16 ∧ dv t 16 < B16 := by
  have e : dv t 16 = dv (fun i => if i < 16 then t i else 0) 16 := dv_ext 16 fun i hi => (if_pos hi).symm
  rw [e, ← B16_eq]
  refine dv_nat _ (fun i => ?_) 16
  split
  · rename_i hi; exact h i hi
  · omega
theorem dg_digit {t : Nat → Int} (h : Dg t) (i : Nat) (hi : i < 16) : dv t 16 / 65536 ^ i % 65536 = t i := by
  have e : dv t 16 = dv (fun i => if i < 16 then t i else 0) 16 := dv_ext 16 fun i hi => (if_pos hi).symm
  rw [e]
  have := dv_digit (fun i => if i < 16 then t i else 0) (fun i => by
    split
    · rename_i hi; exact h i hi
    · omega) 16 i hi
  rw [this, if_pos hi]
theorem ce_mn {t : Nat → Int} (h : Dg t) : ∀ i, i < 16 → -65536 ≤ ce (mn t) i ∧ ce (mn t) i ≤ 32768
  | 0, _ => by have := h 0 (by omega); show -65536 ≤ t 0 - 65517 ∧ t 0 - 65517 ≤ 32768; omega
  | i + 1, hi => by
    have h1 := ce_mn h i (by omega)
    have h2 := h (i + 1) hi
    have h3 := pd_bound (i + 1)
    show -65536 ≤ t (i + 1) - pd (i + 1) + ce (mn t) i / 65536 ∧ t (i + 1) - pd (i + 1) + ce (mn t) i / 65536 ≤ 32768
    omega
def B15 : Int := 1766847064778384329583297500742918515827483896875618958121606201292619776
theorem B15_eq : (65536 : Int) ^ 15 = B15 := by decide +kernel
theorem dv_cst (d : Nat → Int) : dv (cst d 15) 16 = dv d 16 := by
  have h := dv_carry d 14
  have e : dv (cst d 15) 15 = dv (cr d) 15 := dv_ext 15 fun i hi => by unfold cst; rw [if_pos hi]
  have e2 : cst d 15 15 = ce d 15 := by unfold cst; rw [if_neg (by omega), if_pos rfl]
  have e3 : ce d 15 = d 15 + cq d 14 := rfl
  rw [show dv (cst d 15) 16 = dv (cst d 15) 15 + cst d 15 15 * 65536 ^ 15 from rfl, e, e2, show dv d 16 = dv d 15 + d 15 * 65536 ^ 15 from rfl, h, e3]
  grind
theorem dv_sign (d : Nat → Int) : 0 ≤ ce d 15 ↔ 0 ≤ dv d 16 := by
  have h := dv_cst d
  have e : dv (cst d 15) 15 = dv (cr d) 15 := dv_ext 15 fun i hi => by unfold cst; rw [if_pos hi]
  have e2 : cst d 15 15 = ce d 15 := by unfold cst; rw [if_neg (by omega), if_pos rfl]
  have hb := dv_nat (cr d) (cr_bound d) 15
  rw [show dv (cst d 15) 16 = dv (cst d 15) 15 + cst d 15 15 * 65536 ^ 15 from rfl, e, e2] at h
  rw [B15_eq] at h hb
  unfold B15 at h hb
  omega
/-- Less p, if it is p or more. -/
def lsN (t : Nat → Int) : Nat → Int := if 0 ≤ ce (mn t) 15 then cst (mn t) 15 else t
theorem lsN_dg {t : Nat → Int} (h : Dg t) : Dg (lsN t) := by
  unfold lsN
  split
  · rename_i hc
    intro i hi
    unfold cst
    have h1 := cr_bound (mn t) i
    have h2 := ce_mn h 15 (by omega)
    split
    · exact h1
    · split
      · omega
      · omega
  · exact h
theorem lsN_val {t : Nat → Int} : dv (lsN t) 16 = if PZ ≤ dv t 16 then dv t 16 - PZ else dv t 16 := by
  have h := dv_sign (mn t)
  rw [dv_mn] at h
  unfold lsN
  by_cases hc : 0 ≤ ce (mn t) 15
  · rw [if_pos hc, dv_cst, dv_mn, if_pos (by have := h.1 hc; omega)]
  · rw [if_neg hc, if_neg (by have := mt h.2 hc; omega)]
/-- Carried thrice. -/
def c3N (d : Nat → Int) : Nat → Int := cy (cy (cy d))
def wr38 (V : Int) : Int := V % B16 + 38 * (V / B16)
theorem B16_PZ : B16 = 2 * PZ + 38 := by decide +kernel
theorem wr38_mod (V : Int) : wr38 V % PZ = V % PZ := by
  unfold wr38
  have h := Int.emod_add_mul_ediv V B16
  have e : V % B16 + 38 * (V / B16) = V + PZ * (-(2 * (V / B16))) := by
    rw [B16_PZ] at h ⊢
    generalize V / (2 * PZ + 38) = q at *
    generalize V % (2 * PZ + 38) = r at *
    grind
  rw [e, Int.add_mul_emod_self_left]
theorem cy_value {d : Nat → Int} (h : Sm 2674136093360128 d) (h2 : ∀ i, 0 < i → i < 16 → 0 ≤ d i ∧ d i < 65536) : -2674136093360128 ≤ dv d 16 ∧ dv d 16 < B16 + 2674136093360128 := by
  have h0 := h 0 (by omega)
  have e := dv_split d 1 15
  have hb := dv_nat (fun j => if j < 15 then d (1 + j) else 0) (fun i => by
    split
    · exact h2 (1 + i) (by omega) (by omega)
    · omega) 15
  have e2 : dv (fun j => d (1 + j)) 15 = dv (fun j => if j < 15 then d (1 + j) else 0) 15 := dv_ext 15 fun i hi => (if_pos hi).symm
  rw [show (1 + 15 : Nat) = 16 from rfl, e2, show dv d 1 = d 0 from by simp [dv]] at e
  rw [B15_eq] at hb
  unfold B15 at hb
  unfold B16
  omega
theorem cy_dg (d : Nat → Int) (i : Nat) (h : 0 < i) : 0 ≤ cy d i ∧ cy d i < 65536 := by
  unfold cy
  rw [if_neg (by omega)]
  exact cr_bound d i
theorem c3N_spec {d : Nat → Int} (h : Sm 4611686018427387904 d) : Dg (c3N d) ∧ dv (c3N d) 16 % PZ = dv d 16 % PZ ∧ 0 ≤ dv (c3N d) 16 ∧ dv (c3N d) 16 < B16 := by
  have hv := cy_value (cy_small h) (fun i hi _ => cy_dg d i hi)
  have e1 := dv_cy d
  have e2 := dv_cy (cy d)
  have e3 := dv_cy (cy (cy d))
  have hr : 0 ≤ dv (cy (cy d)) 16 ∧ dv (cy (cy d)) 16 < B16 := by
    rw [e2]
    generalize dv (cy d) 16 = v at *
    unfold B16 at *
    omega
  have hq : cq (cy (cy d)) 15 = 0 := by
    have hc : dv (cy (cy d)) 16 = dv (cr (cy (cy d))) 16 + cq (cy (cy d)) 15 * 65536 ^ 16 := dv_carry (cy (cy d)) 15
    have hb := dv_nat (cr (cy (cy d))) (cr_bound _) 16
    rw [B16_eq] at hb hc
    clear e1 e2 e3 hv
    unfold B16 at *
    omega
  have hdg : Dg (c3N d) := fun i _ => by
    have hb := cr_bound (cy (cy d)) i
    unfold c3N
    rw [show cy (cy (cy d)) i = if i = 0 then cr (cy (cy d)) 0 + 38 * cq (cy (cy d)) 15 else cr (cy (cy d)) i from rfl, hq]
    by_cases hi : i = 0
    · subst hi; rw [if_pos rfl]; omega
    · rw [if_neg hi]; exact hb
  refine ⟨hdg, ?_, (dg_dv hdg).1, (dg_dv hdg).2⟩
  unfold c3N
  rw [e3, ← wr38, wr38_mod, e2, ← wr38, wr38_mod, e1, ← wr38, wr38_mod]
/-- What is packed. -/
def pkN (d : Nat → Int) : Nat → Int := lsN (lsN (c3N d))
theorem pkN_spec {d : Nat → Int} (h : Sm 4611686018427387904 d) : Dg (pkN d) ∧ dv (pkN d) 16 = dv d 16 % PZ := by
  obtain ⟨h1, h2, h3, h4⟩ := c3N_spec h
  refine ⟨lsN_dg (lsN_dg h1), ?_⟩
  unfold pkN
  rw [lsN_val, lsN_val, ← h2]
  generalize dv (c3N d) 16 = V at *
  have : PZ = 57896044618658097711785492504343953926634992332820282019728792003956564819949 := rfl
  unfold B16 at h4
  rw [this]
  split
  · split <;> omega
  · omega
/-- Byte i of what is packed. -/
def pkB (t : Nat → Int) (i : Nat) : UInt8 := UInt8.ofNat (if i % 2 = 0 then (t (i / 2) % 256).toNat else (t (i / 2) / 256).toNat)
theorem pow16 (i : Nat) : (65536 : Int) ^ i = ((2 ^ (16 * i) : Nat) : Int) := by
  rw [Nat.pow_mul]
  simp
theorem pkB_le {t : Nat → Int} (h : Dg t) (X : Nat) (hX : dv t 16 = (X : Int)) : fam 32 (pkB t) = le X 32 := by
  unfold le fam
  apply List.map_congr_left
  intro i hi
  have hi : i < 32 := by simpa using hi
  have hd := dg_digit h (i / 2) (by omega)
  rw [hX, pow16] at hd
  unfold pkB
  congr 1
  have hn : t (i / 2) = ((X / 2 ^ (16 * (i / 2)) % 65536 : Nat) : Int) := by
    rw [← hd]; simp
  rw [hn]
  by_cases h2 : i % 2 = 0
  · rw [if_pos h2, show 16 * (i / 2) = 8 * i from by omega]
    generalize X / 2 ^ (8 * i) = y
    omega
  · rw [if_neg h2, show 8 * i = 16 * (i / 2) + 8 from by omega, Nat.pow_add, ← Nat.div_div_eq_div_mul]
    generalize X / 2 ^ (16 * (i / 2)) = y
    omega
end Go.Proofs.Ythmpdhegodmjjaa
