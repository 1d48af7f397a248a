/-
  The document's field: bytes of digits: the plain law.
  The document's field: bytes of digits: the walk.
-/
import Derived.Test.YtkflljjcgihaoaaRf2
namespace Go.Proofs.Ytkflljjcgihaoaa
open Go.RowKit Go.Mem Go.Txt

/-- Sixteen digits of 16 bits. -/
def Dg (t : Nat → Int) : Prop := ∀ i, i < 16 → 0 ≤ t i ∧ t i < 65536
def PZ : Int := 57896044618658097711785492504343953926634992332820282019728792003956564819949
theorem PZ_eq : PZ = (PP : Int) := by decide +kernel
/-- The digits of p. -/
def pd (i : Nat) : Int := if i = 0 then 65517 else if i = 15 then 32767 else 65535
def mn (t : Nat → Int) (i : Nat) : Int := t i - pd i
theorem pd_bound (i : Nat) : 32767 ≤ pd i ∧ pd i ≤ 65535 := by unfold pd; split <;> (try split) <;> omega
theorem dv_sub (a b : Nat → Int) : ∀ n, dv (fun i => a i - b i) n = dv a n - dv b n
  | 0 => rfl
  | n + 1 => by rw [dv, dv, dv, dv_sub a b n]; grind
theorem dv_pd : dv pd 16 = PZ := by decide +kernel
theorem dv_mn (t : Nat → Int) : dv (mn t) 16 = dv t 16 - PZ := by rw [← dv_pd, ← dv_sub]; rfl
theorem dg_dv {t : Nat → Int} (h : Dg t) : 0 ≤ dv t 16 ∧ dv t 16 < B16 := by
  have e : dv t 16 = dv (fun i => if i < 16 then t i else 0) 16 := dv_ext 16 fun i hi => (if_pos hi).symm
  rw [e, ← B16_eq]
  refine dv_nat _ (fun i => ?_) 16
  split
  · rename_i hi; exact h i hi
  · omega
theorem dg_digit {t : Nat → Int} (h : Dg t) (i : Nat) (hi : i < 16) : dv t 16 / 65536 ^ i % 65536 = t i := by
  have e : dv t 16 = dv (fun i => if i < 16 then t i else 0) 16 := dv_ext 16 fun i hi => (if_pos hi).symm
  rw [e]
  have := dv_digit (fun i => if i < 16 then t i else 0) (fun i => by
    split
    · rename_i hi; exact h i hi
    · omega) 16 i hi
  rw [this, if_pos hi]
theorem ce_mn {t : Nat → Int} (h : Dg t) : ∀ i, i < 16 → -65536 ≤ ce (mn t) i ∧ ce (mn t) i ≤ 32768
  | 0, _ => by have := h 0 (by omega); show -65536 ≤ t 0 - 65517 ∧ t 0 - 65517 ≤ 32768; omega
  | i + 1, hi => by
    have h1 := ce_mn h i (by omega)
    have h2 := h (i + 1) hi
    have h3 := pd_bound (i + 1)
    show -65536 ≤ t (i + 1) - pd (i + 1) + ce (mn t) i / 65536 ∧ t (i + 1) - pd (i + 1) + ce (mn t) i / 65536 ≤ 32768
    omega
def B15 : Int := 1766847064778384329583297500742918515827483896875618958121606201292619776
theorem B15_eq : (65536 : Int) ^ 15 = B15 := by decide +kernel
theorem dv_cst (d : Nat → Int) : dv (cst d 15) 16 = dv d 16 := by
  have h := dv_carry d 14
  have e : dv (cst d 15) 15 = dv (cr d) 15 := dv_ext 15 fun i hi => by unfold cst; rw [if_pos hi]
  have e2 : cst d 15 15 = ce d 15 := by unfold cst; rw [if_neg (by omega), if_pos rfl]
  have e3 : ce d 15 = d 15 + cq d 14 := rfl
  rw [show dv (cst d 15) 16 = dv (cst d 15) 15 + cst d 15 15 * 65536 ^ 15 from rfl, e, e2, show dv d 16 = dv d 15 + d 15 * 65536 ^ 15 from rfl, h, e3]
  grind
theorem dv_sign (d : Nat → Int) : 0 ≤ ce d 15 ↔ 0 ≤ dv d 16 := by
  have h := dv_cst d
  have e : dv (cst d 15) 15 = dv (cr d) 15 := dv_ext 15 fun i hi => by unfold cst; rw [if_pos hi]
  have e2 : cst d 15 15 = ce d 15 := by unfold cst; rw [if_neg (by omega), if_pos rfl]
  have hb := dv_nat (cr d) (cr_bound d) 15
  rw [show dv (cst d 15) 16 = dv (cst d 15) 15 + cst d 15 15 * 65536 ^ 15 from rfl, e, e2] at h
  rw [B15_eq] at h hb
  unfold B15 at h hb
  omega
/-- Less p, if it is p or more. -/
def lsN (t : Nat → Int) : Nat → Int := if 0 ≤ ce (mn t) 15 then cst (mn t) 15 else t
theorem lsN_dg {t : Nat → Int} (h : Dg t) : Dg (lsN t) := by
  unfold lsN
  split
  · rename_i hc
    intro i hi
    unfold cst
    have h1 := cr_bound (mn t) i
    have h2 := ce_mn h 15 (by omega)
    split
    · exact h1
    · split
      · omega
      · omega
  · exact h
theorem lsN_val {t : Nat → Int} : dv (lsN t) 16 = if PZ ≤ dv t 16 then dv t 16 - PZ else dv t 16 := by
  have h := dv_sign (mn t)
  rw [dv_mn] at h
  unfold lsN
  by_cases hc : 0 ≤ ce (mn t) 15
  · rw [if_pos hc, dv_cst, dv_mn, if_pos (by have := h.1 hc; omega)]
  · rw [if_neg hc, if_neg (by have := mt h.2 hc; omega)]
/-- Carried thrice. -/
def c3N (d : Nat → Int) : Nat → Int := cy (cy (cy d))
def wr38 (V : Int) : Int := V % B16 + 38 * (V / B16)
theorem B16_PZ : B16 = 2 * PZ + 38 := by decide +kernel
theorem wr38_mod (V : Int) : wr38 V % PZ = V % PZ := by
  unfold wr38
  have h := Int.emod_add_mul_ediv V B16
  have e : V % B16 + 38 * (V / B16) = V + PZ * (-(2 * (V / B16))) := by
    rw [B16_PZ] at h ⊢
    generalize V / (2 * PZ + 38) = q at *
    generalize V % (2 * PZ + 38) = r at *
    grind
  rw [e, Int.add_mul_emod_self_left]
theorem cy_value {d : Nat → Int} (h : Sm 2674136093360128 d) (h2 : ∀ i, 0 < i → i < 16 → 0 ≤ d i ∧ d i < 65536) : -2674136093360128 ≤ dv d 16 ∧ dv d 16 < B16 + 2674136093360128 := by
  have h0 := h 0 (by omega)
  have e := dv_split d 1 15
  have hb := dv_nat (fun j => if j < 15 then d (1 + j) else 0) (fun i => by
    split
    · exact h2 (1 + i) (by omega) (by omega)
    · omega) 15
  have e2 : dv (fun j => d (1 + j)) 15 = dv (fun j => if j < 15 then d (1 + j) else 0) 15 := dv_ext 15 fun i hi => (if_pos hi).symm
  rw [show (1 + 15 : Nat) = 16 from rfl, e2, show dv d 1 = d 0 from by simp [dv]] at e
  rw [B15_eq] at hb
  unfold B15 at hb
  unfold B16
  omega
theorem cy_dg (d : Nat → Int) (i : Nat) (h : 0 < i) : 0 ≤ cy d i ∧ cy d i < 65536 := by
  unfold cy
  rw [if_neg (by omega)]
  exact cr_bound d i
theorem c3N_spec {d : Nat → Int} (h : Sm 4611686018427387904 d) : Dg (c3N d) ∧ dv (c3N d) 16 % PZ = dv d 16 % PZ ∧ 0 ≤ dv (c3N d) 16 ∧ dv (c3N d) 16 < B16 := by
  have hv := cy_value (cy_small h) (fun i hi _ => cy_dg d i hi)
  have e1 := dv_cy d
  have e2 := dv_cy (cy d)
  have e3 := dv_cy (cy (cy d))
  have hr : 0 ≤ dv (cy (cy d)) 16 ∧ dv (cy (cy d)) 16 < B16 := by
    rw [e2]
    generalize dv (cy d) 16 = v at *
    unfold B16 at *
    omega
  have hq : cq (cy (cy d)) 15 = 0 := by
    have hc : dv (cy (cy d)) 16 = dv (cr (cy (cy d))) 16 + cq (cy (cy d)) 15 * 65536 ^ 16 := dv_carry (cy (cy d)) 15
    have hb := dv_nat (cr (cy (cy d))) (cr_bound _) 16
    rw [B16_eq] at hb hc
    clear e1 e2 e3 hv
    unfold B16 at *
    omega
  have hdg : Dg (c3N d) := fun i _ => by
    have hb := cr_bound (cy (cy d)) i
    unfold c3N
    rw [show cy (cy (cy d)) i = if i = 0 then cr (cy (cy d)) 0 + 38 * cq (cy (cy d)) 15 else cr (cy (cy d)) i from rfl, hq]
    by_cases hi : i = 0
    · subst hi; rw [if_pos rfl]; omega
    · rw [if_neg hi]; exact hb
  refine ⟨hdg, ?_, (dg_dv hdg).1, (dg_dv hdg).2⟩
  unfold c3N
  rw [e3, ← wr38, wr38_mod, e2, ← wr38, wr38_mod, e1, ← wr38, wr38_mod]
/-- What is packed. -/
def pkN (d : Nat → Int) : Nat → Int := lsN (lsN (c3N d))
theorem pkN_spec {d : Nat → Int} (h : Sm 4611686018427387904 d) : Dg (pkN d) ∧ dv (pkN d) 16 = dv d 16 % PZ := by
  obtain ⟨h1, h2, h3, h4⟩ := c3N_spec h
  refine ⟨lsN_dg (lsN_dg h1), ?_⟩
  unfold pkN
  rw [lsN_val, lsN_val, ← h2]
  generalize dv (c3N d) 16 = V at *
  have : PZ = 57896044618658097711785492504343953926634992332820282019728792003956564819949 := rfl
  unfold B16 at h4
  rw [this]
  split
  · split <;> omega
  · omega
/-- Byte i of what is packed. -/
def pkB (t : Nat → Int) (i : Nat) : UInt8 := UInt8.ofNat (if i % 2 = 0 then (t (i / 2) % 256).toNat else (t (i / 2) / 256).toNat)
theorem pow16 (i : Nat) : (65536 : Int) ^ i = ((2 ^ (16 * i) : Nat) : Int) := by
  rw [Nat.pow_mul]
  simp
theorem pkB_le {t : Nat → Int} (h : Dg t) (X : Nat) (hX : dv t 16 = (X : Int)) : fam 32 (pkB t) = le X 32 := by
  unfold le fam
  apply List.map_congr_left
  intro i hi
  have hi : i < 32 := by simpa using hi
  have hd := dg_digit h (i / 2) (by omega)
  rw [hX, pow16] at hd
  unfold pkB
  congr 1
  have hn : t (i / 2) = ((X / 2 ^ (16 * (i / 2)) % 65536 : Nat) : Int) := by
    rw [← hd]; simp
  rw [hn]
  by_cases h2 : i % 2 = 0
  · rw [if_pos h2, show 16 * (i / 2) = 8 * i from by omega]
    generalize X / 2 ^ (8 * i) = y
    omega
  · rw [if_neg h2, show 8 * i = 16 * (i / 2) + 8 from by omega, Nat.pow_add, ← Nat.div_div_eq_div_mul]
    generalize X / 2 ^ (16 * (i / 2)) = y
    omega
end Go.Proofs.Ytkflljjcgihaoaa

namespace Go.Proofs.Ytkflljjcgihaoaa
open Go.RowKit Go.Mem Go.Txt

def lsk (t : Nat → Int) : Nat → Nat → Int
  | 0 => t
  | k + 1 => lsN (lsk t k)
theorem lsk_dg {t : Nat → Int} (h : Dg t) : ∀ k, Dg (lsk t k)
  | 0 => h
  | k + 1 => lsN_dg (lsk_dg h k)
/-- Less the digits of p, the first k of them. -/
def mA (t : Nat → Int) (k i : Nat) : Int := if i = 0 then t 0 - 65517 else if i < k then t i - 65535 else 0
theorem mA_first {u : World} {g : Nat} {t : Nat → Int} (h : Nb u g zd) : Nb (u.setCell ⟨g, 0, none⟩ (.int .i64 (t 0 - 65517))) g (mA t 1) := (h.set 0 _).same fun i _ => by
  unfold mA zd
  by_cases h0 : i = 0
  · rw [if_pos h0, if_pos h0]
  · rw [if_neg h0, if_neg h0, if_neg (by omega)]
theorem mA_step {u : World} {g : Nat} {t : Nat → Int} {k : Nat} (hk : 0 < k) (h : Nb u g (mA t k)) : Nb (u.setCell ⟨g, k, none⟩ (.int .i64 (t k - 65535))) g (mA t (k + 1)) := (h.set k _).same fun i _ => by
  unfold mA
  by_cases h1 : i = k
  · rw [if_pos h1, if_neg (by omega), if_pos (by omega), h1]
  · rw [if_neg h1]
    by_cases h0 : i = 0
    · rw [if_pos h0, if_pos h0]
    · rw [if_neg h0, if_neg h0]
      by_cases h2 : i < k
      · rw [if_pos h2, if_pos (by omega)]
      · rw [if_neg h2, if_neg (by omega)]
theorem mA_last {u : World} {g : Nat} {t : Nat → Int} (h : Nb u g (mA t 15)) : Nb (u.setCell ⟨g, 15, none⟩ (.int .i64 (t 15 - 32767))) g (cst (mn t) 0) := (h.set 15 _).same fun i hi => by
  unfold mA cst
  rw [if_neg (show ¬ i < 0 by omega)]
  by_cases h1 : i = 15
  · rw [if_pos h1, if_neg (by omega), h1]; rfl
  · rw [if_neg h1]
    by_cases h0 : i = 0
    · rw [if_pos h0, if_pos h0]; rfl
    · rw [if_neg h0, if_neg h0, if_pos (by omega)]
      unfold mn pd
      rw [if_neg h0, if_neg h1]
theorem cst_at (d : Nat → Int) (k : Nat) : cst d k k = ce d k := by unfold cst; rw [if_neg (by omega), if_pos rfl]
theorem cst_next (d : Nat → Int) (k : Nat) : cst d k (k + 1) = d (k + 1) := by unfold cst; rw [if_neg (by omega), if_neg (by omega)]
theorem cst_neg {u : World} {g : Nat} {d : Nat → Int} {k : Nat} (h : Nb u g (cst d k)) : Nb ((u.setCell ⟨g, k, none⟩ (.int .i64 (cr d k))).setCell ⟨g, k + 1, none⟩ (.int .i64 (ce d (k + 1)))) g (cst d (k + 1)) := ((h.set k (cr d k)).set (k + 1) (ce d (k + 1))).same fun i _ => by
  unfold cst
  by_cases h1 : i = k + 1
  · rw [if_pos h1, if_neg (by omega), if_pos h1]
  · rw [if_neg h1, if_neg h1]
    by_cases h2 : i = k
    · rw [if_pos h2, if_pos (by omega), h2]
    · rw [if_neg h2]
      by_cases h3 : i < k
      · rw [if_pos h3, if_pos (by omega)]
      · rw [if_neg h3, if_neg h2, if_neg (by omega)]
theorem cst_pos {d : Nat → Int} {k : Nat} (h0 : cq d k = 0) (i : Nat) : cst d k i = cst d (k + 1) i := by
  have hs := ce_split d k
  have hn : ce d (k + 1) = d (k + 1) + cq d k := rfl
  unfold cst
  by_cases h1 : i < k
  · rw [if_pos h1, if_pos (by omega)]
  · rw [if_neg h1]
    by_cases h2 : i = k
    · rw [if_pos h2, if_pos (by omega), h2]; omega
    · rw [if_neg h2, if_neg (by omega)]
      by_cases h3 : i = k + 1
      · rw [if_pos h3, hn, h0, h3]; omega
      · rw [if_neg h3]
theorem mn_bound {t : Nat → Int} (h : Dg t) (i : Nat) (hi : i < 16) : -65536 ≤ mn t i ∧ mn t i ≤ 65535 := by
  have h1 := h i hi
  have h2 := pd_bound i
  unfold mn
  omega
theorem pkB_even (t : Nat → Int) (k : Nat) (_ : 0 ≤ t k ∧ t k < 65536) : (((pkB t (2 * k)).toNat : Nat) : Int) = t k % 256 := by
  unfold pkB
  rw [if_pos (by omega), show 2 * k / 2 = k from by omega, UInt8.toNat_ofNat']
  omega
theorem pkB_odd (t : Nat → Int) (k : Nat) (h : 0 ≤ t k ∧ t k < 65536) : (((pkB t (2 * k + 1)).toNat : Nat) : Int) = t k / 256 := by
  unfold pkB
  rw [if_neg (by omega), show (2 * k + 1) / 2 = k from by omega, UInt8.toNat_ofNat']
  omega

set_option maxRecDepth 100000 in
set_option maxHeartbeats 4000000 in
theorem pack_any (d : Nat → Int) (hd : Sm 4611686018427387904 d) (w : World) :
    Calls Try.prog 45 #[nu d] w fun e w' => e = .returned (ab (fam 32 (pkB (pkN d)))) ∧ Kept [] w w' := by
  have s1 := cy_small hd
  have s2 := cy_small (d := cy d) (fun i hi => by have := s1 i hi; omega)
  have c1 := Lib.hid (carry_any d hd)
  have c2 := Lib.hid (carry_any (cy d) (fun i hi => by have := s1 i hi; omega))
  have c3 := Lib.hid (carry_any (cy (cy d)) (fun i hi => by have := s2 i hi; omega))
  have hdg := Lib.hid (c3N_spec hd).1
  rw [show pkN d = lsk (c3N d) 2 from rfl]
  rw [show cy (cy (cy d)) = c3N d from rfl] at c3
  generalize c3N d = t0 at *
  clear hd s1 s2
  go_enter Try.func45, Try.ntmps45
  go_wp2_with (first
    | ((with_reducible refine wpl_box (o := ⟨some 1, _, _, _, _, _⟩) (v := nu d) rfl (.tmp 0) rfl rfl ?_); intro g1 w1 m1)
    | ((with_reducible refine wpl_new (o := ⟨some 2, _, _, _, _, _⟩) rfl rfl zeroB ?_); intro g2 w2 m2)
    | (with_reducible refine wpl_load_row (o := ⟨some 10, _, _, _, _, _⟩) arrN.row rfl (.tmp 1) rfl rfl (m1.blk.kept m2.kept (by simp)) rfl ?_)
    | (go_at_call 77; (with_reducible refine (c1.out _).mono ?_); rintro e x1 ⟨rfl, kk1⟩)
    | (go_at_call 77; (with_reducible refine (c2.out _).mono ?_); rintro e x2 ⟨rfl, kk2⟩)
    | (go_at_call 77; (with_reducible refine (c3.out _).mono ?_); rintro e x3 ⟨rfl, kk3⟩)
    | ((with_reducible refine wpl_new (o := ⟨some 3, _, _, _, _, _⟩) rfl rfl zeroN ?_); intro g3 w3 m3)
    | ((with_reducible refine wpl_store_row (o := ⟨none, .store 34 (.tmp 3) (.tmp 13), _, _, _, _⟩) arrN.row rfl (.tmp 3) (.tmp 13) rfl rfl rfl m3.blk rfl rfl (one_nu _) ?_); intro w8 b8 k8))
  have K3 := ((((m1.kept.then0 m2.kept).then0 kk1).then0 kk2).then0 kk3)
  have B2 := (((m2.blk.kept kk1 (by simp)).kept kk2 (by simp)).kept kk3 (by simp))
  have D := Lib.hid (show w.heap.size ≤ g2 ∧ w.heap.size ≤ g3 ∧ g2 ≠ g3 ∧ g2 < w8.heap.size from ⟨Nat.le_trans m1.kept.size m2.le, Nat.le_trans K3.size m3.le, m3.ne B2.lt, ((B2.kept m3.kept (by simp)).kept k8 (by simpa using m3.ne B2.lt)).lt⟩)
  replace B2 := Lib.hid ((B2.kept m3.kept (by simp)).kept k8 (by simpa using m3.ne B2.lt))
  have K := Lib.hid ((K3.then0 m3.kept).then1 k8 D.out.2.1)
  have H3 := Lib.hid (show Nb w8 g3 t0 from b8)
  clear m1 m2 m3 kk1 kk2 kk3 K3 b8 k8 c1 c2 c3
  go_loopg [4] 2 (fun f i wk => ∃ k : Nat, k ≤ 2 ∧ f + k = 2 ∧ i = .int .i64 k ∧ Nb wk g3 (lsk t0 k) ∧ Kept [g3] w8 wk)
  case atStart => exact ⟨0, Nat.zero_le _, rfl, rfl, H3.out, Kept.refl _ _⟩
  case round =>
    obtain ⟨k, hk, hf, rfl, hb, hkw⟩ := hrel
    have dg := Lib.hid (lsk_dg hdg.out k)
    have H := Lib.hid hb
    have HK := Lib.hid hkw
    clear hb hkw
    by_cases hlt : k < 2
    · have hnx : lsk t0 (k + 1) = lsN (lsk t0 k) := rfl
      generalize lsk t0 k = t at *
      replace hnx := Lib.hid hnx
      have b0 := dg.out 0 (by omega)
      obtain ⟨T0, hT0⟩ : ∃ x, x = t 0 := ⟨_, rfl⟩
      rw [← hT0] at b0
      obtain ⟨b01, b02⟩ := b0
      replace hT0 := Lib.hid hT0
      go_wp2_with ((with_reducible refine wpl_new (o := ⟨some 5, _, _, _, _, _⟩) rfl rfl zeroN ?_); intro g5 w9 m5; have H5 := Lib.hid (H.out.kept m5.kept (by simp)); have c0 := Nb.get H5.out 0 (by omega); rw [← hT0.out] at c0; have z0 := Blk.frozen m5.blk 0; have e0 := Nb.get (d := zd) m5.blk 0 (by omega))
      have A0 := Lib.hid (show Nb (w9.setCell ⟨g5, 0, none⟩ (.int .i64 (T0 - 65517))) g5 (mA t 1) from by rw [hT0.out]; exact mA_first m5.blk)
      have AK := Lib.hid (show Kept [g5] w9 (w9.setCell ⟨g5, 0, none⟩ (.int .i64 (T0 - 65517))) from (Kept.refl [g5] w9).setCell (.inl (by simp)) _)
      have D5 := Lib.hid (show g3 ≠ g5 ∧ wr.heap.size ≤ g5 ∧ Kept [] wr w9 from ⟨m5.ne H.out.lt, m5.le, m5.kept⟩)
      clear m5 c0 z0 e0 b01 b02
      generalize w9.setCell ⟨g5, 0, none⟩ (.int .i64 (T0 - 65517)) = wa at *
      go_loopg [6] 14 (fun f i wk => ∃ j : Nat, j ≤ 14 ∧ f + j = 14 ∧ i = .int .i64 ((j : Int) + 1) ∧ Nb wk g5 (mA t (j + 1)) ∧ Kept [g5] w9 wk)
      case atStart => exact ⟨0, Nat.zero_le _, rfl, rfl, A0.out, AK.out⟩
      case round =>
        obtain ⟨j, hj, hf2, rfl, hb, hkw⟩ := hrel
        have HA := Lib.hid hb
        have HAK := Lib.hid hkw
        clear hb hkw
        by_cases hlt2 : j < 14
        · have cj := Nb.get (d := t) (H5.out.kept HAK.out (by simpa using D5.out.1)) (j + 1) (by omega)
          have zj := Blk.frozen HA.out (j + 1)
          have ej := HA.out.get (j + 1) (by omega)
          have bj := dg.out (j + 1) (by omega)
          have F := Lib.hid (mA_step (by omega) HA.out)
          have FK := Lib.hid (HAK.out.setCell (p := ⟨g5, j + 1, none⟩) (.inl (by simp)) (Value.int .i64 (t (j + 1) - 65535)))
          generalize t (j + 1) = T1 at *
          obtain ⟨bj1, bj2⟩ := bj
          go_wp2_with fail
          go_roundg (14 - (j + 1))
          case measure => omega
          case rel => exact ⟨j + 1, by omega, by omega, by go_num, F.out, FK.out⟩
        · obtain rfl : j = 14 := by omega
          have cj := Nb.get (d := t) (H5.out.kept HAK.out (by simpa using D5.out.1)) 15 (by omega)
          have zj := Blk.frozen HA.out 15
          have ej := HA.out.get 15 (by omega)
          have bj := dg.out 15 (by omega)
          have F := Lib.hid (mA_last HA.out)
          have FK := Lib.hid (HAK.out.setCell (p := ⟨g5, 15, none⟩) (.inl (by simp)) (Value.int .i64 (t 15 - 32767)))
          generalize t 15 = T1 at *
          obtain ⟨bj1, bj2⟩ := bj
          go_wp2_with fail
          clear zj cj ej bj1 bj2 HA HAK
          obtain ⟨wb, hwb⟩ : ∃ x : World, x = wr.setCell ⟨g5, 15, none⟩ (.int .i64 (T1 - 32767)) := ⟨_, rfl⟩
          rw [← hwb] at F FK ⊢
          clear hwb
          have HC := Lib.hid F.out
          have HCK := Lib.hid FK.out
          clear F FK
          go_loopg [7] 15 (fun f i wk => ∃ j : Nat, j ≤ 15 ∧ f + j = 15 ∧ i = .int .i64 (j : Int) ∧ Nb wk g5 (cst (mn t) j) ∧ Kept [g5] w9 wk)
          case atStart => exact ⟨0, Nat.zero_le _, rfl, rfl, HC.out, HCK.out⟩
          case round =>
            obtain ⟨j, hj, hf3, rfl, hb, hkw⟩ := hrel
            have HB := Lib.hid hb
            have HBK := Lib.hid hkw
            clear hb hkw
            by_cases hlt3 : j < 15
            · have cj := HB.out.get j (by omega)
              rw [cst_at] at cj
              have zj := Blk.frozen HB.out j
              have bj := ce_mn dg.out j (by omega)
              have hsp := ce_split (mn t) j
              have hrb := cr_bound (mn t) j
              by_cases hn : ce (mn t) j < 0
              · have n1 := (HB.out.set j (cr (mn t) j)).get (j + 1) (by omega)
                rw [if_neg (by omega), cst_next] at n1
                have z1 := Blk.frozen (HB.out.set j (cr (mn t) j)) (j + 1)
                have bn := mn_bound dg.out (j + 1) (by omega)
                have e1 : ce (mn t) j + 65536 = cr (mn t) j := by omega
                have e2 : mn t (j + 1) - 1 = ce (mn t) (j + 1) := by
                  show _ = mn t (j + 1) + cq (mn t) j
                  omega
                have F := Lib.hid (cst_neg HB.out)
                have FK := Lib.hid ((HBK.out.setCell (p := ⟨g5, j, none⟩) (.inl (by simp)) (Value.int .i64 (cr (mn t) j))).setCell (p := ⟨g5, j + 1, none⟩) (.inl (by simp)) (Value.int .i64 (ce (mn t) (j + 1))))
                clear hsp
                generalize ce (mn t) j = E0 at *
                generalize cr (mn t) j = R0 at *
                generalize ce (mn t) (j + 1) = E1 at *
                generalize mn t (j + 1) = M1 at *
                obtain ⟨bj1, bj2⟩ := bj
                obtain ⟨bn1, bn2⟩ := bn
                obtain ⟨hr1, hr2⟩ := hrb
                go_wp2_with fail
                go_roundg (15 - (j + 1))
                case measure => omega
                case rel => exact ⟨j + 1, by omega, by omega, by go_num, F.out, FK.out⟩
              · have F := Lib.hid (HB.out.same fun i _ => cst_pos (show cq (mn t) j = 0 by omega) i)
                clear hsp hrb
                generalize ce (mn t) j = E0 at *
                obtain ⟨bj1, bj2⟩ := bj
                go_wp2_with fail
                go_roundg (15 - (j + 1))
                case measure => omega
                case rel => exact ⟨j + 1, by omega, by omega, by go_num, F.out, HBK.out⟩
            · obtain rfl : j = 15 := by omega
              have cj := HB.out.get 15 (by omega)
              rw [cst_at] at cj
              have H3b := Lib.hid (show Nb wr g3 t from H5.out.kept HBK.out (by simpa using D5.out.1))
              have KK := Lib.hid ((HK.out.then0 D5.out.2.2).then1 HBK.out (Nat.le_trans HK.out.size D5.out.2.1))
              clear HBK
              by_cases hp : 0 ≤ ce (mn t) 15
              · have hls : lsk t0 (k + 1) = cst (mn t) 15 := by rw [hnx.out]; exact if_pos hp
                replace hls := Lib.hid hls
                generalize ce (mn t) 15 = E0 at *
                go_wp2_with (first
                  | (with_reducible refine wpl_load_row (o := ⟨some 58, _, _, _, _, _⟩) arrN.row rfl (.tmp 5) rfl rfl HB.out rfl ?_)
                  | ((with_reducible refine wpl_store_row (o := ⟨none, .store 34 (.tmp 3) (.tmp 58), _, _, _, _⟩) arrN.row rfl (.tmp 3) (.tmp 58) rfl rfl rfl H3b.out rfl rfl (one_nu _) ?_); intro v5 b5 k5))
                go_roundg (2 - (k + 1))
                case measure => omega
                case rel => exact ⟨k + 1, by omega, by omega, by go_num, by rw [hls.out]; exact b5, KK.out.trans k5 (fun _ _ h => h) (fun _ _ h => h)⟩
              · have hls : lsk t0 (k + 1) = t := by rw [hnx.out]; exact if_neg hp
                replace hls := Lib.hid hls
                generalize ce (mn t) 15 = E0 at *
                go_wp2_with fail
                go_roundg (2 - (k + 1))
                case measure => omega
                case rel => exact ⟨k + 1, by omega, by omega, by go_num, by rw [hls.out]; exact H3b.out, KK.out⟩
    · obtain rfl : k = 2 := by omega
      obtain ⟨t, ht⟩ : ∃ t, t = lsk t0 2 := ⟨_, rfl⟩
      rw [← ht] at H dg
      replace ht := Lib.hid ht
      clear hdg H3 hlt hk hf
      go_wp2_with ((with_reducible refine wpl_new (o := ⟨some 8, _, _, _, _, _⟩) rfl rfl zeroB ?_); intro g8 w9 m8)
      have T := Lib.hid (H.out.kept m8.kept (by simp))
      have A0 := Lib.hid (show Blk w9 g8 22 (bv (fam 32 (mix (fun _ => (0 : UInt8)) (pkB t) (2 * 0)))).toArray from by rw [mix_zero]; exact m8.blk)
      have DD := Lib.hid (show g3 ≠ g8 ∧ g2 ≠ g8 ∧ w.heap.size ≤ g8 ∧ Kept [] w w9 from ⟨m8.ne H.out.lt, m8.ne (B2.out.kept HK.out (by simpa using D.out.2.2.1)).lt, Nat.le_trans (K.out.then1 HK.out D.out.2.1).size m8.le, (K.out.then1 HK.out D.out.2.1).then0 m8.kept⟩)
      replace B2 := Lib.hid ((B2.out.kept HK.out (by simpa using D.out.2.2.1)).kept m8.kept (by simp))
      clear m8 H HK
      go_loopg [9] 16 (fun f i wk => ∃ j : Nat, j ≤ 16 ∧ f + j = 16 ∧ i = .int .i64 (j : Int) ∧ Blk wk g8 22 (bv (fam 32 (mix (fun _ => (0 : UInt8)) (pkB t) (2 * j)))).toArray ∧ Kept [g8] w9 wk)
      case atStart => exact ⟨0, Nat.zero_le _, rfl, rfl, A0.out, Kept.refl _ _⟩
      case round =>
        obtain ⟨j, hj, hf3, rfl, hb, hkw⟩ := hrel
        have HB := Lib.hid hb
        have HBK := Lib.hid hkw
        clear hb hkw
        by_cases hlt3 : j < 16
        · have cj := Nb.get (d := t) (T.out.kept HBK.out (by simpa using DD.out.1)) j (by omega)
          have bj := dg.out j (by omega)
          have ev := pkB_even t j bj
          have od := pkB_odd t j bj
          have H1 := Lib.hid (Blk.fstep (v := byteV) HB.out)
          have H2 := Lib.hid (Blk.fstep (v := byteV) H1.out)
          have ce1 := Blk.fget (v := byteV) HB.out (2 * j) (by omega)
          have ce2 := Blk.fget (v := byteV) H1.out (2 * j + 1) (by omega)
          have z1 := Blk.frozen HB.out (2 * j)
          have z2 := Blk.frozen H1.out (2 * j + 1)
          have c2 : (wr.setCell ⟨g8, 2 * j, none⟩ (byteV (pkB t (2 * j)))).cell? ⟨g3, j, none⟩ = some (.int .i64 (t j)) := Nb.get (d := t) ((T.out.kept HBK.out (by simpa using DD.out.1)).kept ((Kept.refl [g8] wr).setCell (p := ⟨g8, 2 * j, none⟩) (.inl (by simp)) _) (by simpa using DD.out.1)) j (by omega)
          have FK := Lib.hid ((HBK.out.setCell (p := ⟨g8, 2 * j, none⟩) (.inl (by simp)) (byteV (pkB t (2 * j)))).setCell (p := ⟨g8, 2 * j + 1, none⟩) (.inl (by simp)) (byteV (pkB t (2 * j + 1))))
          unfold byteV at H2 FK ce2 z2 c2
          rw [ev] at H2 FK ce2 z2 c2
          rw [od] at H2 FK
          generalize t j = T0 at *
          obtain ⟨bj1, bj2⟩ := bj
          clear ev od
          go_wp2_with fail
          go_roundg (16 - (j + 1))
          case measure => omega
          case rel => exact ⟨j + 1, by omega, by omega, by go_num, H2.out, FK.out⟩
        · obtain rfl : j = 16 := by omega
          have HB2 := Lib.hid (show Blk wr g8 22 (bv (fam 32 (pkB t))).toArray from by have := HB.out; rwa [show 2 * 16 = 32 from rfl, mix_full] at this)
          have hlen := Lib.hid (show (bv (fam 32 (pkB t))).length = 32 by rw [bv, List.length_map, fam_len])
          go_wp2_with (first
            | (refine wpl_load_arr arrB rfl (.tmp 8) rfl rfl HB2.out (by simpa using hlen.out) ?_)
            | (refine wpl_store_arr arrB rfl (.tmp 2) (.tmp 80) rfl rfl rfl (B2.out.kept HBK.out (by simpa using DD.out.2.1)) rfl (by simpa using hlen.out) (one_ab _) ?_; intro v2 b2 k2))
          exact ret_arr arrB rfl rfl b2 (by simpa using hlen.out) rfl ⟨by rw [← ht.out], (DD.out.2.2.2.then1 HBK.out DD.out.2.2.1).then1 k2 D.out.1⟩
end Go.Proofs.Ytkflljjcgihaoaa
