/-
  The document's field: carrying digits: the plain law.
  The document's field: carrying digits: the walk.
-/
import Derived.Test.YtkflljjcgihaoaaCu5
namespace Go.Proofs.Ytkflljjcgihaoaa
open Go.RowKit Go.Mem Go.Txt

/-- What comes to digit i; what stays; what goes on. -/
def ce (d : Nat → Int) : Nat → Int
  | 0 => d 0
  | i + 1 => d (i + 1) + ce d i / 65536
def cr (d : Nat → Int) (i : Nat) : Int := ce d i % 65536
def cq (d : Nat → Int) (i : Nat) : Int := ce d i / 65536
/-- After k rounds. -/
def cst (d : Nat → Int) (k i : Nat) : Int := if i < k then cr d i else if i = k then ce d k else d i
/-- All carried. -/
def cy (d : Nat → Int) (i : Nat) : Int := if i = 0 then cr d 0 + 38 * cq d 15 else cr d i
/-- What n digits come to. -/
def dv (d : Nat → Int) : Nat → Int
  | 0 => 0
  | n + 1 => dv d n + d n * 65536 ^ n
theorem dv_ext {d e : Nat → Int} : ∀ n, (∀ i, i < n → d i = e i) → dv d n = dv e n
  | 0, _ => rfl
  | n + 1, h => by rw [dv, dv, dv_ext n fun i hi => h i (by omega), h n (by omega)]
theorem cr_bound (d : Nat → Int) (i : Nat) : 0 ≤ cr d i ∧ cr d i < 65536 := by unfold cr; omega
theorem ce_split (d : Nat → Int) (i : Nat) : ce d i = cr d i + 65536 * cq d i := by unfold cr cq; omega
theorem dv_carry (d : Nat → Int) : ∀ n, dv d (n + 1) = dv (cr d) (n + 1) + cq d n * 65536 ^ (n + 1)
  | 0 => by
    have := ce_split d 0
    simp only [dv, ce] at *
    simp; omega
  | n + 1 => by
    have h := dv_carry d n
    have e := ce_split d (n + 1)
    have e2 : ce d (n + 1) = d (n + 1) + cq d n := rfl
    rw [dv, h, show dv (cr d) (n + 1 + 1) = dv (cr d) (n + 1) + cr d (n + 1) * 65536 ^ (n + 1) from rfl, show d (n + 1) = cr d (n + 1) + 65536 * cq d (n + 1) - cq d n from by omega, Int.pow_succ]
    grind
theorem dv_nat (r : Nat → Int) (h : ∀ i, 0 ≤ r i ∧ r i < 65536) : ∀ n, 0 ≤ dv r n ∧ dv r n < 65536 ^ n
  | 0 => by simp [dv]
  | n + 1 => by
    have ih := dv_nat r h n
    have hr := h n
    have hp : (0 : Int) < 65536 ^ n := Int.pow_pos (by omega)
    rw [dv, Int.pow_succ]
    generalize (65536 : Int) ^ n = B at *
    have h1 : 0 ≤ r n * B := Int.mul_nonneg hr.1 (by omega)
    have h2 : r n * B ≤ 65535 * B := Int.mul_le_mul_of_nonneg_right (by omega) (by omega)
    constructor <;> omega
/-- A sum's digits above n. -/
theorem dv_split (r : Nat → Int) (n : Nat) : ∀ m, dv r (n + m) = dv r n + 65536 ^ n * dv (fun j => r (n + j)) m
  | 0 => by simp [dv]
  | m + 1 => by
    rw [show n + (m + 1) = (n + m) + 1 from rfl, dv, dv_split r n m, dv, Int.pow_add]
    grind
theorem dv_digit (r : Nat → Int) (h : ∀ i, 0 ≤ r i ∧ r i < 65536) (n i : Nat) (hi : i < n) : dv r n / 65536 ^ i % 65536 = r i := by
  obtain ⟨m, rfl⟩ : ∃ m, n = i + (1 + m) := ⟨n - i - 1, by omega⟩
  have hb := dv_nat r h i
  have hp : (0 : Int) < 65536 ^ i := Int.pow_pos (by omega)
  have e : dv (fun j => r (i + j)) (1 + m) = r i + 65536 * dv (fun j => r (i + (1 + j))) m := by
    rw [dv_split (fun j => r (i + j)) 1 m]
    simp [dv]
  rw [dv_split r i (1 + m), Int.add_mul_ediv_left _ _ (by omega), Int.ediv_eq_zero_of_lt hb.1 hb.2, Int.zero_add, e, Int.add_mul_emod_self_left]
  exact Int.emod_eq_of_lt (h i).1 (h i).2
def B16 : Int := 115792089237316195423570985008687907853269984665640564039457584007913129639936
theorem B16_eq : (65536 : Int) ^ 16 = B16 := by decide +kernel
theorem dv_cy (d : Nat → Int) : dv (cy d) 16 = dv d 16 % B16 + 38 * (dv d 16 / B16) := by
  have h := dv_carry d 15
  have hb := dv_nat (cr d) (cr_bound d) 16
  rw [B16_eq] at h hb
  have hB : (0 : Int) < B16 := by decide
  have e1 : dv d 16 / B16 = cq d 15 := by
    rw [h, Int.add_mul_ediv_right _ _ (by omega), Int.ediv_eq_zero_of_lt hb.1 hb.2, Int.zero_add]
  have e2 : dv d 16 % B16 = dv (cr d) 16 := by
    rw [h, Int.add_mul_emod_self_right]
    exact Int.emod_eq_of_lt hb.1 hb.2
  rw [e1, e2]
  have hs := dv_split (cy d) 1 15
  have hs2 := dv_split (cr d) 1 15
  have e3 : dv (fun j => cy d (1 + j)) 15 = dv (fun j => cr d (1 + j)) 15 := dv_ext 15 fun i _ => by unfold cy; rw [if_neg (by omega)]
  rw [e3] at hs
  have e4 : dv (cy d) 1 = cr d 0 + 38 * cq d 15 := by simp [dv, cy]
  have e5 : dv (cr d) 1 = cr d 0 := by simp [dv]
  rw [show (16 : Nat) = 1 + 15 from rfl, hs, hs2, e4, e5]
  omega
/-- Digits of at most M. -/
def Sm (M : Int) (d : Nat → Int) : Prop := ∀ i, i < 16 → -M ≤ d i ∧ d i ≤ M
theorem ce_bound {d : Nat → Int} (h : Sm 4611686018427387904 d) : ∀ i, i < 16 → -4611826755915743232 ≤ ce d i ∧ ce d i ≤ 4611826755915743232
  | 0, _ => by have := h 0 (by omega); simp only [ce]; omega
  | i + 1, hi => by
    have h1 := ce_bound h i (by omega)
    have h2 := h (i + 1) hi
    simp only [ce]
    omega
theorem cy_small {d : Nat → Int} (h : Sm 4611686018427387904 d) : Sm 2674136093360128 (cy d) := by
  intro i hi
  have hc := ce_bound h 15 (by omega)
  have h0 := cr_bound d 0
  have h1 := cr_bound d i
  unfold cy cq
  split <;> omega
end Go.Proofs.Ytkflljjcgihaoaa

namespace Go.Proofs.Ytkflljjcgihaoaa
open Go.RowKit Go.Mem Go.Txt

/-- Sixteen digits. -/
abbrev nu (d : Nat → Int) : Value := .agg (iv (fam 16 d)).toArray
def zd (_ : Nat) : Int := 0
theorem arrN : ArrT Try.prog 34 2 16 := ⟨Try.underlying34, by kernel_rfl⟩
theorem zeroN : (Try.prog.info? 34).map (·.zero) = some (some (nu zd)) := by kernel_rfl
theorem one_nu (d : Nat → Int) : (iv (fam 16 d)).toArray.all (·.oneCell') = true := by
  rw [Array.all_eq_true_iff_forall_mem]
  intro v hv
  exact one_iv _ v (by simpa using hv)
abbrev Nb (u : World) (g : Nat) (d : Nat → Int) : Prop := Blk u g 34 (iv (fam 16 d)).toArray
theorem Nb.get {u : World} {g : Nat} {d : Nat → Int} (h : Nb u g d) (i : Nat) (hi : i < 16) : u.cell? ⟨g, i, none⟩ = some (.int .i64 (d i)) := Blk.fget (v := fun z : Int => Value.int .i64 z) h i hi
theorem Nb.set {u : World} {g : Nat} {d : Nat → Int} (h : Nb u g d) (i : Nat) (x : Int) : Nb (u.setCell ⟨g, i, none⟩ (.int .i64 x)) g (fun j => if j = i then x else d j) := Blk.fset (v := fun z : Int => Value.int .i64 z) h i x
theorem Nb.same {u : World} {g : Nat} {d e : Nat → Int} (h : Nb u g d) (he : ∀ i, i < 16 → d i = e i) : Nb u g e := by
  have := fam_ext 16 he
  unfold Nb at h ⊢
  rwa [this] at h
/-- Where it stands after k rounds. -/
def cw (d : Nat → Int) (k : Nat) : Nat → Int := if k = 16 then cy d else cst d k
theorem cw_at (d : Nat → Int) (k : Nat) (h : k < 16) : cw d k k = ce d k := by
  unfold cw cst
  rw [if_neg (by omega), if_neg (by omega), if_pos rfl]
theorem cw_next (d : Nat → Int) (k : Nat) (h : k < 15) : cw d k (k + 1) = d (k + 1) := by
  unfold cw cst
  rw [if_neg (by omega), if_neg (by omega), if_neg (by omega)]
theorem cw_zero (d : Nat → Int) (i : Nat) : cw d 0 i = d i := by
  unfold cw cst
  rw [if_neg (by omega), if_neg (by omega)]
  split
  · rename_i h; subst h; rfl
  · rfl
theorem cw_first (d : Nat → Int) (k : Nat) (h0 : 0 < k) (h : k < 16) : cw d k 0 = cr d 0 := by
  unfold cw cst
  rw [if_neg (by omega), if_pos h0]
theorem cw_step {u : World} {g : Nat} {d : Nat → Int} {k : Nat} {y : Int} (h : Nb u g (cw d k)) (hk : k < 15) : Nb (((u.setCell ⟨g, k, none⟩ (.int .i64 y)).setCell ⟨g, k, none⟩ (.int .i64 (cr d k))).setCell ⟨g, k + 1, none⟩ (.int .i64 (ce d (k + 1)))) g (cw d (k + 1)) := by
  refine (((Nb.set h k y).set k (cr d k)).set (k + 1) (ce d (k + 1))).same fun i _ => ?_
  unfold cw cst
  rw [if_neg (show ¬ k = 16 by omega), if_neg (show ¬ k + 1 = 16 by omega)]
  by_cases h1 : i = k + 1
  · subst h1; rw [if_pos rfl, if_neg (by omega), if_pos rfl]
  · rw [if_neg h1]
    by_cases h2 : i = k
    · rw [if_pos h2, if_pos (by omega), h2]
    · rw [if_neg h2, if_neg h2, if_neg h2]
      by_cases h3 : i < k
      · rw [if_pos h3, if_pos (by omega)]
      · rw [if_neg h3, if_neg (by omega), if_neg h1]
theorem cw_last {u : World} {g : Nat} {d : Nat → Int} {y : Int} (h : Nb u g (cw d 15)) : Nb (((u.setCell ⟨g, 15, none⟩ (.int .i64 y)).setCell ⟨g, 15, none⟩ (.int .i64 (cr d 15))).setCell ⟨g, 0, none⟩ (.int .i64 (cr d 0 + 38 * cq d 15))) g (cw d 16) := by
  refine (((Nb.set h 15 y).set 15 (cr d 15)).set 0 (cr d 0 + 38 * cq d 15)).same fun i hi => ?_
  unfold cw cst
  rw [if_neg (show ¬ 15 = 16 by omega), if_pos rfl]
  unfold cy
  by_cases h1 : i = 0
  · rw [if_pos h1, if_pos h1]
  · rw [if_neg h1, if_neg h1]
    by_cases h2 : i = 15
    · rw [if_pos h2, h2]
    · rw [if_neg h2, if_neg h2, if_pos (by omega)]

theorem tdiv_neg (e : Int) (h : e < 0) : e.tdiv 65536 = -((-e) / 65536) := by
  obtain ⟨a, rfl⟩ : ∃ a, e = -a := ⟨-e, by omega⟩
  rw [Int.neg_tdiv, Int.tdiv_eq_ediv_of_nonneg (by omega), Int.neg_neg]
theorem tmod_neg (e : Int) (h : e < 0) : e.tmod 65536 = e + 65536 * ((-e) / 65536) := by
  rw [Int.tmod_def, tdiv_neg e h]
  omega
theorem cw_lastk {u : World} {g : Nat} {d : Nat → Int} {y : Int} {k : Nat} (hk : k = 15) (h : Nb u g (cw d k)) : Nb (((u.setCell ⟨g, k, none⟩ (.int .i64 y)).setCell ⟨g, k, none⟩ (.int .i64 (cr d k))).setCell ⟨g, 0, none⟩ (.int .i64 (cr d 0 + 38 * cq d k))) g (cw d (k + 1)) := by
  subst hk; exact cw_last h

set_option maxRecDepth 100000 in
set_option maxHeartbeats 4000000 in
theorem carry_any (d : Nat → Int) (hd : Sm 4611686018427387904 d) (w : World) :
    Calls Try.prog 77 #[nu d] w fun e w' => e = .returned (nu (cy d)) ∧ Kept [] w w' := by
  have hb := Lib.hid (ce_bound hd)
  have hs := Lib.hid hd
  clear hd
  go_enter Try.func77, Try.ntmps77
  go_wp2_with (first
    | ((with_reducible refine wpl_box (o := ⟨some 1, _, _, _, _, _⟩) (v := nu d) rfl (.tmp 0) rfl rfl ?_); intro g1 w1 m1)
    | ((with_reducible refine wpl_new (o := ⟨some 2, _, _, _, _, _⟩) rfl rfl zeroN ?_); intro g2 w2 m2))
  have H0 := Lib.hid (Nb.same (m1.blk.kept m2.kept (by simp)) (e := cw d 0) fun i _ => (cw_zero d i).symm)
  have B2 := Lib.hid m2.blk
  have D := Lib.hid (show g1 ≠ g2 ∧ w.heap.size ≤ g1 ∧ w.heap.size ≤ g2 ∧ Kept [] w w2 from ⟨m2.ne m1.blk.lt, m1.le, Nat.le_trans m1.kept.size m2.le, m1.kept.then0 m2.kept⟩)
  clear m1 m2
  go_loopg [3] 16 (fun f i wk => ∃ k : Nat, k ≤ 16 ∧ f + k = 16 ∧ i = .int .i64 k ∧ Nb wk g1 (cw d k) ∧ Kept [g1] w2 wk)
  case atStart => exact ⟨0, Nat.zero_le _, rfl, rfl, H0.out, Kept.refl _ _⟩
  case round =>
    obtain ⟨k, hk, hf, rfl, hb1, hkw⟩ := hrel
    have H := Lib.hid hb1
    have HK := Lib.hid hkw
    clear hb1 hkw
    by_cases hlt : k < 16
    · have c0 := H.out.get k hlt
      rw [cw_at d k hlt] at c0
      have z0 := Blk.frozen H.out k
      have hfin := H.out
      obtain ⟨E, hE⟩ : ∃ E, E = ce d k := ⟨_, rfl⟩
      obtain ⟨q, hq⟩ : ∃ q, q = cq d k := ⟨_, rfl⟩
      obtain ⟨r, hr⟩ : ∃ r, r = cr d k := ⟨_, rfl⟩
      rw [← hE] at c0
      have hEb := hb.out k hlt
      rw [← hE] at hEb
      have hsp := ce_split d k
      have hrb := cr_bound d k
      rw [← hE, ← hq, ← hr] at hsp
      rw [← hr] at hrb
      obtain ⟨e, he⟩ : ∃ e, e = E + 65536 := ⟨_, rfl⟩
      obtain ⟨c, hc⟩ : ∃ c, c = q + 1 := ⟨_, rfl⟩
      have he2 : E + 65536 = e := he.symm
      have hr2 : e - c * 65536 = r := by omega
      have hcb : -70371329040000 ≤ c - 1 ∧ c - 1 ≤ 70371329040000 := by omega
      obtain ⟨hcb1, hcb2⟩ := hcb
      obtain ⟨hEb1, hEb2⟩ := hEb
      have heb : -4611826755915743232 ≤ e ∧ e ≤ 4611826755915808768 := by omega
      obtain ⟨heb1, heb2⟩ := heb
      have Q := Lib.hid (And.intro hE (And.intro hq (And.intro hr hc)))
      clear hE hq hr he hc hsp hrb
      have rc : 0 ≤ r ∧ r < 65536 := by have h := cr_bound d k; rw [← Q.out.2.2.1] at h; exact h
      by_cases hneg : e < 0
      · have ht0 := tdiv_neg e hneg
        have hm0 := tmod_neg e hneg
        by_cases hr0 : r = 0
        · have ht : e.tdiv 65536 = c := by omega
          have hm : e.tmod 65536 = 0 := by omega
          clear ht0 hm0 hr0
          obtain ⟨rc1, rc2⟩ := rc
          by_cases hk5 : k < 15
          · have n1 := ((Nb.set hfin k e).set k r).get (k + 1) (by omega)
            rw [if_neg (by omega), if_neg (by omega), cw_next d k hk5] at n1
            have z1 := Blk.frozen ((Nb.set hfin k e).set k r) (k + 1)
            have hD := hs.out (k + 1) (by omega)
            obtain ⟨E1, hE1⟩ : ∃ x, x = ce d (k + 1) := ⟨_, rfl⟩
            have hE1b := hb.out (k + 1) (by omega)
            rw [← hE1] at hE1b
            have hst : d (k + 1) + (c - 1) = E1 := by
              rw [hE1, Q.out.2.2.2, Q.out.2.1]
              show _ = d (k + 1) + cq d k
              omega
            have F := Lib.hid (show Nb (((wr.setCell ⟨g1, k, none⟩ (.int .i64 e)).setCell ⟨g1, k, none⟩ (.int .i64 r)).setCell ⟨g1, k + 1, none⟩ (.int .i64 E1)) g1 (cw d (k + 1)) from by
              rw [hE1, Q.out.2.2.1]; exact cw_step hfin hk5)
            have FK := Lib.hid (((HK.out.setCell (p := ⟨g1, k, none⟩) (.inl (by simp)) (Value.int .i64 e)).setCell (p := ⟨g1, k, none⟩) (.inl (by simp)) (Value.int .i64 r)).setCell (p := ⟨g1, k + 1, none⟩) (.inl (by simp)) (Value.int .i64 E1))
            generalize d (k + 1) = D1 at *
            obtain ⟨hD1, hD2⟩ := hD
            obtain ⟨hE1b1, hE1b2⟩ := hE1b
            replace hE1 := Lib.hid hE1
            clear hfin
            go_wp2_with fail
            go_roundg (16 - (k + 1))
            case measure => omega
            case rel => exact ⟨k + 1, by omega, by omega, by go_num, F.out, FK.out⟩
          · have hk15 : k = 15 := by omega
            have n1 := ((Nb.set hfin k e).set k r).get 0 (by omega)
            rw [if_neg (by omega), if_neg (by omega), cw_first d k (by omega) hlt] at n1
            have z1 := Blk.frozen ((Nb.set hfin k e).set k r) 0
            have hr0b := cr_bound d 0
            obtain ⟨E1, hE1⟩ : ∃ x, x = cr d 0 + 38 * cq d k := ⟨_, rfl⟩
            have hst : cr d 0 + 38 * (c - 1) = E1 := by
              rw [hE1, Q.out.2.2.2, Q.out.2.1]
              omega
            have hE1b : -9000000000000000 ≤ E1 ∧ E1 ≤ 9000000000000000 := by omega
            have F := Lib.hid (show Nb (((wr.setCell ⟨g1, k, none⟩ (.int .i64 e)).setCell ⟨g1, k, none⟩ (.int .i64 r)).setCell ⟨g1, 0, none⟩ (.int .i64 E1)) g1 (cw d (k + 1)) from by
              rw [hE1, Q.out.2.2.1]; exact cw_lastk hk15 hfin)
            have FK := Lib.hid (((HK.out.setCell (p := ⟨g1, k, none⟩) (.inl (by simp)) (Value.int .i64 e)).setCell (p := ⟨g1, k, none⟩) (.inl (by simp)) (Value.int .i64 r)).setCell (p := ⟨g1, 0, none⟩) (.inl (by simp)) (Value.int .i64 E1))
            generalize cr d 0 = D1 at *
            obtain ⟨hD1, hD2⟩ := hr0b
            obtain ⟨hE1b1, hE1b2⟩ := hE1b
            replace hE1 := Lib.hid hE1
            replace hk15 := Lib.hid hk15
            clear hfin
            go_wp2_with fail
            go_roundg (16 - (k + 1))
            case measure => omega
            case rel => exact ⟨k + 1, by omega, by omega, by go_num, F.out, FK.out⟩
        · have ht : e.tdiv 65536 = c + 1 := by omega
          have hm : (e.tmod 65536 != 0) = true := by rw [hm0]; simp; omega
          have hc1 : c + 1 - 1 = c := by omega
          clear ht0 hm0 hr0
          obtain ⟨rc1, rc2⟩ := rc
          by_cases hk5 : k < 15
          · have n1 := ((Nb.set hfin k e).set k r).get (k + 1) (by omega)
            rw [if_neg (by omega), if_neg (by omega), cw_next d k hk5] at n1
            have z1 := Blk.frozen ((Nb.set hfin k e).set k r) (k + 1)
            have hD := hs.out (k + 1) (by omega)
            obtain ⟨E1, hE1⟩ : ∃ x, x = ce d (k + 1) := ⟨_, rfl⟩
            have hE1b := hb.out (k + 1) (by omega)
            rw [← hE1] at hE1b
            have hst : d (k + 1) + (c - 1) = E1 := by
              rw [hE1, Q.out.2.2.2, Q.out.2.1]
              show _ = d (k + 1) + cq d k
              omega
            have F := Lib.hid (show Nb (((wr.setCell ⟨g1, k, none⟩ (.int .i64 e)).setCell ⟨g1, k, none⟩ (.int .i64 r)).setCell ⟨g1, k + 1, none⟩ (.int .i64 E1)) g1 (cw d (k + 1)) from by
              rw [hE1, Q.out.2.2.1]; exact cw_step hfin hk5)
            have FK := Lib.hid (((HK.out.setCell (p := ⟨g1, k, none⟩) (.inl (by simp)) (Value.int .i64 e)).setCell (p := ⟨g1, k, none⟩) (.inl (by simp)) (Value.int .i64 r)).setCell (p := ⟨g1, k + 1, none⟩) (.inl (by simp)) (Value.int .i64 E1))
            generalize d (k + 1) = D1 at *
            obtain ⟨hD1, hD2⟩ := hD
            obtain ⟨hE1b1, hE1b2⟩ := hE1b
            replace hE1 := Lib.hid hE1
            clear hfin
            go_wp2_with fail
            go_roundg (16 - (k + 1))
            case measure => omega
            case rel => exact ⟨k + 1, by omega, by omega, by go_num, F.out, FK.out⟩
          · have hk15 : k = 15 := by omega
            have n1 := ((Nb.set hfin k e).set k r).get 0 (by omega)
            rw [if_neg (by omega), if_neg (by omega), cw_first d k (by omega) hlt] at n1
            have z1 := Blk.frozen ((Nb.set hfin k e).set k r) 0
            have hr0b := cr_bound d 0
            obtain ⟨E1, hE1⟩ : ∃ x, x = cr d 0 + 38 * cq d k := ⟨_, rfl⟩
            have hst : cr d 0 + 38 * (c - 1) = E1 := by
              rw [hE1, Q.out.2.2.2, Q.out.2.1]
              omega
            have hE1b : -9000000000000000 ≤ E1 ∧ E1 ≤ 9000000000000000 := by omega
            have F := Lib.hid (show Nb (((wr.setCell ⟨g1, k, none⟩ (.int .i64 e)).setCell ⟨g1, k, none⟩ (.int .i64 r)).setCell ⟨g1, 0, none⟩ (.int .i64 E1)) g1 (cw d (k + 1)) from by
              rw [hE1, Q.out.2.2.1]; exact cw_lastk hk15 hfin)
            have FK := Lib.hid (((HK.out.setCell (p := ⟨g1, k, none⟩) (.inl (by simp)) (Value.int .i64 e)).setCell (p := ⟨g1, k, none⟩) (.inl (by simp)) (Value.int .i64 r)).setCell (p := ⟨g1, 0, none⟩) (.inl (by simp)) (Value.int .i64 E1))
            generalize cr d 0 = D1 at *
            obtain ⟨hD1, hD2⟩ := hr0b
            obtain ⟨hE1b1, hE1b2⟩ := hE1b
            replace hE1 := Lib.hid hE1
            replace hk15 := Lib.hid hk15
            clear hfin
            go_wp2_with fail
            go_roundg (16 - (k + 1))
            case measure => omega
            case rel => exact ⟨k + 1, by omega, by omega, by go_num, F.out, FK.out⟩
      · have hdiv : e / 65536 = c := by omega
        clear rc
        by_cases hk5 : k < 15
        · have n1 := ((Nb.set hfin k e).set k r).get (k + 1) (by omega)
          rw [if_neg (by omega), if_neg (by omega), cw_next d k hk5] at n1
          have z1 := Blk.frozen ((Nb.set hfin k e).set k r) (k + 1)
          have hD := hs.out (k + 1) (by omega)
          obtain ⟨E1, hE1⟩ : ∃ x, x = ce d (k + 1) := ⟨_, rfl⟩
          have hE1b := hb.out (k + 1) (by omega)
          rw [← hE1] at hE1b
          have hst : d (k + 1) + (c - 1) = E1 := by
            rw [hE1, Q.out.2.2.2, Q.out.2.1]
            show _ = d (k + 1) + cq d k
            omega
          have F := Lib.hid (show Nb (((wr.setCell ⟨g1, k, none⟩ (.int .i64 e)).setCell ⟨g1, k, none⟩ (.int .i64 r)).setCell ⟨g1, k + 1, none⟩ (.int .i64 E1)) g1 (cw d (k + 1)) from by
            rw [hE1, Q.out.2.2.1]; exact cw_step hfin hk5)
          have FK := Lib.hid (((HK.out.setCell (p := ⟨g1, k, none⟩) (.inl (by simp)) (Value.int .i64 e)).setCell (p := ⟨g1, k, none⟩) (.inl (by simp)) (Value.int .i64 r)).setCell (p := ⟨g1, k + 1, none⟩) (.inl (by simp)) (Value.int .i64 E1))
          generalize d (k + 1) = D1 at *
          obtain ⟨hD1, hD2⟩ := hD
          obtain ⟨hE1b1, hE1b2⟩ := hE1b
          replace hE1 := Lib.hid hE1
          clear hfin
          go_wp2_with fail
          go_roundg (16 - (k + 1))
          case measure => omega
          case rel => exact ⟨k + 1, by omega, by omega, by go_num, F.out, FK.out⟩
        · have hk15 : k = 15 := by omega
          have n1 := ((Nb.set hfin k e).set k r).get 0 (by omega)
          rw [if_neg (by omega), if_neg (by omega), cw_first d k (by omega) hlt] at n1
          have z1 := Blk.frozen ((Nb.set hfin k e).set k r) 0
          have hr0b := cr_bound d 0
          obtain ⟨E1, hE1⟩ : ∃ x, x = cr d 0 + 38 * cq d k := ⟨_, rfl⟩
          have hst : cr d 0 + 38 * (c - 1) = E1 := by
            rw [hE1, Q.out.2.2.2, Q.out.2.1]
            omega
          have hE1b : -9000000000000000 ≤ E1 ∧ E1 ≤ 9000000000000000 := by omega
          have F := Lib.hid (show Nb (((wr.setCell ⟨g1, k, none⟩ (.int .i64 e)).setCell ⟨g1, k, none⟩ (.int .i64 r)).setCell ⟨g1, 0, none⟩ (.int .i64 E1)) g1 (cw d (k + 1)) from by
            rw [hE1, Q.out.2.2.1]; exact cw_lastk hk15 hfin)
          have FK := Lib.hid (((HK.out.setCell (p := ⟨g1, k, none⟩) (.inl (by simp)) (Value.int .i64 e)).setCell (p := ⟨g1, k, none⟩) (.inl (by simp)) (Value.int .i64 r)).setCell (p := ⟨g1, 0, none⟩) (.inl (by simp)) (Value.int .i64 E1))
          generalize cr d 0 = D1 at *
          obtain ⟨hD1, hD2⟩ := hr0b
          obtain ⟨hE1b1, hE1b2⟩ := hE1b
          replace hE1 := Lib.hid hE1
          replace hk15 := Lib.hid hk15
          clear hfin
          go_wp2_with fail
          go_roundg (16 - (k + 1))
          case measure => omega
          case rel => exact ⟨k + 1, by omega, by omega, by go_num, F.out, FK.out⟩
    · obtain rfl : k = 16 := by omega
      have H1 := Lib.hid (show Nb wr g1 (cy d) from H.out)
      go_wp2_with (first
        | (with_reducible refine wpl_load_row (o := ⟨some 55, _, _, _, _, _⟩) arrN.row rfl (.tmp 1) rfl rfl H1.out rfl ?_)
        | ((with_reducible refine wpl_store_row (o := ⟨none, .store 34 (.tmp 2) (.tmp 55), _, _, _, _⟩) arrN.row rfl (.tmp 2) (.tmp 55) rfl rfl rfl (B2.out.kept HK.out (by have := D.out.1; simpa using Ne.symm this)) rfl rfl (one_nu _) ?_); intro v2 b2 k2))
      exact ret_row arrN.row rfl rfl b2 rfl rfl ⟨rfl, (D.out.2.2.2.then1 HK.out D.out.2.1).then1 k2 D.out.2.2.1⟩
end Go.Proofs.Ytkflljjcgihaoaa
