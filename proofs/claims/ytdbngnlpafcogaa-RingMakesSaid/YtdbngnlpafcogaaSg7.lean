/-
  The sign: what is signed is right; what is not.
-/
import Derived.Test.YtdbngnlpafcogaaSg6
namespace Go.Proofs.Ytdbngnlpafcogaa
open Go.RowKit Go.Mem Go.Txt

theorem leV_set : ∀ (l : List UInt8) (i : Nat) (b : UInt8), i < l.length → leV (l.set i b) + (l.getD i 0).toNat * 256 ^ i = leV l + b.toNat * 256 ^ i
  | [], _, _, h => absurd h (by simp)
  | a :: l, 0, b, _ => by simp [leV]; omega
  | a :: l, i + 1, b, h => by
    have ih := leV_set l i b (by simpa using h)
    rw [List.set_cons_succ, leV, leV, List.getD_cons_succ, Nat.pow_succ, ← Nat.mul_assoc, ← Nat.mul_assoc]
    omega
theorem cancel_mod {r x y L : Nat} (hL : 0 < L) (h : (r + x) % L = (r + y) % L) : x % L = y % L := by
  have hc : r ≤ L * r := Nat.le_mul_of_pos_left r hL
  have e : ∀ z, z % L = ((r + z) % L + (L * r - r) % L) % L := fun z => by
    rw [← Nat.add_mod, show r + z + (L * r - r) = z + L * r from by omega, Nat.add_mul_mod_self_left]
  rw [e x, e y, h]
/-- A seed's number. -/
def numV (bs : List UInt8) : Nat := leV (numS bs)
theorem lowB_mod (a : UInt8) : (lowB a).toNat % 8 = 0 := by
  have h := UInt8.toNat_lt a
  unfold lowB
  rw [UInt8.toNat_ofNat_of_lt' (by show a.toNat - a.toNat % 8 < 256; omega)]
  omega
theorem topB_rng (a : UInt8) : 64 ≤ (topB a).toNat ∧ (topB a).toNat < 128 := by
  have h := UInt8.toNat_lt a
  unfold topB
  rw [UInt8.toNat_ofNat_of_lt' (by show a.toNat % 64 + 64 < 256; omega)]
  omega
theorem clamp_v (s : List UInt8) (h : 32 ≤ s.length) : leV (clampB s) % 8 = 0 ∧ 0 < leV (clampB s) ∧ leV (clampB s) < 2 ^ 255 := by
  have hl := clamp_len s h
  obtain ⟨z, hz, h8⟩ : ∃ z, clampB s = lowB (s.getD 0 0) :: z ∧ True := by
    unfold clampB
    cases hs : s.take 32 with
    | nil =>
      have := congrArg List.length hs
      rw [List.length_take] at this
      simp at this
      subst this
      simp at h
    | cons a l => exact ⟨_, rfl, trivial⟩
  have e1 : leV (clampB s) = (lowB (s.getD 0 0)).toNat + 256 * leV z := by rw [hz, leV]
  have m8 := lowB_mod (s.getD 0 0)
  have hsn : clampB s = (clampB s).take 31 ++ [topB (s.getD 31 0)] := by
    conv => lhs; rw [← List.take_append_drop 31 (clampB s)]
    congr 1
    rw [List.drop_eq_getElem_cons (by rw [hl]; decide), List.drop_eq_nil_of_le (by rw [hl]; decide)]
    congr 1
    unfold clampB
    simp
  have h31 : ((clampB s).take 31).length = 31 := by simp [hl]
  have e2 : leV (clampB s) = leV ((clampB s).take 31) + (topB (s.getD 31 0)).toNat * 256 ^ 31 := by
    conv => lhs; rw [hsn, leV_snoc, h31]
  have hlt := leV_lt ((clampB s).take 31)
  rw [h31] at hlt
  have ht := topB_rng (s.getD 31 0)
  have h255 : (2 : Nat) ^ 255 = 128 * 256 ^ 31 := by decide +kernel
  have hp : 0 < (256 : Nat) ^ 31 := Nat.pow_pos (by decide)
  rw [h255]
  generalize (256 : Nat) ^ 31 = Q at *
  generalize (topB (s.getD 31 0)).toNat = T at *
  generalize leV ((clampB s).take 31) = V at *
  have g1 := Nat.mul_le_mul_right Q ht.1
  have g2 := Nat.mul_le_mul_right Q (show T + 1 ≤ 128 by omega)
  rw [Nat.add_mul] at g2
  refine ⟨by omega, by omega, by omega⟩
theorem numV_v (bs : List UInt8) : numV bs % 8 = 0 ∧ 0 < numV bs ∧ numV bs < 2 ^ 255 := clamp_v _ (by rw [Q.sha_len]; decide)
/-- A seed's point. -/
noncomputable def ptS (bs : List UInt8) : Ed.Pt := Ed.Pt.mul (numV bs) BB
theorem ptS_big (bs : List UInt8) : Ed.Pt.mul 8 (ptS bs) ≠ Ed.Pt.zero := by
  intro e
  unfold ptS at e
  rw [← Ed.Pt.mul_mul] at e
  have hd := ord_B e
  obtain ⟨h8, h0, hlt⟩ := numV_v bs
  have hnd : ¬ LL ∣ 8 := by decide +kernel
  have ha : LL ∣ numV bs := (Nt.Pr.euclid pr_LL hd).elim id (fun h => absurd h hnd)
  have hc : Nat.Coprime LL 8 := by show Nat.gcd LL 8 = 1; decide +kernel
  have := Nat.le_of_dvd h0 (Nat.Coprime.mul_dvd_of_dvd_of_dvd hc ha (Nat.dvd_of_mod_eq_zero h8))
  have hb : 2 ^ 255 < LL * 8 := by decide +kernel
  omega
theorem RS_eq (bs m : List UInt8) : RS bs m = le (enc (Ed.Pt.mul (rS bs m) BB)) 32 := by unfold RS encS; rw [show leV (le (rS bs m) 32) = rS bs m from numQ_T _]
theorem sS_lt (bs m : List UInt8) : sS bs m < LL := Nat.mod_lt _ (by decide +kernel)
theorem sS_T (bs m : List UInt8) : leV (le (sS bs m) 32) = sS bs m := by
  rw [leV_le, Nat.mod_eq_of_lt (Nat.lt_trans (sS_lt bs m) (show LL < 2 ^ (8 * 32) by decide +kernel))]
theorem RS_len (bs m : List UInt8) : (RS bs m).length = 32 := encS_len _
theorem sig_take (bs m t : List UInt8) : (RS bs m ++ t).take 32 = RS bs m := by rw [← RS_len bs m]; simp
theorem sig_drop (bs m t : List UInt8) : (RS bs m ++ t).drop 32 = t := by rw [← RS_len bs m]; simp
theorem sig_len (bs m : List UInt8) : (signB bs m).length = 64 := by
  have := RS_len bs m
  have := le_len (sS bs m) 32
  unfold signB
  rw [List.length_append]
  show (RS bs m).length + (le (sS bs m) 32).length = 64
  omega
theorem sS_mul (bs m : List UInt8) : Ed.Pt.mul (sS bs m) BB = Ed.Pt.mul (rS bs m) BB + Ed.Pt.mul (hS bs m) (ptS bs) := by
  have e : sS bs m = (rS bs m + numV bs * hS bs m) % LL := by
    unfold sS numV
    rw [zleV, zLL, Nat.add_mod_mod, ← Nat.add_mod_mod (rS bs m), Nat.mul_mod_mod, Nat.add_mod_mod, Nat.mul_comm]
  rw [e, ← Ed.Pt.mul_mod BB order_B, Ed.Pt.mul_add, Ed.Pt.mul_mul]
  rfl
theorem key_ok (bs : List UInt8) : le (enc (ptS bs)) 32 = encS (numS bs) := rfl
/-- What Sign says is right. -/
theorem sign_ok (bs m : List UInt8) : okV (encS (numS bs)) (signB bs m) m = true := by
  refine okV_true (P := ptS bs) ⟨key_ok bs, ptS_big bs, ?_, ?_⟩
  · unfold signB
    rw [sig_drop, sS_T]
    exact sS_lt bs m
  · unfold signB
    rw [sig_drop, sig_take, sS_T, sS_mul, Ed.Pt.mul_neg, show numQ (RS bs m ++ (encS (numS bs) ++ m)) = hS bs m from rfl, Ed.Pt.assoc, Ed.Pt.add_neg, Ed.Pt.add_zero, RS_eq]
/-- What was signed is not right for another number of the digest. -/
theorem sign_no {bs m m2 : List UInt8} (h : numQ (RS bs m ++ (encS (numS bs) ++ m2)) * (numV bs % LL) % LL ≠ hS bs m * (numV bs % LL) % LL) : okV (encS (numS bs)) (signB bs m) m2 = false := by
  refine Bool.eq_false_iff.2 fun ht => h ?_
  have := ((okV_iff (key_ok bs)).1 ht).eq
  unfold signB at this
  rw [sig_drop, sig_take, sS_T, RS_eq, sS_mul, ← RS_eq, Ed.Pt.mul_neg] at this
  generalize numQ (RS bs m ++ (encS (numS bs) ++ m2)) = k at *
  have e := le_enc_inj (this.trans (RS_eq bs m))
  have e2 : Ed.Pt.mul (rS bs m) BB + Ed.Pt.mul (hS bs m) (ptS bs) = Ed.Pt.mul (rS bs m) BB + Ed.Pt.mul k (ptS bs) := by
    have := congrArg (fun z => z + Ed.Pt.mul k (ptS bs)) e
    rwa [Ed.Pt.assoc, Ed.Pt.comm _ (Ed.Pt.mul k (ptS bs)), Ed.Pt.add_neg, Ed.Pt.add_zero] at this
  unfold ptS at e2
  rw [← Ed.Pt.mul_mul, ← Ed.Pt.mul_mul, ← Ed.Pt.mul_add, ← Ed.Pt.mul_add] at e2
  have e3 := mul_inj e2
  have hp : 0 < LL := by decide +kernel
  have e4 := cancel_mod hp e3
  rw [Nat.mul_mod_mod, Nat.mul_mod_mod, Nat.mul_comm k, Nat.mul_comm (hS bs m), e4]
/-- .. nor is it with another number. -/
theorem sign_not {bs m t : List UInt8} (h : leV t ≠ sS bs m) : okV (encS (numS bs)) (RS bs m ++ t) m = false := by
  refine Bool.eq_false_iff.2 fun ht => h ?_
  have hk := (okV_iff (key_ok bs)).1 ht
  have hlt := hk.lt
  have := hk.eq
  rw [sig_drop] at hlt
  rw [sig_drop, sig_take, RS_eq, ← RS_eq, Ed.Pt.mul_neg, show numQ (RS bs m ++ (encS (numS bs) ++ m)) = hS bs m from rfl] at this
  have e := le_enc_inj (this.trans (RS_eq bs m))
  have e2 : Ed.Pt.mul (leV t) BB = Ed.Pt.mul (sS bs m) BB := by
    rw [sS_mul, ← e, Ed.Pt.assoc, Ed.Pt.comm _ (Ed.Pt.mul (hS bs m) (ptS bs)), Ed.Pt.add_neg, Ed.Pt.add_zero]
  have := mul_inj e2
  rwa [Nat.mod_eq_of_lt hlt, Nat.mod_eq_of_lt (sS_lt bs m)] at this
end Go.Proofs.Ytdbngnlpafcogaa
