/-
  The document's field: digits of bytes; a number of any bytes.
-/
import Derived.Test.YtkflljjcgihaoaaRf4
namespace Go.Proofs.Ytkflljjcgihaoaa
open Go.RowKit Go.Mem Go.Txt

/-- Digit i of x. -/
def dgN (x : Nat) (i : Nat) : Int := ((x / 65536 ^ i % 65536 : Nat) : Int)
theorem dgN_bound (x i : Nat) : 0 ≤ dgN x i ∧ dgN x i < 65536 := by unfold dgN; omega
theorem dgN_dg (x : Nat) : Dg (dgN x) := fun i _ => dgN_bound x i
theorem dv_dgN (x : Nat) : ∀ n, dv (dgN x) n = ((x % 65536 ^ n : Nat) : Int)
  | 0 => by simp [dv, Nat.mod_one]
  | n + 1 => by
    rw [dv, dv_dgN x n, Nat.pow_succ, Nat.mod_mul]
    unfold dgN
    rw [Int.natCast_add, Int.natCast_mul, Int.natCast_pow, Int.mul_comm]
    rfl
theorem dgN_sm (x : Nat) : Sm 65535 (dgN x) := fun i _ => by have := dgN_bound x i; omega
theorem dgN_low (V i : Nat) (h : i < 15) : dgN (V % T255) i = dgN V i := by
  have e : T255 = 65536 ^ (i + 1) * (65536 ^ (14 - i) * 32768) := by
    rw [← Nat.mul_assoc, ← Nat.pow_add, show i + 1 + (14 - i) = 15 from by omega]
    decide +kernel
  unfold dgN
  have h2 : ∀ x : Nat, x / 65536 ^ i % 65536 = x % 65536 ^ (i + 1) / 65536 ^ i := fun x => by
    rw [Nat.pow_succ, Nat.mod_mul_right_div_self]
  rw [h2, h2, e, Nat.mod_mul_right_mod]
theorem dgN_top (V : Nat) : dgN V 15 % 32768 = dgN (V % T255) 15 := by
  unfold dgN
  rw [show T255 = 65536 ^ 15 * 32768 from by decide +kernel, Nat.mod_mul_right_div_self]
  generalize V / 65536 ^ 15 = y
  omega
theorem byte_at (bs : List UInt8) (i : Nat) (h : i < bs.length) : (bs[i]).toNat = leV bs / 2 ^ (8 * i) % 256 := by
  have e := le_get (leV bs) bs.length i h
  have e2 := le_leV bs
  have : (le (leV bs) bs.length)[i]'(by rw [le_len]; exact h) = bs[i] := by congr 1
  rw [← this, e, UInt8.toNat_ofNat']
  omega
theorem two_bytes (bs : List UInt8) (k : Nat) (h : 2 * k + 1 < bs.length) : (((bs[2 * k]'(by omega)).toNat : Nat) : Int) + 256 * (((bs[2 * k + 1]'h).toNat : Nat) : Int) = dgN (leV bs) k := by
  rw [byte_at bs (2 * k) (by omega), byte_at bs (2 * k + 1) h]
  unfold dgN
  have e : (65536 : Nat) ^ k = 2 ^ (8 * (2 * k)) := by rw [show 8 * (2 * k) = 16 * k from by omega, Nat.pow_mul]
  rw [e, show 8 * (2 * k + 1) = 8 * (2 * k) + 8 from by omega, Nat.pow_add, ← Nat.div_div_eq_div_mul]
  generalize leV bs / 2 ^ (8 * (2 * k)) = y
  omega

set_option maxRecDepth 100000 in
set_option maxHeartbeats 4000000 in
theorem load_any (bs : List UInt8) (hl : bs.length = 32) (w : World) :
    Calls Try.prog 43 #[ab bs] w fun e w' => e = .returned (nu (dgN (leV bs % T255))) ∧ Kept [] w w' := by
  have hlh := Lib.hid hl
  clear hl
  go_enter Try.func43, Try.ntmps43
  go_wp2_with (first
    | ((with_reducible refine wpl_box (o := ⟨some 1, _, _, _, _, _⟩) (v := ab bs) rfl (.tmp 0) rfl rfl ?_); intro g1 w1 m1)
    | ((with_reducible refine wpl_new (o := ⟨some 2, _, _, _, _, _⟩) rfl rfl zeroN ?_); intro g2 w2 m2)
    | ((with_reducible refine wpl_new (o := ⟨some 3, _, _, _, _, _⟩) rfl rfl zeroN ?_); intro g3 w3 m3))
  have B1 := Lib.hid ((m1.blk.kept m2.kept (by simp)).kept m3.kept (by simp))
  have B2 := Lib.hid (m2.blk.kept m3.kept (by simp))
  have H3 := Lib.hid (show Nb w3 g3 (mix zd (dgN (leV bs)) 0) from by unfold Nb; rw [mix_zero]; exact m3.blk)
  have D := Lib.hid (show w.heap.size ≤ g2 ∧ w.heap.size ≤ g3 ∧ g1 ≠ g3 ∧ g2 ≠ g3 ∧ Kept [] w w3 from ⟨Nat.le_trans m1.kept.size m2.le, Nat.le_trans (m1.kept.then0 m2.kept).size m3.le, m3.ne (m2.kept.lt m1.blk.lt), m3.ne m2.blk.lt, (m1.kept.then0 m2.kept).then0 m3.kept⟩)
  clear m1 m2 m3
  go_loopg [4] 16 (fun f i wk => ∃ k : Nat, k ≤ 16 ∧ f + k = 16 ∧ i = .int .i64 k ∧ Nb wk g3 (mix zd (dgN (leV bs)) k) ∧ Kept [g3] w3 wk)
  case atStart => exact ⟨0, Nat.zero_le _, rfl, rfl, H3.out, Kept.refl _ _⟩
  case round =>
    obtain ⟨k, hk, hf, rfl, hb, hkw⟩ := hrel
    have H := Lib.hid hb
    have HK := Lib.hid hkw
    clear hb hkw
    by_cases hlt : k < 16
    · have c1 := Blk.mget (f := byteV) (B1.out.kept HK.out (by simpa using D.out.2.2.1)) (2 * k) (by rw [hlh.out]; omega)
      have c2 := Blk.mget (f := byteV) (B1.out.kept HK.out (by simpa using D.out.2.2.1)) (2 * k + 1) (by rw [hlh.out]; omega)
      have hst := two_bytes bs k (by rw [hlh.out]; omega)
      have b1 := (bs[2 * k]'(by rw [hlh.out]; omega)).toNat_lt
      have b2 := (bs[2 * k + 1]'(by rw [hlh.out]; omega)).toNat_lt
      have e0 := H.out.get k hlt
      have z0 := Blk.frozen H.out k
      have F := Lib.hid (show Nb (wr.setCell ⟨g3, k, none⟩ (.int .i64 (dgN (leV bs) k))) g3 (mix zd (dgN (leV bs)) (k + 1)) from Blk.fstep (v := fun z : Int => Value.int .i64 z) H.out)
      have FK := Lib.hid (HK.out.setCell (p := ⟨g3, k, none⟩) (.inl (by simp)) (Value.int .i64 (dgN (leV bs) k)))
      unfold byteV at c1 c2
      generalize (bs[2 * k]'(by rw [hlh.out]; omega)).toNat = x at *
      generalize (bs[2 * k + 1]'(by rw [hlh.out]; omega)).toNat = y at *
      generalize dgN (leV bs) k = L at *
      go_wp2_with fail
      refine Txt.wp_text (by kernel_rfl) (by kernel_rfl) ?_
      go_wp2_with fail
      refine ⟨rfl, by kernel_rfl, ?_⟩
      go_wp2_with fail
      go_roundg (16 - (k + 1))
      case measure => omega
      case rel => exact ⟨k + 1, by omega, by omega, by go_num, Blk.drew F.out, FK.out.drew⟩
    · obtain rfl : k = 16 := by omega
      have hb : Nb wr g3 (dgN (leV bs)) := by have := H.out; unfold Nb at this; rwa [mix_full] at this
      have c0 := hb.get 15 (by omega)
      have z0 := Blk.frozen hb 15
      have ht := dgN_top (leV bs)
      have b0 := dgN_bound (leV bs) 15
      have F := Lib.hid (show Nb (wr.setCell ⟨g3, 15, none⟩ (.int .i64 (dgN (leV bs) 15 % 32768))) g3 (dgN (leV bs % T255)) from (hb.set 15 _).same fun i hi => by
        by_cases h : i = 15
        · rw [if_pos h, ht, h]
        · rw [if_neg h, dgN_low _ _ (by omega)])
      have FK := Lib.hid (HK.out.setCell (p := ⟨g3, 15, none⟩) (.inl (by simp)) (Value.int .i64 (dgN (leV bs) 15 % 32768)))
      generalize dgN (leV bs) 15 = L at *
      clear hb ht H HK
      obtain ⟨b01, b02⟩ := b0
      go_wp2_with (first
        | (with_reducible refine wpl_load_row (o := ⟨some 28, _, _, _, _, _⟩) arrN.row rfl (.tmp 3) rfl rfl F.out rfl ?_)
        | ((with_reducible refine wpl_store_row (o := ⟨none, .store 34 (.tmp 2) (.tmp 28), _, _, _, _⟩) arrN.row rfl (.tmp 2) (.tmp 28) rfl rfl rfl (B2.out.kept FK.out (by simpa using D.out.2.2.2.1)) rfl rfl (one_nu _) ?_); intro v2 b2 k2))
      exact ret_row arrN.row rfl rfl b2 rfl rfl ⟨rfl, (D.out.2.2.2.2.then1 FK.out D.out.2.1).then1 k2 D.out.1⟩

/-- What is packed. -/
abbrev PkC (d : Nat → Int) (y : Nat) : Prop := ∀ W, Calls Try.prog 45 #[nu d] W fun e w' => e = .returned (ab (le y 32)) ∧ Kept [] W w'
theorem pack_le (d : Nat → Int) (hd : Sm 4611686018427387904 d) (x y : Nat) (hx : dv d 16 % PZ = (x : Int) % PZ) (hy : x % PP = y) : PkC d y := fun W => by
  have h := pack_any d hd W
  obtain ⟨h1, h2⟩ := pkN_spec hd
  rw [pkB_le h1 y (by rw [h2, hx, ← hy, PZ_eq]; omega)] at h
  exact h
theorem Sm.le {M N : Int} {d : Nat → Int} (h : Sm M d) (hMN : M ≤ N) : Sm N d := fun i hi => by have := h i hi; omega
theorem PP_lt : PP < 2 ^ 256 := by decide +kernel
theorem le_small (x : Nat) (h : x < PP) : leV (le x 32) = x := by
  rw [leV_le]
  exact Nat.mod_eq_of_lt (Nat.lt_trans h PP_lt)
theorem load_dv (bs : List UInt8) : dv (dgN (leV bs % T255)) 16 = ((leV bs % T255 : Nat) : Int) := by
  rw [dv_dgN, Nat.mod_eq_of_lt]
  exact Nat.lt_trans (Nat.mod_lt _ (by decide +kernel)) (show T255 < 65536 ^ 16 by decide +kernel)
end Go.Proofs.Ytkflljjcgihaoaa
