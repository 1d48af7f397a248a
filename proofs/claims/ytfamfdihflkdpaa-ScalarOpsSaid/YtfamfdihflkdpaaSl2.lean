/-
  Scalars' laws: what must be answered first.
-/
import Derived.Test.YtfamfdihflkdpaaSl1
namespace Go.Proofs.Ytfamfdihflkdpaa
open Go.RowKit Go.Mem

theorem new_ok (bs : List UInt8) (x : Nat) (hl : bs.length = 32) (he : leV bs = x) (h : x < LL) (w : World) : Calls Try.prog 16 #[ab bs] w fun e w' => e = .returned (.tuple #[w4 x, .bool true]) ∧ Kept [] w w' := by
  have h1 : okB (leV bs) = true := decide_eq_true (by rw [he]; exact h)
  have h2 : nw (leV bs) = x := by rw [he]; exact if_pos h
  have := new_any bs hl w
  rwa [h1, h2] at this
theorem mul_at (x y z : Nat) (hx : x < M4) (hy : y < M4) (h : x * y % LL = z) (w : World) : Calls Try.prog 14 #[w4 x, w4 y] w fun e w' => e = .returned (w4 z) ∧ Kept [] w w' := by
  subst h; exact mul_any x y hx hy w
theorem add_at (x y z : Nat) (hx : x < LL) (hy : y < LL) (h : (x + y) % LL = z) (w : World) : Calls Try.prog 12 #[w4 x, w4 y] w fun e w' => e = .returned (w4 z) ∧ Kept [] w w' := by
  subst h; exact add_any x y hx hy w
theorem bit_at (x : Nat) (i : Int) (b : Bool) (h : bitB x i = b) (w : World) : Calls Try.prog 18 #[w4 x, .int .i64 i] w fun e w' => e = .returned (.bool b) ∧ Kept [] w w' := by
  subst h; exact bit_any x i w
/-- An array of bytes that begins with a byte. -/
theorem lit_bytes (b : UInt8) : ∃ l : List UInt8, l = b :: noughts 31 ∧ l.length = 32 ∧ leV l = b.toNat ∧ Try.prog.built 22 [(0, .int .u8 (b.toNat : Int))] = some (bv l).toArray := by
  refine ⟨_, rfl, rfl, ?_, by kernel_rfl⟩
  rw [leV, leV_noughts]; rfl
theorem eq_lit (x : Nat) (b : UInt8) (l : List UInt8) (hl : l = b :: noughts 31) (h : le x 32 = b :: noughts 31) (W : World) : (Op.equalIn 10000 22 (ab (le x 32)) (ab l)).run Try.prog W = .ok true W := by
  subst hl
  have := run_eqIn_ab arrB Try.underlying5 (by kernel_rfl) (le x 32) (b :: noughts 31) (le_len _ _) rfl W
  rw [this, h]
  simp

theorem first_true (w : World) : Calls Try.prog 8 #[] w fun e w' => e = .returned (.bool true) ∧ Kept [] w w' := by
  obtain ⟨l5, h5, n5, v5, u5⟩ := lit_bytes 5
  obtain ⟨l25, h25, n25, v25, u25⟩ := lit_bytes 25
  obtain ⟨l10, h10, n10, v10, u10⟩ := lit_bytes 10
  have q1 := eq_lit 25 25 l25 h25 (by decide +kernel)
  have q2 := eq_lit 10 10 l10 h10 (by decide +kernel)
  have f5 := Lib.hid (new_ok l5 5 n5 v5 (by decide +kernel))
  have fm := Lib.hid (mul_at 5 5 25 (by decide +kernel) (by decide +kernel) (by decide +kernel))
  have fa := Lib.hid (add_at 5 5 10 (by decide +kernel) (by decide +kernel) (by decide +kernel))
  have b0 := Lib.hid (bit_at 5 0 true (by decide +kernel))
  have b1 := Lib.hid (bit_at 5 1 false (by decide +kernel))
  have U5 := Lib.hid u5
  have U25 := Lib.hid u25
  have U10 := Lib.hid u10
  clear h5 h25 h10 n5 n25 n10 v5 v25 v10 u5 u25 u10
  go_enter Try.func8, Try.ntmps8
  go_wp2_with (first
    | (refine wpl_build1 (o := ⟨some 4, _, _, _, _, _⟩) rfl 0 (.const (.int .u8 5)) rfl rfl U5.out ?_)
    | (go_at_call 16; refine (f5.out _).mono ?_; rintro e w1 ⟨rfl, k1⟩; have K1 := Lib.hid k1; clear k1)
    | ((with_reducible refine wpl_new (o := ⟨some 1, _, _, _, _, _⟩) rfl rfl zeroSc ?_); intro g2 w2 m2)
    | (refine wpl_store_row structSc rfl (.tmp 1) (.tmp 6) rfl rfl rfl m2.blk rfl rfl (one_uva _) ?_; intro w3 b3 k3; have B := Lib.hid b3; have K := Lib.hid ((K1.out.then0 m2.kept).then1 k3 (Nat.le_trans K1.out.size m2.le)); clear b3 k3 m2)
    | (refine wpl_load_row structSc rfl (.tmp 1) rfl rfl B.out rfl ?_)
    | (go_at_call 14; refine (fm.out _).mono ?_; rintro e w4 ⟨rfl, k4⟩; have B := Lib.hid (B.out.kept k4 (by simp)); have K := Lib.hid (K.out.then0 k4); clear k4)
    | (go_at_call 12; refine (fa.out _).mono ?_; rintro e w4 ⟨rfl, k4⟩; have B := Lib.hid (B.out.kept k4 (by simp)); have K := Lib.hid (K.out.then0 k4); clear k4)
    | (go_at_call 10; refine (hash_any _ _).mono ?_; rintro e w5 ⟨rfl, k5⟩; have B := Lib.hid (B.out.kept k5 (by simp)); have K := Lib.hid (K.out.then0 k5); clear k5)
    | (refine wpl_build1 (o := ⟨some 14, _, _, _, _, _⟩) rfl 0 (.const (.int .u8 25)) rfl rfl U25.out ?_)
    | (refine wpl_build1 (o := ⟨some 22, _, _, _, _, _⟩) rfl 0 (.const (.int .u8 10)) rfl rfl U10.out ?_)
    | (go_at_call 18; (with_reducible refine (b0.out _).mono ?_); rintro e w5 ⟨rfl, k5⟩; have B := Lib.hid (B.out.kept k5 (by simp)); have K := Lib.hid (K.out.then0 k5); clear k5)
    | (go_at_call 18; (with_reducible refine (b1.out _).mono ?_); rintro e w5 ⟨rfl, k5⟩; have B := Lib.hid (B.out.kept k5 (by simp)); have K := Lib.hid (K.out.then0 k5); clear k5))
  go_ret
  exact ⟨rfl, K.out⟩
end Go.Proofs.Ytfamfdihflkdpaa
