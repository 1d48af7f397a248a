/-
  The document's digests: words turned (32 bits).
-/
import Derived.Test.YtjdfnhfankcodaaSh4
namespace Go.Proofs.Ytjdfnhfankcodaa
open Go.RowKit Go.Mem Go.Txt

/-- A word of 32 bits, held in 64. -/
abbrev U32 (x : BitVec 32) : Value := .int .u64 (x.toNat : Int)
theorem ofInt64 (n : Nat) (h : n < 18446744073709551616) : BitVec.ofInt 64 (n : Int) = BitVec.ofNat 64 n := by
  apply BitVec.eq_of_toNat_eq
  rw [BitVec.toNat_ofInt, BitVec.toNat_ofNat]
  omega
theorem wrap64n (x : BitVec 64) : IntKind.u64.wrap (x.toNat : Int) = x.toNat := by
  have := x.isLt
  rw [IntKind.wrap_u64]; omega
theorem or64 (m n : Nat) (hm : m < 18446744073709551616) (hn : n < 18446744073709551616) : bits .or .u64 (m : Int) (n : Int) = ((m ||| n : Nat) : Int) := by
  show IntKind.u64.wrap (((BitVec.ofInt 64 (m : Int)) ||| (BitVec.ofInt 64 (n : Int))).toNat : Nat) = _
  rw [ofInt64 m hm, ofInt64 n hn, wrap64n, BitVec.toNat_or, BitVec.toNat_ofNat, BitVec.toNat_ofNat, Nat.mod_eq_of_lt hm, Nat.mod_eq_of_lt hn]
theorem and64 (m n : Nat) (hm : m < 18446744073709551616) (hn : n < 18446744073709551616) : bits .and .u64 (m : Int) (n : Int) = ((m &&& n : Nat) : Int) := by
  show IntKind.u64.wrap (((BitVec.ofInt 64 (m : Int)) &&& (BitVec.ofInt 64 (n : Int))).toNat : Nat) = _
  rw [ofInt64 m hm, ofInt64 n hn, wrap64n, BitVec.toNat_and, BitVec.toNat_ofNat, BitVec.toNat_ofNat, Nat.mod_eq_of_lt hm, Nat.mod_eq_of_lt hn]
theorem xor64 (m n : Nat) (hm : m < 18446744073709551616) (hn : n < 18446744073709551616) : bits .xor .u64 (m : Int) (n : Int) = ((m ^^^ n : Nat) : Int) := by
  show IntKind.u64.wrap (((BitVec.ofInt 64 (m : Int)) ^^^ (BitVec.ofInt 64 (n : Int))).toNat : Nat) = _
  rw [ofInt64 m hm, ofInt64 n hn, wrap64n, BitVec.toNat_xor, BitVec.toNat_ofNat, BitVec.toNat_ofNat, Nat.mod_eq_of_lt hm, Nat.mod_eq_of_lt hn]
theorem uxor (x y : BitVec 32) : bits .xor .u64 (x.toNat : Int) (y.toNat : Int) = ((x ^^^ y).toNat : Nat) := by
  rw [xor64 _ _ (Nat.lt_trans x.isLt (by decide)) (Nat.lt_trans y.isLt (by decide)), BitVec.toNat_xor]
theorem uand (x y : BitVec 32) : bits .and .u64 (x.toNat : Int) (y.toNat : Int) = ((x &&& y).toNat : Nat) := by
  rw [and64 _ _ (Nat.lt_trans x.isLt (by decide)) (Nat.lt_trans y.isLt (by decide)), BitVec.toNat_and]
theorem uor (x y : BitVec 32) : bits .or .u64 (x.toNat : Int) (y.toNat : Int) = ((x ||| y).toNat : Nat) := by
  rw [or64 _ _ (Nat.lt_trans x.isLt (by decide)) (Nat.lt_trans y.isLt (by decide)), BitVec.toNat_or]
theorem turn_val (x : BitVec 32) (n : Nat) (h1 : 1 ≤ n) (h2 : n ≤ 31) : (bits .or .u64 ((x.toNat : Int) / 2 ^ n) (IntKind.u64.wrap ((x.toNat : Int) * 2 ^ (32 - n)))).tmod 4294967296 = ((rl x (32 - n)).toNat : Nat) := by
  have hx := x.isLt
  have hp : 2 ^ (32 - n) ≤ 2 ^ 31 := Nat.pow_le_pow_right (by decide) (by omega)
  have hm : x.toNat * 2 ^ (32 - n) < 18446744073709551616 := by
    have := Nat.mul_le_mul (Nat.le_of_lt hx) hp
    omega
  have e1 : (x.toNat : Int) / 2 ^ n = ((x.toNat / 2 ^ n : Nat) : Int) := by rw [Int.natCast_ediv, Int.natCast_pow]; rfl
  have e2 : (x.toNat : Int) * 2 ^ (32 - n) % 18446744073709551616 = ((x.toNat * 2 ^ (32 - n) : Nat) : Int) := by
    have : (x.toNat : Int) * 2 ^ (32 - n) = ((x.toNat * 2 ^ (32 - n) : Nat) : Int) := by rw [Int.natCast_mul, Int.natCast_pow]; rfl
    rw [this]; omega
  have hd : x.toNat / 2 ^ n < 18446744073709551616 := Nat.lt_of_le_of_lt (Nat.div_le_self _ _) (by omega)
  rw [IntKind.wrap_u64, e1, e2, or64 _ _ hd hm, Int.tmod_eq_emod_of_nonneg (by omega)]
  unfold rl
  rw [BitVec.toNat_or, BitVec.toNat_shiftLeft, BitVec.toNat_ushiftRight, Nat.shiftLeft_eq, Nat.shiftRight_eq_div_pow, show 32 - (32 - n) = n from by omega]
  have hmod : ((x.toNat / 2 ^ n ||| x.toNat * 2 ^ (32 - n)) % 4294967296 : Nat) = x.toNat * 2 ^ (32 - n) % 2 ^ 32 ||| x.toNat / 2 ^ n := by
    rw [show (4294967296 : Nat) = 2 ^ 32 from rfl, Nat.or_mod_two_pow, Nat.or_comm]
    congr 1
    exact Nat.mod_eq_of_lt (Nat.lt_of_le_of_lt (Nat.div_le_self _ _) hx)
  rw [← hmod]
  omega
theorem turn_any (x : BitVec 32) (n : Nat) (h1 : 1 ≤ n) (h2 : n ≤ 31) (w : World) :
    Calls Try.prog 48 #[U32 x, .int .u64 (n : Int), .int .u64 32] w fun e w' => e = .returned (U32 (rl x (32 - n))) ∧ Kept [] w w' := by
  have K := Lib.hid (Kept.refl [] w)
  have e1 : (32 : Int) - n = ((32 - n : Nat) : Int) := by omega
  have e3 : ∀ t : Nat, ((t : Int)).toNat = t := fun t => rfl
  have hv := turn_val x n h1 h2
  go_enter Try.func48, Try.ntmps48
  go_wp2_with fail
  go_ret
  exact ⟨rfl, K.out⟩
end Go.Proofs.Ytjdfnhfankcodaa
