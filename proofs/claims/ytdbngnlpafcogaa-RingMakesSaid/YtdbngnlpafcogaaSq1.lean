/-
  Digests: words of 64 bits turned.
-/
import Derived.Test.YtdbngnlpafcogaaFam
namespace Go.Proofs.Ytdbngnlpafcogaa.Q
open Go.RowKit Go.Mem Go.Txt

/-- A word of 64 bits. -/
abbrev W64 (x : BitVec 64) : Value := .int .u64 (x.toNat : Int)
theorem ofInt64 (x : BitVec 64) : BitVec.ofInt 64 (x.toNat : Int) = x := by
  apply BitVec.eq_of_toNat_eq
  rw [BitVec.toNat_ofInt]
  have := x.isLt
  omega
theorem wrap64n (x : BitVec 64) : IntKind.u64.wrap (x.toNat : Int) = x.toNat := by
  have := x.isLt
  rw [IntKind.wrap_u64]; omega
theorem bxor (x y : BitVec 64) : bits .xor .u64 (x.toNat : Int) (y.toNat : Int) = ((x ^^^ y).toNat : Nat) := by
  show IntKind.u64.wrap (((BitVec.ofInt 64 (x.toNat : Int)) ^^^ (BitVec.ofInt 64 (y.toNat : Int))).toNat : Nat) = _
  rw [ofInt64, ofInt64, wrap64n]
theorem band (x y : BitVec 64) : bits .and .u64 (x.toNat : Int) (y.toNat : Int) = ((x &&& y).toNat : Nat) := by
  show IntKind.u64.wrap (((BitVec.ofInt 64 (x.toNat : Int)) &&& (BitVec.ofInt 64 (y.toNat : Int))).toNat : Nat) = _
  rw [ofInt64, ofInt64, wrap64n]
theorem bor (x y : BitVec 64) : bits .or .u64 (x.toNat : Int) (y.toNat : Int) = ((x ||| y).toNat : Nat) := by
  show IntKind.u64.wrap (((BitVec.ofInt 64 (x.toNat : Int)) ||| (BitVec.ofInt 64 (y.toNat : Int))).toNat : Nat) = _
  rw [ofInt64, ofInt64, wrap64n]
theorem badd (x y : BitVec 64) : IntKind.u64.wrap ((x.toNat : Int) + (y.toNat : Int)) = ((x + y).toNat : Nat) := by
  rw [IntKind.wrap_u64, BitVec.toNat_add]; omega
theorem bnot (x : BitVec 64) : bits .xor .u64 18446744073709551615 (x.toNat : Int) = ((~~~x).toNat : Nat) := by
  have e : BitVec.ofInt 64 18446744073709551615 = BitVec.allOnes 64 := by decide
  show IntKind.u64.wrap (((BitVec.ofInt 64 18446744073709551615) ^^^ (BitVec.ofInt 64 (x.toNat : Int))).toNat : Nat) = _
  rw [ofInt64, e, BitVec.allOnes_xor, wrap64n]
theorem bshl (x : BitVec 64) (s : Nat) : (x.toNat : Int) * 2 ^ s % 18446744073709551616 = ((x <<< s).toNat : Nat) := by
  rw [BitVec.toNat_shiftLeft, Nat.shiftLeft_eq]
  have h : ((2 : Int) ^ s) = ((2 ^ s : Nat) : Int) := by norm_cast
  rw [h]
  generalize 2 ^ s = q
  show (x.toNat : Int) * (q : Int) % ((18446744073709551616 : Nat) : Int) = ((x.toNat * q % 18446744073709551616 : Nat) : Int)
  rw [Int.natCast_emod, Int.natCast_mul]
theorem bshr (x : BitVec 64) (s : Nat) : (x.toNat : Int) / 2 ^ s = ((x >>> s).toNat : Nat) := by
  rw [BitVec.toNat_ushiftRight, Nat.shiftRight_eq_div_pow]
  have h : ((2 : Int) ^ s) = ((2 ^ s : Nat) : Int) := by norm_cast
  rw [h]
  norm_cast
theorem rot_any (x : BitVec 64) (k : Int) (s : Nat) (hs : bits .and .u64 (IntKind.u64.wrap k) 63 = s) (h63 : s ≤ 63) (w : World) :
    Calls Try.prog 96 #[W64 x, .int .i64 k] w fun e w' => e = .returned (W64 (x <<< s ||| x >>> (64 - s))) ∧ Kept [] w w' := by
  have K := Lib.hid (Kept.refl [] w)
  have h1 : (64 : Int) - s = ((64 - s : Nat) : Int) := by omega
  have h2 : IntKind.u64.wrap ((64 - s : Nat) : Int) = ((64 - s : Nat) : Int) := by rw [IntKind.wrap_u64]; omega
  have h3 : ∀ t : Nat, ((t : Int)).toNat = t := fun t => rfl
  go_enter Try.func96, Try.ntmps96
  go_wp2_with fail
  go_ret
  refine ⟨?_, K.out⟩
  show Ending.returned (.int .u64 (bits .or .u64 ((x.toNat : Int) * 2 ^ s % 18446744073709551616) ((x.toNat : Int) / 2 ^ (64 - s)))) = _
  rw [bshl, bshr, bor]
end Go.Proofs.Ytdbngnlpafcogaa.Q
