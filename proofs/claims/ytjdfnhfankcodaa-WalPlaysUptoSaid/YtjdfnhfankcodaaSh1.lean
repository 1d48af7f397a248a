/-
  Digests: words turned.
-/
import Derived.Test.YtjdfnhfankcodaaFam
namespace Go.Proofs.Ytjdfnhfankcodaa
open Go.RowKit Go.Mem Go.Txt

/-- A word of 32 bits. -/
abbrev W32 (x : BitVec 32) : Value := .int .u32 (x.toNat : Int)
theorem ofInt32 (x : BitVec 32) : BitVec.ofInt 32 (x.toNat : Int) = x := by
  apply BitVec.eq_of_toNat_eq
  rw [BitVec.toNat_ofInt]
  have := x.isLt
  omega
theorem wrap32n (x : BitVec 32) : IntKind.u32.wrap (x.toNat : Int) = x.toNat := by
  have := x.isLt
  rw [IntKind.wrap_u32]; omega
theorem bxor (x y : BitVec 32) : bits .xor .u32 (x.toNat : Int) (y.toNat : Int) = ((x ^^^ y).toNat : Nat) := by
  show IntKind.u32.wrap (((BitVec.ofInt 32 (x.toNat : Int)) ^^^ (BitVec.ofInt 32 (y.toNat : Int))).toNat : Nat) = _
  rw [ofInt32, ofInt32, wrap32n]
theorem band (x y : BitVec 32) : bits .and .u32 (x.toNat : Int) (y.toNat : Int) = ((x &&& y).toNat : Nat) := by
  show IntKind.u32.wrap (((BitVec.ofInt 32 (x.toNat : Int)) &&& (BitVec.ofInt 32 (y.toNat : Int))).toNat : Nat) = _
  rw [ofInt32, ofInt32, wrap32n]
theorem bor (x y : BitVec 32) : bits .or .u32 (x.toNat : Int) (y.toNat : Int) = ((x ||| y).toNat : Nat) := by
  show IntKind.u32.wrap (((BitVec.ofInt 32 (x.toNat : Int)) ||| (BitVec.ofInt 32 (y.toNat : Int))).toNat : Nat) = _
  rw [ofInt32, ofInt32, wrap32n]
theorem badd (x y : BitVec 32) : IntKind.u32.wrap ((x.toNat : Int) + (y.toNat : Int)) = ((x + y).toNat : Nat) := by
  rw [IntKind.wrap_u32, BitVec.toNat_add]; omega
theorem bnot (x : BitVec 32) : bits .xor .u32 4294967295 (x.toNat : Int) = ((~~~x).toNat : Nat) := by
  have e : BitVec.ofInt 32 4294967295 = BitVec.allOnes 32 := by decide
  show IntKind.u32.wrap (((BitVec.ofInt 32 4294967295) ^^^ (BitVec.ofInt 32 (x.toNat : Int))).toNat : Nat) = _
  rw [ofInt32, e, BitVec.allOnes_xor, wrap32n]
theorem bshl (x : BitVec 32) (s : Nat) : (x.toNat : Int) * 2 ^ s % 4294967296 = ((x <<< s).toNat : Nat) := by
  rw [BitVec.toNat_shiftLeft, Nat.shiftLeft_eq]
  have h : ((2 : Int) ^ s) = ((2 ^ s : Nat) : Int) := by norm_cast
  rw [h]
  generalize 2 ^ s = q
  show (x.toNat : Int) * (q : Int) % ((4294967296 : Nat) : Int) = ((x.toNat * q % 4294967296 : Nat) : Int)
  rw [Int.natCast_emod, Int.natCast_mul]
theorem bshr (x : BitVec 32) (s : Nat) : (x.toNat : Int) / 2 ^ s = ((x >>> s).toNat : Nat) := by
  rw [BitVec.toNat_ushiftRight, Nat.shiftRight_eq_div_pow]
  have h : ((2 : Int) ^ s) = ((2 ^ s : Nat) : Int) := by norm_cast
  rw [h]
  norm_cast
theorem rot_any (x : BitVec 32) (k : Int) (s : Nat) (hs : bits .and .u64 (IntKind.u64.wrap k) 31 = s) (h31 : s ≤ 31) (w : World) :
    Calls Try.prog 42 #[W32 x, .int .i64 k] w fun e w' => e = .returned (W32 (x <<< s ||| x >>> (32 - s))) ∧ Kept [] w w' := by
  have K := Lib.hid (Kept.refl [] w)
  have h1 : (32 : Int) - s = ((32 - s : Nat) : Int) := by omega
  have h2 : IntKind.u64.wrap ((32 - s : Nat) : Int) = ((32 - s : Nat) : Int) := by rw [IntKind.wrap_u64]; omega
  have h3 : ∀ t : Nat, ((t : Int)).toNat = t := fun t => rfl
  go_enter Try.func42, Try.ntmps42
  go_wp2_with fail
  go_ret
  refine ⟨?_, K.out⟩
  show Ending.returned (.int .u32 (bits .or .u32 ((x.toNat : Int) * 2 ^ s % 4294967296) ((x.toNat : Int) / 2 ^ (32 - s)))) = _
  rw [bshl, bshr, bor]
end Go.Proofs.Ytjdfnhfankcodaa
