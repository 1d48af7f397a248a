/-
  Field: a number's bytes: the words' bits.
-/
import Derived.Test.YthmpdhegodmjjaaFe4
namespace Go.Proofs.Ythmpdhegodmjjaa
open Go.RowKit Go.Mem

theorem or_up (a c s P : Nat) (hP : P = 2 ^ s) (ha : a < P) (h1 : a < 18446744073709551616) (hc : P * c < 18446744073709551616) : bits .or .u64 (a : Int) ((P * c : Nat) : Int) = ((a + P * c : Nat) : Int) := by
  rw [bits_or_u64_nat a (P * c) h1 hc]
  subst hP
  rw [Nat.or_comm, ← Nat.two_pow_add_eq_or_of_lt ha, Nat.add_comm]
theorem wrap_nat (x : Nat) : IntKind.u64.wrap (x : Int) = ((x % 18446744073709551616 : Nat) : Int) := by
  simp [IntKind.wrap, IntKind.bits, IntKind.signed]

theorem word0 (R : Nat → Nat) (h : ∀ i, R i < 2251799813685248) : bits .or .u64 ((R 0 : Nat) : Int) (IntKind.u64.wrap (((R 1 : Nat) : Int) * 2251799813685248)) = ((wrd (fv R) 0 : Nat) : Int) := by
  have h0 := h 0
  rw [(end_words R h).1, show (((R 1 : Nat) : Int) * 2251799813685248) = ((R 1 * 2251799813685248 : Nat) : Int) from by omega, wrap_nat,
    show R 1 * 2251799813685248 % 18446744073709551616 = 2251799813685248 * (R 1 % 8192) from by omega, or_up (R 0) (R 1 % 8192) 51 _ rfl h0 (by omega) (by omega)]
  omega
theorem word1 (R : Nat → Nat) (h : ∀ i, R i < 2251799813685248) : bits .or .u64 (((R 1 : Nat) : Int) / 8192) (IntKind.u64.wrap (((R 2 : Nat) : Int) * 274877906944)) = ((wrd (fv R) 1 : Nat) : Int) := by
  have h0 := h 1
  rw [(end_words R h).2.1, show (((R 2 : Nat) : Int) * 274877906944) = ((R 2 * 274877906944 : Nat) : Int) from by omega, wrap_nat, show ((R 1 : Nat) : Int) / 8192 = ((R 1 / 8192 : Nat) : Int) from by omega,
    show R 2 * 274877906944 % 18446744073709551616 = 274877906944 * (R 2 % 67108864) from by omega, or_up (R 1 / 8192) (R 2 % 67108864) 38 _ rfl (by omega) (by omega) (by omega)]
theorem word2 (R : Nat → Nat) (h : ∀ i, R i < 2251799813685248) : bits .or .u64 (((R 2 : Nat) : Int) / 67108864) (IntKind.u64.wrap (((R 3 : Nat) : Int) * 33554432)) = ((wrd (fv R) 2 : Nat) : Int) := by
  have h0 := h 2
  rw [(end_words R h).2.2.1, show (((R 3 : Nat) : Int) * 33554432) = ((R 3 * 33554432 : Nat) : Int) from by omega, wrap_nat, show ((R 2 : Nat) : Int) / 67108864 = ((R 2 / 67108864 : Nat) : Int) from by omega,
    show R 3 * 33554432 % 18446744073709551616 = 33554432 * (R 3 % 549755813888) from by omega, or_up (R 2 / 67108864) (R 3 % 549755813888) 25 _ rfl (by omega) (by omega) (by omega)]
theorem word3 (R : Nat → Nat) (h : ∀ i, R i < 2251799813685248) : bits .or .u64 (((R 3 : Nat) : Int) / 549755813888) (((R 4 : Nat) : Int) * 4096) = ((wrd (fv R) 3 : Nat) : Int) := by
  have h0 := h 3
  have h4 := h 4
  rw [(end_words R h).2.2.2, show (((R 4 : Nat) : Int) * 4096) = ((4096 * R 4 : Nat) : Int) from by omega, show ((R 3 : Nat) : Int) / 549755813888 = ((R 3 / 549755813888 : Nat) : Int) from by omega,
    or_up (R 3 / 549755813888) (R 4) 12 _ rfl (by omega) (by omega) (by omega)]
  omega
end Go.Proofs.Ythmpdhegodmjjaa
