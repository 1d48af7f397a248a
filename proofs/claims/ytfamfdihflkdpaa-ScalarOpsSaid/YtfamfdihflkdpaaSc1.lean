/-
  Scalars: numbers as words, plain; what is carried and borrowed.
-/
import Derived.Test.YtfamfdihflkdpaaRows
namespace Go.Proofs.Ytfamfdihflkdpaa

def MM : Nat := 18446744073709551616
def M4 : Nat := 115792089237316195423570985008687907853269984665640564039457584007913129639936
def LL : Nat := 7237005577332262213973186563042994240857116359379907606001950938285454250989
theorem M4_eq : M4 = 2 ^ 256 := by decide +kernel

/-- Word i of x. -/
def wrd (x i : Nat) : Nat := x / 2 ^ (64 * i) % 18446744073709551616
theorem wrd_lt (x i : Nat) : wrd x i < 18446744073709551616 := Nat.mod_lt _ (by decide)
theorem wrd0 (x : Nat) : wrd x 0 = x % 18446744073709551616 := by simp [wrd]
theorem wrd1 (x : Nat) : wrd x 1 = x / 18446744073709551616 % 18446744073709551616 := rfl
theorem wrd2 (x : Nat) : wrd x 2 = x / 340282366920938463463374607431768211456 % 18446744073709551616 := rfl
theorem wrd3 (x : Nat) : wrd x 3 = x / 6277101735386680763835789423207666416102355444464034512896 % 18446744073709551616 := rfl
theorem four {k : Nat} (h : k < 4) : k = 0 ∨ k = 1 ∨ k = 2 ∨ k = 3 := by omega
theorem LL0 : wrd LL 0 = 6346243789798364141 := by decide +kernel
theorem LL1 : wrd LL 1 = 1503914060200516822 := by decide +kernel
theorem LL2 : wrd LL 2 = 0 := by decide +kernel
theorem LL3 : wrd LL 3 = 1152921504606846976 := by decide +kernel

/-- The borrow behind k words of x less y. -/
def bor (x y k : Nat) : Nat := if x % 2 ^ (64 * k) < y % 2 ^ (64 * k) then 1 else 0
theorem bor_le (x y k : Nat) : bor x y k ≤ 1 := by unfold bor; split <;> omega
theorem bor_zero (x y : Nat) : bor x y 0 = 0 := by simp [bor, Nat.mod_one]
theorem two0 : 2 ^ (64 * 0) = 1 := rfl
theorem two1 : 2 ^ (64 * 1) = 18446744073709551616 := rfl
theorem two2 : 2 ^ (64 * 2) = 340282366920938463463374607431768211456 := rfl
theorem two3 : 2 ^ (64 * 3) = 6277101735386680763835789423207666416102355444464034512896 := rfl
theorem two4 : 2 ^ (64 * 4) = 115792089237316195423570985008687907853269984665640564039457584007913129639936 := rfl

theorem bor_step (x y k : Nat) (hk : k < 4) : (if wrd x k < wrd y k + bor x y k then 1 else 0) = bor x y (k + 1) := by
  rcases four hk with rfl | rfl | rfl | rfl
  · simp [bor, wrd0, Nat.mod_one]
  · simp only [bor, wrd1, two1, two2]
    split <;> split <;> split at * <;> omega
  · simp only [bor, wrd2, two2, two3]
    split <;> split <;> split at * <;> omega
  · simp only [bor, wrd3, two3, two4]
    split <;> split <;> split at * <;> omega
theorem sub_word (x y k : Nat) (hk : k < 4) (hx : x < M4) (hy : y < M4) : (wrd x k + 18446744073709551616 - wrd y k - bor x y k) % 18446744073709551616 = wrd (x + M4 - y) k := by
  unfold M4 at *
  rcases four hk with rfl | rfl | rfl | rfl
  · simp only [bor, wrd0, two0, Nat.mod_one]
    split <;> omega
  · simp only [bor, wrd1, two1]
    split <;> omega
  · simp only [bor, wrd2, two2]
    split <;> omega
  · simp only [bor, wrd3, two3]
    split <;> omega
theorem bor_four (x y : Nat) (hx : x < M4) (hy : y < M4) : bor x y 4 = if x < y then 1 else 0 := by
  unfold M4 at *
  simp only [bor, two4]
  rw [Nat.mod_eq_of_lt hx, Nat.mod_eq_of_lt hy]

/-- The carry behind k words of x and y and c. -/
def car (x y c k : Nat) : Nat := (x % 2 ^ (64 * k) + y % 2 ^ (64 * k) + c) / 2 ^ (64 * k)
theorem car_zero (x y c : Nat) : car x y c 0 = c := by simp [car, Nat.mod_one]
theorem car_le (x y c k : Nat) (hk : k < 5) (hc : c ≤ 1) : car x y c k ≤ 1 := by
  have h : k = 0 ∨ k = 1 ∨ k = 2 ∨ k = 3 ∨ k = 4 := by omega
  rcases h with rfl | rfl | rfl | rfl | rfl
  · simp only [car, two0]; omega
  · simp only [car, two1]; omega
  · simp only [car, two2]; omega
  · simp only [car, two3]; omega
  · simp only [car, two4]; omega
theorem add_word (x y c k : Nat) (hk : k < 4) (hc : c ≤ 1) : (wrd x k + wrd y k + car x y c k) % 18446744073709551616 = wrd (x + y + c) k ∧ (wrd x k + wrd y k + car x y c k) / 18446744073709551616 = car x y c (k + 1) := by
  rcases four hk with rfl | rfl | rfl | rfl
  · simp only [car, wrd0, two0, two1]
    omega
  · simp only [car, wrd1, two1, two2]
    omega
  · simp only [car, wrd2, two2, two3]
    omega
  · simp only [car, wrd3, two3, two4]
    omega
end Go.Proofs.Ytfamfdihflkdpaa
