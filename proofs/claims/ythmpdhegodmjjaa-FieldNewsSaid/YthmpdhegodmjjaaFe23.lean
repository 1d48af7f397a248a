/-
  Field: numbers of bytes: the plain law.
-/
import Derived.Test.YthmpdhegodmjjaaFe22
namespace Go.Proofs.Ythmpdhegodmjjaa
open Go.RowKit Go.Mem Go.Txt

theorem wrd_new (V b k : Nat) (hV : V < 2 ^ (8 * k)) (hb : b < 256) :
    wrd V (k / 8) < 2 ^ (8 * (k % 8)) ∧ b * 2 ^ (8 * (k % 8)) < 18446744073709551616 ∧ wrd (V + b * 2 ^ (8 * k)) (k / 8) = wrd V (k / 8) + b * 2 ^ (8 * (k % 8)) := by
  have e : 8 * k = 64 * (k / 8) + 8 * (k % 8) := by omega
  unfold wrd
  rw [e, Nat.pow_add] at hV ⊢
  have hd : V / 2 ^ (64 * (k / 8)) < 2 ^ (8 * (k % 8)) := by
    rw [Nat.div_lt_iff_lt_mul (Nat.two_pow_pos _), Nat.mul_comm]; exact hV
  have h1 : (V + b * (2 ^ (64 * (k / 8)) * 2 ^ (8 * (k % 8)))) / 2 ^ (64 * (k / 8)) = V / 2 ^ (64 * (k / 8)) + b * 2 ^ (8 * (k % 8)) := by
    rw [Nat.mul_left_comm, Nat.add_mul_div_left _ _ (Nat.two_pow_pos _)]
  rw [h1]
  generalize V / 2 ^ (64 * (k / 8)) = U at *
  have hr : k % 8 = 0 ∨ k % 8 = 1 ∨ k % 8 = 2 ∨ k % 8 = 3 ∨ k % 8 = 4 ∨ k % 8 = 5 ∨ k % 8 = 6 ∨ k % 8 = 7 := by omega
  rcases hr with h | h | h | h | h | h | h | h <;> rw [h] at hd ⊢ <;> simp only [Nat.reduceMul, Nat.reducePow] at hd ⊢ <;> omega
theorem wrd_same (V b k i : Nat) (hV : V < 2 ^ (8 * k)) (hb : b < 256) (hi : i ≠ k / 8) : wrd (V + b * 2 ^ (8 * k)) i = wrd V i := by
  unfold wrd
  rcases Nat.lt_or_ge i (k / 8) with h | h
  · have e : 8 * k = 64 * i + (64 + (8 * k - 64 * i - 64)) := by omega
    rw [e, Nat.pow_add, Nat.mul_left_comm, Nat.add_mul_div_left _ _ (Nat.two_pow_pos _), Nat.pow_add, Nat.mul_left_comm]
    exact Nat.add_mul_mod_self_left _ _ _
  · have h2 : V + b * 2 ^ (8 * k) < 2 ^ (64 * i) := by
      have : 2 ^ (8 * k + 8) ≤ 2 ^ (64 * i) := Nat.pow_le_pow_right (by omega) (by omega)
      rw [Nat.pow_add] at this
      have h3 : b * 2 ^ (8 * k) ≤ 255 * 2 ^ (8 * k) := Nat.mul_le_mul_right _ (by omega)
      omega
    rw [Nat.div_eq_of_lt h2, Nat.div_eq_of_lt (by omega)]
theorem or_new (a b s : Nat) (ha : a < 2 ^ s) (hb8 : b < 256) (hb : b * 2 ^ s < 18446744073709551616) (hs : 2 ^ s ≤ 18446744073709551616) : bits .or .u64 (a : Int) (IntKind.u64.wrap (IntKind.u64.wrap (b : Int) * 2 ^ s)) = ((a + b * 2 ^ s : Nat) : Int) := by
  have e0 : IntKind.u64.wrap (b : Int) = (b : Int) := by rw [IntKind.wrap_u64]; omega
  rw [e0]
  have e1 : IntKind.u64.wrap ((b : Int) * 2 ^ s) = ((b * 2 ^ s : Nat) : Int) := by
    rw [IntKind.wrap_u64]
    have : ((b : Int) * 2 ^ s) = ((b * 2 ^ s : Nat) : Int) := by simp
    rw [this]
    omega
  rw [e1, bits_or_u64_nat _ _ (by omega) hb]
  congr 1
  have := Nat.two_pow_add_eq_or_of_lt ha b
  rw [Nat.or_comm, Nat.mul_comm b, ← this, Nat.add_comm]
/-- The words of the first k bytes. -/
theorem wd_step {w : World} {g : Nat} {bt : TypeId} (bs : List UInt8) (k : Nat) (hk : k < bs.length) (hl : bs.length = 32) (h : Blk w g bt (uv (fam 4 (wrd (leV (bs.take k))))).toArray) :
    Blk (w.setCell ⟨g, k / 8, none⟩ (.int .u64 (wrd (leV (bs.take (k + 1))) (k / 8) : Nat))) g bt (uv (fam 4 (wrd (leV (bs.take (k + 1)))))).toArray := by
  have := h.fset (v := fun z : Nat => Value.int .u64 (z : Int)) (k / 8) (wrd (leV (bs.take (k + 1))) (k / 8))
  have e : fam 4 (fun j => if j = k / 8 then wrd (leV (bs.take (k + 1))) (k / 8) else wrd (leV (bs.take k)) j) = fam 4 (wrd (leV (bs.take (k + 1)))) := fam_ext 4 fun j _ => by
    by_cases hj : j = k / 8
    · subst hj; rw [if_pos rfl]
    · rw [if_neg hj, leV_take bs k hk, wrd_same _ _ _ _ (leV_take_lt bs k (by omega)) (UInt8.toNat_lt _) hj]
  rwa [e] at this

/-- The limbs of a number. -/
def nwL (X i : Nat) : Nat := X / 2 ^ (51 * i) % 2251799813685248
theorem nwL_lim (X : Nat) : Lim (nwL X) := fun i _ => by
  have : nwL X i < 2251799813685248 := Nat.mod_lt _ (by decide)
  omega
theorem nwL_at (X : Nat) : nwL X 0 = X % 2251799813685248 ∧ nwL X 1 = X / 2251799813685248 % 2251799813685248 ∧ nwL X 2 = X / 5070602400912917605986812821504 % 2251799813685248 ∧ nwL X 3 = X / 11417981541647679048466287755595961091061972992 % 2251799813685248 ∧ nwL X 4 = X / 25711008708143844408671393477458601640355247900524685364822016 % 2251799813685248 :=
  ⟨by rw [nwL]; simp, rfl, rfl, rfl, rfl⟩
theorem nwL_val (X : Nat) : fv (nwL X) = X % T255 := by
  obtain ⟨h0, h1, h2, h3, h4⟩ := nwL_at X
  unfold fv
  rw [h0, h1, h2, h3, h4]
  unfold T255
  omega
theorem or_cut (a c P Q s : Nat) (hP : P = 2 ^ s) (hPQ : P * Q = 18446744073709551616) (ha : a < P) (h64 : P ≤ 18446744073709551616) : bits .or .u64 (a : Int) (IntKind.u64.wrap ((c : Int) * (P : Nat))) = ((a + P * (c % Q) : Nat) : Int) := by
  have hq : 0 < Q := Nat.pos_of_ne_zero fun e => by rw [e] at hPQ; simp at hPQ
  have e : IntKind.u64.wrap ((c : Int) * (P : Nat)) = ((P * (c % Q) : Nat) : Int) := by
    rw [← Int.natCast_mul, wrap_nat, ← hPQ, Nat.mul_comm c P, Nat.mul_mod_mul_left]
  have hlt : P * (c % Q) < 18446744073709551616 := by
    rw [← hPQ]; exact Nat.mul_lt_mul_of_pos_left (Nat.mod_lt _ hq) (by omega)
  rw [e]
  exact or_up a (c % Q) s P hP ha (by omega) hlt
theorem limb0 (X : Nat) : bits .and .u64 ((wrd X 0 : Nat) : Int) 2251799813685247 = ((nwL X 0 : Nat) : Int) := by
  rw [and51 _ (wrd_lt _ _), (nwL_at X).1]
  congr 1
  show X / 2 ^ (64 * 0) % 18446744073709551616 % 2251799813685248 = _
  simp only [Nat.mul_zero, Nat.pow_zero, Nat.div_one]
  omega
theorem wrd_at (X : Nat) : wrd X 0 = X % 18446744073709551616 ∧ wrd X 1 = X / 18446744073709551616 % 18446744073709551616 ∧ wrd X 2 = X / 340282366920938463463374607431768211456 % 18446744073709551616 ∧ wrd X 3 = X / 6277101735386680763835789423207666416102355444464034512896 % 18446744073709551616 :=
  ⟨by rw [wrd]; simp, rfl, rfl, rfl⟩
theorem limb1 (X : Nat) : bits .and .u64 (bits .or .u64 (((wrd X 0 : Nat) : Int) / 2251799813685248) (IntKind.u64.wrap (((wrd X 1 : Nat) : Int) * 8192))) 2251799813685247 = ((nwL X 1 : Nat) : Int) := by
  obtain ⟨h0, h1, _, _⟩ := wrd_at X
  have hlt := wrd_lt X 0
  rw [show ((wrd X 0 : Nat) : Int) / 2251799813685248 = ((wrd X 0 / 2251799813685248 : Nat) : Int) from by omega,
    show (((wrd X 1 : Nat) : Int) * 8192) = ((wrd X 1 : Nat) : Int) * ((8192 : Nat) : Int) from rfl, or_cut _ _ 8192 2251799813685248 13 rfl rfl (by omega) (by omega),
    and51 _ (by omega), (nwL_at X).2.1, h0, h1]
  congr 1
  omega
theorem limb2 (X : Nat) : bits .and .u64 (bits .or .u64 (((wrd X 1 : Nat) : Int) / 274877906944) (IntKind.u64.wrap (((wrd X 2 : Nat) : Int) * 67108864))) 2251799813685247 = ((nwL X 2 : Nat) : Int) := by
  obtain ⟨_, h1, h2, _⟩ := wrd_at X
  have hlt := wrd_lt X 1
  rw [show ((wrd X 1 : Nat) : Int) / 274877906944 = ((wrd X 1 / 274877906944 : Nat) : Int) from by omega,
    show (((wrd X 2 : Nat) : Int) * 67108864) = ((wrd X 2 : Nat) : Int) * ((67108864 : Nat) : Int) from rfl, or_cut _ _ 67108864 274877906944 26 rfl rfl (by omega) (by omega),
    and51 _ (by omega), (nwL_at X).2.2.1, h1, h2]
  congr 1
  omega
theorem limb3 (X : Nat) : bits .and .u64 (bits .or .u64 (((wrd X 2 : Nat) : Int) / 33554432) (IntKind.u64.wrap (((wrd X 3 : Nat) : Int) * 549755813888))) 2251799813685247 = ((nwL X 3 : Nat) : Int) := by
  obtain ⟨_, _, h2, h3⟩ := wrd_at X
  have hlt := wrd_lt X 2
  rw [show ((wrd X 2 : Nat) : Int) / 33554432 = ((wrd X 2 / 33554432 : Nat) : Int) from by omega,
    show (((wrd X 3 : Nat) : Int) * 549755813888) = ((wrd X 3 : Nat) : Int) * ((549755813888 : Nat) : Int) from rfl, or_cut _ _ 549755813888 33554432 39 rfl rfl (by omega) (by omega),
    and51 _ (by omega), (nwL_at X).2.2.2.1, h2, h3]
  congr 1
  omega
theorem limb4 (X : Nat) : bits .and .u64 (((wrd X 3 : Nat) : Int) / 4096) 2251799813685247 = ((nwL X 4 : Nat) : Int) := by
  obtain ⟨_, _, _, h3⟩ := wrd_at X
  have hlt := wrd_lt X 3
  rw [show ((wrd X 3 : Nat) : Int) / 4096 = ((wrd X 3 / 4096 : Nat) : Int) from by omega, and51 _ (by omega), (nwL_at X).2.2.2.2, h3]
  congr 1
  omega
theorem le_beq2 (x y : Nat) (hx : x < 2 ^ (8 * 32)) (hy : y < 2 ^ (8 * 32)) : (le x 32 == le y 32) = decide (x = y) := le_inj hx hy
/-- Is it below p? -/
def newB (bs : List UInt8) : Bool := decide (leV bs < PP)
def newF (bs : List UInt8) : Nat → Nat := if newB bs then nwL (leV bs) else nought
theorem newF_lim (bs : List UInt8) : Lim (newF bs) := by
  unfold newF
  split
  · exact nwL_lim _
  · exact nought_lim
theorem new_val (bs : List UInt8) (h : newB bs = true) : fv (newF bs) = leV bs := by
  have hlt : leV bs < PP := of_decide_eq_true h
  unfold newF
  rw [h, if_pos rfl, nwL_val, Nat.mod_eq_of_lt]
  unfold PP at hlt
  unfold T255
  omega
end Go.Proofs.Ythmpdhegodmjjaa
