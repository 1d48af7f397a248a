/-
  Digests: what a block does: words of 32 bits, plain.
-/
import Derived.Test.YtjdfnhfankcodaaSh3
namespace Go.Proofs.Ytjdfnhfankcodaa
open Go.RowKit Go.Mem Go.Txt

abbrev B32 := BitVec 32
/-- Turned to the left. -/
def rl (x : B32) (s : Nat) : B32 := x <<< s ||| x >>> (32 - s)
def ls0 (x : B32) : B32 := (rl x 25 ^^^ rl x 14) ^^^ x >>> 3
def ls1 (y : B32) : B32 := (rl y 15 ^^^ rl y 13) ^^^ y >>> 10
def us0 (a : B32) : B32 := (rl a 30 ^^^ rl a 19) ^^^ rl a 10
def us1 (e : B32) : B32 := (rl e 26 ^^^ rl e 21) ^^^ rl e 7
def chB (e f g : B32) : B32 := (e &&& f) ^^^ (~~~e &&& g)
def mjB (a b c : B32) : B32 := ((a &&& b) ^^^ (a &&& c)) ^^^ (b &&& c)
/-- A word of four bytes. -/
def wrd (p : Nat → UInt8) (t : Nat) : B32 := ((BitVec.ofNat 32 (p (4 * t)).toNat <<< 24 ||| BitVec.ofNat 32 (p (4 * t + 1)).toNat <<< 16) ||| BitVec.ofNat 32 (p (4 * t + 2)).toNat <<< 8) ||| BitVec.ofNat 32 (p (4 * t + 3)).toNat
/-- The schedule. -/
def sch (p : Nat → UInt8) (t : Nat) : B32 :=
  if _h : t < 16 then wrd p t else ls1 (sch p (t - 2)) + sch p (t - 7) + ls0 (sch p (t - 15)) + sch p (t - 16)
termination_by t
decreasing_by all_goals omega
theorem sch_lo (p : Nat → UInt8) {t : Nat} (h : t < 16) : sch p t = wrd p t := by rw [sch, dif_pos h]
theorem sch_hi (p : Nat → UInt8) {t : Nat} (h : ¬ t < 16) : sch p t = ls1 (sch p (t - 2)) + sch p (t - 7) + ls0 (sch p (t - 15)) + sch p (t - 16) := by rw [sch, dif_neg h]
/-- The half of a table's number. -/
def hi32 (n : Nat) : B32 := BitVec.ofNat 32 (n / 4294967296)
/-- One round: the eight words as a function of their places. -/
def rnd (k m : B32) (v : Nat → B32) : Nat → B32
  | 0 => v 7 + us1 (v 4) + chB (v 4) (v 5) (v 6) + k + m + (us0 (v 0) + mjB (v 0) (v 1) (v 2))
  | 4 => v 3 + (v 7 + us1 (v 4) + chB (v 4) (v 5) (v 6) + k + m)
  | i + 1 => v i
/-- So many rounds. -/
def rnds (p : Nat → UInt8) (h : Nat → B32) : Nat → Nat → B32
  | 0 => h
  | t + 1 => rnd (hi32 (cubesL.getD t 0)) (sch p t) (rnds p h t)
/-- A block. -/
def blk (p : Nat → UInt8) (h : Nat → B32) : Nat → B32 := fun i => h i + rnds p h 64 i
/-- So many blocks. -/
def blks (b : List UInt8) : Nat → Nat → B32
  | 0 => fun i => hi32 (rootsL.getD i 0)
  | n + 1 => blk (fun j => b.getD (64 * n + j) 0) (blks b n)
/-- The digest's bytes. -/
def digB (h : Nat → B32) : List UInt8 := (List.range 32).map fun j => UInt8.ofNat ((h (j / 4)).toNat / 2 ^ (24 - 8 * (j % 4)))
def sha (m : List UInt8) : List UInt8 := digB (blks (pad m) ((pad m).length / 64))
theorem sha_len (m : List UInt8) : (sha m).length = 32 := by simp [sha, digB]
/-- The document's words say the same. -/
theorem ch_or (e f g : B32) : (e &&& f) ||| (~~~e &&& g) = chB e f g := by
  unfold chB
  apply BitVec.eq_of_getLsbD_eq
  intro i hi
  simp only [BitVec.getLsbD_or, BitVec.getLsbD_and, BitVec.getLsbD_xor, BitVec.getLsbD_not, hi, decide_true, Bool.true_and]
  cases e.getLsbD i <;> cases f.getLsbD i <;> cases g.getLsbD i <;> rfl
theorem mj_or (a b c : B32) : ((a &&& b) ||| (a &&& c)) ||| (b &&& c) = mjB a b c := by
  unfold mjB
  apply BitVec.eq_of_getLsbD_eq
  intro i _
  simp only [BitVec.getLsbD_or, BitVec.getLsbD_and, BitVec.getLsbD_xor]
  cases a.getLsbD i <;> cases b.getLsbD i <;> cases c.getLsbD i <;> rfl
end Go.Proofs.Ytjdfnhfankcodaa
