/-
  The sign: what was signed is not right for another message, reckoned by the kernel.
-/
import Derived.Test.YtdbngnlpafcogaaSg7
import Derived.Test.YtdbngnlpafcogaaShk
namespace Go.Proofs.Ytdbngnlpafcogaa
open Go.RowKit Go.Mem Go.Txt

/-- Is that point so many of the base point? -/
def ptK (k x y : Nat) : Bool := decide (k < 2 ^ 255) && decide (x < PP) && decide (y < PP) && decide (x * (mN bxN byN 255 k).z % PP = (mN bxN byN 255 k).x % PP) && decide (y * (mN bxN byN 255 k).z % PP = (mN bxN byN 255 k).y % PP)
def eK (x y : Nat) : Nat := y + if x % 2 = 1 then T255 else 0
theorem ptK_enc {k x y : Nat} (h : ptK k x y = true) : enc (Ed.Pt.mul k BB) = eK x y := by
  unfold ptK at h
  simp only [Bool.and_eq_true, decide_eq_true_eq] at h
  obtain ⟨⟨⟨⟨h1, h2⟩, h3⟩, h4⟩, h5⟩ := h
  obtain ⟨e1, e2⟩ := (mN_rn (Q := BB) rfl rfl 255 k h1).plain h4 h5
  unfold enc eK
  rw [e1, e2]
  show y % PP + (if x % PP % 2 = 1 then T255 else 0) = _
  rw [Nat.mod_eq_of_lt h2, Nat.mod_eq_of_lt h3]
def numK (m : List UInt8) : Nat := leV (Q.shaB m) % LL
theorem numK_eq (m : List UInt8) : numQ m = numK m := by unfold numQ numK; rw [Q.sha_shaB, zleV, zLL]
/-- A seed's digest, number, point; a message's number, point; they differ for another message. -/
def krOK (bs m m2 D AB RB : List UInt8) (a x y r x2 y2 : Nat) : Bool :=
  decide (Q.shaB bs = D) && decide (leV (clampB D) = a) && ptK a x y && decide (le (eK x y) 32 = AB) && decide (numK (D.drop 32 ++ m) = r) && ptK r x2 y2 && decide (le (eK x2 y2) 32 = RB) && decide (numK (RB ++ (AB ++ m2)) * (a % LL) % LL ≠ numK (RB ++ (AB ++ m)) * (a % LL) % LL)
theorem kr_key {bs m m2 D AB RB : List UInt8} {a x y r x2 y2 : Nat} (h : krOK bs m m2 D AB RB a x y r x2 y2 = true) : encS (numS bs) = AB ∧ RS bs m = RB := by
  unfold krOK at h
  simp only [Bool.and_eq_true, decide_eq_true_eq] at h
  obtain ⟨⟨⟨⟨⟨⟨⟨h1, h2⟩, h3⟩, h4⟩, h5⟩, h6⟩, h7⟩, h8⟩ := h
  have eD : Q.sha bs = D := (Q.sha_shaB bs).trans h1
  have ea : numV bs = a := by unfold numV numS; rw [eD, h2]
  have er : rS bs m = r := by unfold rS; rw [eD, numK_eq, h5]
  refine ⟨?_, ?_⟩
  · show le (enc (Ed.Pt.mul (numV bs) BB)) 32 = AB
    rw [ea, ptK_enc h3, h4]
  · rw [RS_eq, er, ptK_enc h6, h7]
theorem kr_no {bs m m2 D AB RB : List UInt8} {a x y r x2 y2 : Nat} (h : krOK bs m m2 D AB RB a x y r x2 y2 = true) : okV (encS (numS bs)) (signB bs m) m2 = false := by
  obtain ⟨eA, eR⟩ := kr_key h
  unfold krOK at h
  simp only [Bool.and_eq_true, decide_eq_true_eq] at h
  obtain ⟨⟨⟨⟨⟨⟨⟨h1, h2⟩, h3⟩, h4⟩, h5⟩, h6⟩, h7⟩, h8⟩ := h
  have eD : Q.sha bs = D := (Q.sha_shaB bs).trans h1
  have ea : numV bs = a := by unfold numV numS; rw [eD, h2]
  refine sign_no ?_
  unfold hS
  rw [eR, eA, ea, numK_eq, numK_eq]
  exact h8
end Go.Proofs.Ytdbngnlpafcogaa
