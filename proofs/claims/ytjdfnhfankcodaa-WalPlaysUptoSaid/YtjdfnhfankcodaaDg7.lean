/-
  The log: what the document reads: in plain words.
-/
import Derived.Test.YtjdfnhfankcodaaDg6
import Derived.Test.YtjdfnhfankcodaaTp1
import Derived.Test.YtjdfnhfankcodaaWl7
namespace Go.Proofs.Ytjdfnhfankcodaa
open Go.RowKit Go.Mem Go.Txt

/-- What the document reads of a row. -/
def docN (ys : List UInt8) : Nat := (sBnd 1048576 (0, ys)).1
def docR (ys : List UInt8) : List UInt8 × St := sTake (docN ys) (sTake 8 (sBnd 1048576 (0, ys)).2).2
theorem sTake_bad (n : Nat) (s : St) (h : s.1 ≠ 0) : sTake n s = ([], s) := by unfold sTake; rw [if_neg h]
theorem sTake_short (n : Nat) (ys : List UInt8) (h : ¬ n ≤ ys.length) : sTake n (0, ys) = ([], (10, ys)) := by unfold sTake; rw [if_pos rfl, if_neg h]
theorem sTake_all (n : Nat) (ys : List UInt8) (h : n ≤ ys.length) : sTake n (0, ys) = (ys.take n, (0, ys.drop n)) := by unfold sTake; rw [if_pos rfl, if_pos h]
theorem docR_ok (ys : List UInt8) (h16 : 16 ≤ ys.length) (h1 : beV (ys.take 8) ≤ 1048576) (h2 : beV (ys.take 8) ≤ ys.length - 16) :
    docN ys = beV (ys.take 8) ∧ docR ys = ((ys.drop 16).take (beV (ys.take 8)), (0, ys.drop (16 + beV (ys.take 8)))) := by
  have e1 : sBnd 1048576 (0, ys) = (beV (ys.take 8), (0, ys.drop 8)) := by
    unfold sBnd sNum
    rw [sTake_all 8 ys (by omega)]
    exact if_neg (show ¬ 1048576 < beV (ys.take 8) from by omega)
  unfold docR docN
  rw [e1]
  refine ⟨rfl, ?_⟩
  dsimp only
  rw [sTake_all 8 _ (by rw [List.length_drop]; omega)]
  dsimp only
  rw [List.drop_drop, sTake_all _ _ (by rw [List.length_drop]; omega), List.drop_drop]
theorem docR_bad (ys : List UInt8) (h : ¬ (16 ≤ ys.length ∧ beV (ys.take 8) ≤ 1048576 ∧ beV (ys.take 8) ≤ ys.length - 16)) : (docR ys).2.1 ≠ 0 := by
  unfold docR docN
  by_cases h8 : 8 ≤ ys.length
  · by_cases h1 : 1048576 < beV (ys.take 8)
    · have e1 : sBnd 1048576 (0, ys) = (0, (12, ys.drop 8)) := by
        unfold sBnd sNum
        rw [sTake_all 8 ys h8]
        exact if_pos h1
      rw [e1]
      dsimp only
      rw [sTake_bad 8 _ (show (12 : Int) ≠ 0 from by decide), sTake_bad 0 _ (show (12 : Int) ≠ 0 from by decide)]
      exact (show (12 : Int) ≠ 0 from by decide)
    · have e1 : sBnd 1048576 (0, ys) = (beV (ys.take 8), (0, ys.drop 8)) := by
        unfold sBnd sNum
        rw [sTake_all 8 ys h8]
        exact if_neg h1
      rw [e1]
      dsimp only
      by_cases h16 : 16 ≤ ys.length
      · rw [sTake_all 8 _ (by rw [List.length_drop]; omega)]
        dsimp only
        rw [List.drop_drop, sTake_short _ _ (by rw [List.length_drop]; omega)]
        exact (show (10 : Int) ≠ 0 from by decide)
      · rw [sTake_short 8 _ (by rw [List.length_drop]; omega)]
        dsimp only
        rw [sTake_bad _ _ (show (10 : Int) ≠ 0 from by decide)]
        exact (show (10 : Int) ≠ 0 from by decide)
  · have e1 : sBnd 1048576 (0, ys) = (0, (10, ys)) := by
      unfold sBnd sNum
      rw [sTake_short 8 ys h8]
      exact if_neg (show ¬ 1048576 < beV [] from by decide)
    rw [e1]
    dsimp only
    rw [sTake_bad 8 _ (show (10 : Int) ≠ 0 from by decide), sTake_bad 0 _ (show (10 : Int) ≠ 0 from by decide)]
    exact (show (10 : Int) ≠ 0 from by decide)
theorem be8_beV (l : List UInt8) (h : l.length = 8) : be8 (beV l) = l := by
  match l, h with
  | [a, b, c, d, e, f, g, k], _ =>
    have ha := UInt8.toNat_lt a
    have hb := UInt8.toNat_lt b
    have hc := UInt8.toNat_lt c
    have hd := UInt8.toNat_lt d
    have he := UInt8.toNat_lt e
    have hf := UInt8.toNat_lt f
    have hg := UInt8.toNat_lt g
    have hk := UInt8.toNat_lt k
    have e8 : ∀ n : Nat, be8 n = [UInt8.ofNat (n / 256 ^ 7), UInt8.ofNat (n / 256 ^ 6), UInt8.ofNat (n / 256 ^ 5), UInt8.ofNat (n / 256 ^ 4), UInt8.ofNat (n / 256 ^ 3), UInt8.ofNat (n / 256 ^ 2), UInt8.ofNat (n / 256 ^ 1), UInt8.ofNat (n / 256 ^ 0)] := fun n => rfl
    rw [e8]
    simp only [beV, List.foldl_cons, List.foldl_nil]
    have t : ∀ (n : Nat) (x : UInt8), n % 256 = x.toNat → UInt8.ofNat n = x := fun n x hn => by
      apply UInt8.toNat_inj.1
      rw [UInt8.toNat_ofNat']
      exact hn
    rw [t _ a (by omega), t _ b (by omega), t _ c (by omega), t _ d (by omega), t _ e (by omega), t _ f (by omega), t _ g (by omega), t _ k (by omega)]
theorem row_eq (i : Nat) (ys : List UInt8) (h16 : 16 ≤ ys.length) (h2 : beV (ys.take 8) ≤ ys.length - 16) :
    encR i ((ys.drop 16).take (beV (ys.take 8))) = ys.take (16 + beV (ys.take 8)) ↔ rsum i ((ys.drop 16).take (beV (ys.take 8))) = (ys.drop 8).take 8 := by
  have hl : ((ys.drop 16).take (beV (ys.take 8))).length = beV (ys.take 8) := by rw [List.length_take, List.length_drop]; omega
  have h8 : (ys.take 8).length = 8 := by rw [List.length_take]; omega
  have e : ys.take (16 + beV (ys.take 8)) = ys.take 8 ++ ((ys.drop 8).take 8 ++ (ys.drop 16).take (beV (ys.take 8))) := by
    rw [show 16 + beV (ys.take 8) = 8 + (8 + beV (ys.take 8)) from by omega, List.take_add, List.take_add, List.drop_drop]
  rw [e]
  unfold encR
  rw [hl, be8_beV _ h8]
  constructor
  · intro h
    have := List.append_cancel_left h
    exact List.append_cancel_right this
  · intro h
    rw [h]
end Go.Proofs.Ytjdfnhfankcodaa
