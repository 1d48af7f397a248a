/-
  The log: bytes compared; which rows bytes say.
-/
import Derived.Test.YtjdfnhfankcodaaWl1
import Derived.Test.YtjdfnhfankcodaaWd1
namespace Go.Proofs.Ytjdfnhfankcodaa
open Go.RowKit Go.Mem Go.Txt

theorem mkS_ne {x y : List UInt8} (h : x ≠ y) : (mkS x == mkS y) = false := by
  show (x.toArray == y.toArray) = false
  rw [beq_eq_false_iff_ne]
  intro e
  exact h (by simpa using e)
theorem mkS_eq (x : List UInt8) : (mkS x == mkS x) = true := by
  show (x.toArray == x.toArray) = true
  simp
theorem equal_any (a b : Value) (la lb : List UInt8) (w : World) (ha : Rd w 1 a la.length (bv la)) (hb : Rd w 1 b lb.length (bv lb)) :
    Calls Try.prog 25 #[a, b] w fun e w' => e = .returned (.bool (decide (la = lb))) ∧ w = w' := by
  have ra := Lib.hid ha
  have rb := Lib.hid hb
  obtain ⟨A, c, rfl, _⟩ := ha
  obtain ⟨B, d, rfl, _⟩ := hb
  by_cases h : la = lb
  · subst h
    rw [decide_eq_true (rfl : la = la)]
    have e1 := mkS_eq la
    go_enter Try.func25, Try.ntmps25
    go_wp2_with (first
      | ((with_reducible refine wpl_at 6 ?_); refine wpl_toS (o := ⟨some 6, _, _, _, _, _⟩) Try.underlying22 Try.underlying5 Try.underlying9 rfl (.tmp 5) rfl rfl ra.out ?_)
      | ((with_reducible refine wpl_at 8 ?_); refine wpl_toS (o := ⟨some 8, _, _, _, _, _⟩) Try.underlying22 Try.underlying5 Try.underlying9 rfl (.tmp 7) rfl rfl rb.out ?_))
    go_ret
    exact ⟨rfl, rfl⟩
  · rw [decide_eq_false h]
    have e1 := mkS_ne h
    replace h := Lib.hid h
    go_enter Try.func25, Try.ntmps25
    go_wp2_with (first
      | ((with_reducible refine wpl_at 6 ?_); refine wpl_toS (o := ⟨some 6, _, _, _, _, _⟩) Try.underlying22 Try.underlying5 Try.underlying9 rfl (.tmp 5) rfl rfl ra.out ?_)
      | ((with_reducible refine wpl_at 8 ?_); refine wpl_toS (o := ⟨some 8, _, _, _, _, _⟩) Try.underlying22 Try.underlying5 Try.underlying9 rfl (.tmp 7) rfl rfl rb.out ?_))
    go_ret
    refine ⟨?_, rfl⟩
    show Ending.returned (.bool (la == lb)) = _
    rw [beq_eq_false_iff_ne.2 h.out]
/-- The rows that bytes say, from row i on. -/
def sayF : Nat → Nat → List UInt8 → List (List UInt8)
  | 0, _, _ => []
  | f + 1, i, xs => if xs.length < 16 then [] else if 1048576 < beV (xs.take 8) ∨ xs.length - 16 < beV (xs.take 8) then [] else
      if rsum i ((xs.drop 16).take (beV (xs.take 8))) = (xs.drop 8).take 8 then (xs.drop 16).take (beV (xs.take 8)) :: sayF f (i + 1) (xs.drop (16 + beV (xs.take 8))) else []
def says (xs : List UInt8) : List (List UInt8) := sayF (xs.length + 1) 0 xs
/-- How many bytes rows take. -/
def rsz : List (List UInt8) → Nat
  | [] => 0
  | x :: l => 16 + x.length + rsz l
theorem rsz_app (a b : List (List UInt8)) : rsz (a ++ b) = rsz a + rsz b := by
  induction a with
  | nil => simp [rsz]
  | cons x l ih => simp [rsz, ih]; omega
theorem num8 (bs : List UInt8) (h : bs.length = 8) : sNum (0, bs) = (beV bs, (0, [])) := by
  have e : sTake 8 (0, bs) = (bs, (0, [])) := by
    unfold sTake
    simp [h, List.take_of_length_le, List.drop_eq_nil_of_le]
  unfold sNum
  rw [e]
theorem beV_8 {bs : List UInt8} (h : bs.length = 8) : beV bs < 18446744073709551616 := by
  have := beV_lt bs
  rw [h] at this
  exact this
end Go.Proofs.Ytjdfnhfankcodaa
