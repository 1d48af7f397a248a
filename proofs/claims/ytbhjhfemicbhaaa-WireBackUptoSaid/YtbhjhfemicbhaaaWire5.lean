/-
  The wire: one form alone (WireOne).
-/
import Derived.Test.YtbhjhfemicbhaaaWire3
namespace Go.Proofs.Ytbhjhfemicbhaaa
open Go.RowKit Go.Mem

/-- Lists of bytes, each in its form, one behind the other. -/
def cat (l : List (List UInt8)) : List UInt8 := (l.map form).flatten
theorem cat_nil : cat [] = [] := rfl
theorem cat_cons (x : List UInt8) (l : List (List UInt8)) : cat (x :: l) = form x ++ cat l := by simp [cat]
theorem cat_append (a b : List (List UInt8)) : cat (a ++ b) = cat a ++ cat b := by simp [cat]
theorem cat_take_succ (l : List (List UInt8)) (k : Nat) (h : k < l.length) : cat (l.take (k + 1)) = cat (l.take k) ++ form l[k] := by
  rw [List.take_succ_eq_append_getElem h, cat_append, cat_cons, cat_nil, List.append_nil]
theorem cat_take_le (l : List (List UInt8)) (k : Nat) : (cat (l.take k)).length ≤ (cat l).length := by
  have : cat l = cat (l.take k) ++ cat (l.drop k) := by rw [← cat_append, List.take_append_drop]
  rw [this, List.length_append]; omega

theorem beV_be8' (n : Nat) (h : n < 18446744073709551616) : beV (be8 n) = n := by
  have e : be8 n = [UInt8.ofNat (n / 256 ^ 7), UInt8.ofNat (n / 256 ^ 6), UInt8.ofNat (n / 256 ^ 5), UInt8.ofNat (n / 256 ^ 4), UInt8.ofNat (n / 256 ^ 3), UInt8.ofNat (n / 256 ^ 2), UInt8.ofNat (n / 256 ^ 1), UInt8.ofNat (n / 256 ^ 0)] := rfl
  rw [e]
  simp only [beV, List.foldl_cons, List.foldl_nil, UInt8.toNat_ofNat']
  omega

theorem be8_inj {m n : Nat} (hm : m < 18446744073709551616) (hn : n < 18446744073709551616) (h : be8 m = be8 n) : m = n := by
  rw [← beV_be8' m hm, ← beV_be8' n hn, h]
theorem cat_inj : ∀ (a b : List (List UInt8)), (∀ x ∈ a, x.length < 18446744073709551616) → (∀ x ∈ b, x.length < 18446744073709551616) → cat a = cat b → a = b
  | [], [], _, _, _ => rfl
  | [], y :: b, _, _, h => by
    have := congrArg List.length h
    simp [cat_nil, cat_cons, form, be8_len] at this
    omega
  | x :: a, [], _, _, h => by
    have := congrArg List.length h
    simp [cat_nil, cat_cons, form, be8_len] at this
  | x :: a, y :: b, ha, hb, h => by
    rw [cat_cons, cat_cons] at h
    unfold form at h
    rw [List.append_assoc, List.append_assoc] at h
    obtain ⟨h1, h2⟩ := List.append_inj h (by rw [be8_len, be8_len])
    have hl := be8_inj (ha x (by simp)) (hb y (by simp)) h1
    obtain ⟨h3, h4⟩ := List.append_inj h2 hl
    rw [h3, cat_inj a b (fun z hz => ha z (by simp [hz])) (fun z hz => hb z (by simp [hz])) h4]

/-- Slices of bytes in a slice. -/
structure Parts (w : World) (pv : Value) (ps : List (Value × List UInt8)) : Prop where
  outer : Rd w 1 pv ps.length (ps.map (·.1))
  inner : ∀ x ∈ ps, Rd w 1 x.1 x.2.length (bv x.2)
theorem Parts.kept0 {w w' : World} {pv : Value} {ps : List (Value × List UInt8)} (h : Parts w pv ps) (hk : Kept [] w w') : Parts w' pv ps :=
  ⟨h.outer.kept0 hk, fun x hx => (h.inner x hx).kept0 hk⟩
abbrev bytesOf (ps : List (Value × List UInt8)) : List (List UInt8) := ps.map (·.2)

def sameB (a b : List (List UInt8)) (k : Nat) : Bool := decide (a.length = b.length ∧ a.take k = b.take k)
theorem sameB_all (a b : List (List UInt8)) : sameB a b a.length = decide (a = b) := by
  unfold sameB
  rw [decide_eq_decide]
  constructor
  · rintro ⟨h1, h2⟩
    rwa [List.take_length, h1, List.take_length] at h2
  · rintro rfl; exact ⟨rfl, rfl⟩
theorem sameB_no (a b : List (List UInt8)) (k : Nat) (h : sameB a b k = false) : sameB a b (k + 1) = false := by
  unfold sameB at *
  simp only [decide_eq_false_iff_not] at *
  rintro ⟨h1, h2⟩
  refine h ⟨h1, ?_⟩
  have := congrArg (List.take k) h2
  rwa [List.take_take, List.take_take, Nat.min_eq_left (by omega)] at this
theorem sameB_yes (a b : List (List UInt8)) (k : Nat) (h : sameB a b k = true) (h1 : k < a.length) (h2 : k < b.length) : sameB a b (k + 1) = decide (a[k] = b[k]) := by
  unfold sameB at *
  simp only [decide_eq_true_eq] at h
  rw [decide_eq_decide, List.take_succ_eq_append_getElem h1, List.take_succ_eq_append_getElem h2, h.2]
  constructor
  · rintro ⟨_, h3⟩
    have := List.append_cancel_left h3
    simpa using this
  · intro h3; exact ⟨h.1, by rw [h3]⟩
theorem sameB_len (a b : List (List UInt8)) (k : Nat) (h : sameB a b k = true) : a.length = b.length := by
  unfold sameB at h
  simp only [decide_eq_true_eq] at h
  exact h.1
theorem mkS_ne {x y : List UInt8} (h : x ≠ y) : (mkS x == mkS y) = false := by
  show (x.toArray == y.toArray) = false
  rw [beq_eq_false_iff_ne]
  intro e
  exact h (by simpa using e)
theorem mkS_eq (x : List UInt8) : (mkS x == mkS x) = true := by
  show (x.toArray == x.toArray) = true
  simp

end Go.Proofs.Ytbhjhfemicbhaaa
