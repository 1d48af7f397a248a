/-
  The log: rows whose end was lost are not there: in plain words.
-/
import Derived.Test.YtjdfnhfankcodaaWl6
namespace Go.Proofs.Ytjdfnhfankcodaa
open Go.RowKit Go.Mem Go.Txt

theorem beV_be8 (n : Nat) (h : n < 18446744073709551616) : beV (be8 n) = n := by
  have e : be8 n = [UInt8.ofNat (n / 256 ^ 7), UInt8.ofNat (n / 256 ^ 6), UInt8.ofNat (n / 256 ^ 5), UInt8.ofNat (n / 256 ^ 4), UInt8.ofNat (n / 256 ^ 3), UInt8.ofNat (n / 256 ^ 2), UInt8.ofNat (n / 256 ^ 1), UInt8.ofNat (n / 256 ^ 0)] := rfl
  rw [e]
  simp only [beV, List.foldl_cons, List.foldl_nil, UInt8.toNat_ofNat']
  omega
/-- How many rows stand whole among the first n bytes. -/
def wantN : List (List UInt8) → Nat → Nat
  | [], _ => 0
  | x :: l, n => if 16 + x.length ≤ n then 1 + wantN l (n - (16 + x.length)) else 0
theorem wantN_cons (x : List UInt8) (l : List (List UInt8)) (n : Nat) : wantN (x :: l) n = if 16 + x.length ≤ n then 1 + wantN l (n - (16 + x.length)) else 0 := by rw [wantN]
theorem wantN_le : ∀ (l : List (List UInt8)) (n : Nat), wantN l n ≤ l.length
  | [], _ => Nat.le_refl _
  | x :: l, n => by
    unfold wantN
    have := wantN_le l (n - (16 + x.length))
    split
    · rw [List.length_cons]; omega
    · omega
theorem wantN_at : ∀ (l : List (List UInt8)) (n j : Nat), j < l.length → (rsz (l.take (j + 1)) ≤ n ↔ j < wantN l n)
  | [], _, _, h => absurd h (by simp)
  | x :: l, n, 0, _ => by
    unfold wantN
    simp only [List.take_succ_cons, List.take_zero, rsz]
    split <;> omega
  | x :: l, n, j + 1, h => by
    have ih := wantN_at l (n - (16 + x.length)) j (by simpa using h)
    unfold wantN
    rw [List.take_succ_cons]
    simp only [rsz]
    split
    · rename_i hc
      rw [show j + 1 < 1 + wantN l (n - (16 + x.length)) ↔ j < wantN l (n - (16 + x.length)) from by omega, ← ih]
      omega
    · constructor
      · intro h; omega
      · intro h; omega
theorem wantN_all : ∀ (l : List (List UInt8)), wantN l (rsz l) = l.length
  | [] => rfl
  | x :: l => by
    unfold wantN
    rw [if_pos (by simp only [rsz]; omega), show rsz (x :: l) - (16 + x.length) = rsz l from by simp only [rsz]; omega, wantN_all l, List.length_cons]
    omega
theorem encR_parts (i : Nat) (x : List UInt8) (t : List UInt8) (hx : x.length ≤ 1048576) :
    (encR i x ++ t).take 8 = be8 x.length ∧ ((encR i x ++ t).drop 8).take 8 = rsum i x ∧ ((encR i x ++ t).drop 16).take x.length = x ∧ (encR i x ++ t).drop (16 + x.length) = t := by
  have h1 := be8_len x.length
  have h2 := rsum_len i x
  unfold encR
  generalize be8 x.length = a at *
  generalize rsum i x = b at *
  have e8 : (a ++ (b ++ x) ++ t).drop 8 = b ++ (x ++ t) := by
    rw [List.append_assoc, List.append_assoc]
    exact List.drop_left' h1
  have e16 : (a ++ (b ++ x) ++ t).drop 16 = x ++ t := by
    rw [show 16 = 8 + 8 from rfl, ← List.drop_drop, e8]
    exact List.drop_left' h2
  refine ⟨by rw [List.append_assoc]; exact List.take_left' h1, by rw [e8]; exact List.take_left' h2, by rw [e16]; exact List.take_left' rfl, by rw [← List.drop_drop, e16]; exact List.drop_left' rfl⟩
theorem sayF_part {f i : Nat} {x : List UInt8} {m : Nat} (hx : x.length ≤ 1048576) (hm : m < 16 + x.length) : sayF f i ((encR i x).take m) = [] := by
  cases f with
  | zero => rfl
  | succ f =>
    have hl : ((encR i x).take m).length = m := by rw [List.length_take, encR_len]; omega
    by_cases h16 : m < 16
    · exact sayF_end1 (by omega)
    · refine sayF_end2 (.inr ?_)
      have h8 : ((encR i x).take m).take 8 = be8 x.length := by
        have := (encR_parts i x [] hx).1
        rw [List.append_nil] at this
        rw [List.take_take, Nat.min_eq_left (by omega)]
        exact this
      rw [h8, beV_be8 _ (by omega), hl]
      omega
theorem sayF_torn : ∀ (l : List (List UInt8)) (i n f : Nat), (∀ x ∈ l, x.length ≤ 1048576) → ((encs i l).take n).length < f → sayF f i ((encs i l).take n) = l.take (wantN l n)
  | [], i, n, f, _, hf => by
    obtain ⟨f, rfl⟩ := Nat.exists_eq_add_one_of_ne_zero (Nat.ne_of_gt (Nat.lt_of_le_of_lt (Nat.zero_le _) hf))
    exact sayF_end1 (by simp [encs])
  | x :: l, i, n, f, hx, hf => by
    obtain ⟨f, rfl⟩ := Nat.exists_eq_add_one_of_ne_zero (Nat.ne_of_gt (Nat.lt_of_le_of_lt (Nat.zero_le _) hf))
    have hx0 := hx x (by simp)
    by_cases hc : 16 + x.length ≤ n
    · have e : (encs i (x :: l)).take n = encR i x ++ (encs (i + 1) l).take (n - (16 + x.length)) := by
        rw [encs, List.take_append, encR_len, List.take_of_length_le (by rw [encR_len]; exact hc)]
      rw [e] at hf ⊢
      obtain ⟨p1, p2, p3, p4⟩ := encR_parts i x ((encs (i + 1) l).take (n - (16 + x.length))) hx0
      have hlen : (encR i x ++ (encs (i + 1) l).take (n - (16 + x.length))).length = 16 + x.length + ((encs (i + 1) l).take (n - (16 + x.length))).length := by rw [List.length_append, encR_len]
      have ih := sayF_torn l (i + 1) (n - (16 + x.length)) f (fun y hy => hx y (by simp [hy])) (by omega)
      have hb := beV_be8 x.length (by omega)
      rw [sayF_go (by omega) (by rw [p1, hb, hlen]; omega) (by rw [p1, hb, p2, p3])]
      rw [p1, hb, p3, p4, ih]
      rw [wantN_cons, if_pos hc, Nat.add_comm 1, List.take_succ_cons]
    · have e : (encs i (x :: l)).take n = (encR i x).take n := by
        rw [encs, List.take_append, encR_len, show n - (16 + x.length) = 0 from by omega, List.take_zero, List.append_nil]
      rw [e, sayF_part hx0 (by omega)]
      unfold wantN
      rw [if_neg hc, List.take_zero]
theorem says_torn (l : List (List UInt8)) (n : Nat) (h : ∀ x ∈ l, x.length ≤ 1048576) : says ((encs 0 l).take n) = l.take (wantN l n) := sayF_torn l 0 n _ h (Nat.lt_succ_self _)
theorem says_encs (l : List (List UInt8)) (h : ∀ x ∈ l, x.length ≤ 1048576) : says (encs 0 l) = l := by
  have := says_torn l (rsz l) h
  rw [List.take_of_length_le (by rw [encs_len]; exact Nat.le_refl _), wantN_all, List.take_length] at this
  exact this
theorem rsz_take_le : ∀ (l : List (List UInt8)) (n : Nat), rsz (l.take (wantN l n)) ≤ n
  | [], _ => by simp [wantN, rsz]
  | x :: l, n => by
    unfold wantN
    split
    · have := rsz_take_le l (n - (16 + x.length))
      rw [Nat.add_comm 1, List.take_succ_cons]
      simp only [rsz]; omega
    · simp [rsz]
theorem encs_take : ∀ (l : List (List UInt8)) (i k : Nat), (encs i l).take (rsz (l.take k)) = encs i (l.take k)
  | [], i, k => by simp [encs, rsz]
  | x :: l, i, 0 => by simp [encs, rsz]
  | x :: l, i, k + 1 => by
    rw [List.take_succ_cons]
    simp only [encs, rsz]
    rw [List.take_append, encR_len, show 16 + x.length + rsz (l.take k) - (16 + x.length) = rsz (l.take k) from by omega, encs_take l (i + 1) k, List.take_of_length_le (by rw [encR_len]; omega)]
end Go.Proofs.Ytjdfnhfankcodaa
