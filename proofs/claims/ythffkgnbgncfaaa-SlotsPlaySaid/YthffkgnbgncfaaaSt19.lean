/-
  Slots: quorums meet.
-/
import Derived.Test.YthffkgnbgncfaaaSt18
namespace Go.Proofs.Ythffkgnbgncfaaa
open Go.RowKit Go.Mem Go.Txt

/-- What replica i says: below 0 nothing. -/
def xa (a : List UInt8) (i : Nat) : Int := match a[i]? with | some b => ((b % 3).toNat : Int) | none => -1
def xb (a : List UInt8) (i : Nat) : UInt8 := match a[i]? with | some b => b % 3 | none => 0
/-- The votes of the first n. -/
def LA (a : List UInt8) : Nat → List Vt
  | 0 => []
  | n + 1 => if 0 < xa a n then LA a n ++ [vt n 0 (xb a n) (noughts 64)] else LA a n
/-- How many of the first n vote twice. -/
def tw (a b : List UInt8) : Nat → Nat
  | 0 => 0
  | n + 1 => if 0 < xa a n ∧ 0 < xa b n ∧ xa a n ≠ xa b n then tw a b n + 1 else tw a b n
theorem LA_succ (a : List UInt8) (n : Nat) : LA a (n + 1) = if 0 < xa a n then LA a n ++ [vt n 0 (xb a n) (noughts 64)] else LA a n := rfl
theorem tw_succ (a b : List UInt8) (n : Nat) : tw a b (n + 1) = if 0 < xa a n ∧ 0 < xa b n ∧ xa a n ≠ xa b n then tw a b n + 1 else tw a b n := rfl
theorem LA_mem (a : List UInt8) : ∀ n, ∀ v ∈ LA a n, v.vw = 0 ∧ v.fr < n ∧ 0 ≤ v.fr ∧ v.ok
  | 0, v, h => by simp [LA] at h
  | n + 1, v, h => by
    unfold LA at h
    split at h
    · rcases List.mem_append.1 h with h | h
      · have := LA_mem a n v h; refine ⟨this.1, ?_, this.2.2⟩; omega
      · simp at h; subst h
        exact ⟨rfl, by show (n : Int) < _; omega, by show (0 : Int) ≤ n; omega, vt_ok _ _ _ (by simp)⟩
    · have := LA_mem a n v h; refine ⟨this.1, ?_, this.2.2⟩; omega
theorem LA_len (a : List UInt8) : ∀ n, (LA a n).length ≤ n
  | 0 => by simp [LA]
  | n + 1 => by
    have := LA_len a n
    unfold LA
    split <;> simp <;> omega
theorem LA_in (a : List UInt8) {k n : Nat} (h : n ≤ 3 * k + 1) : inR k (LA a n) := fun v hv => by have := LA_mem a n v hv; omega
theorem LA_step (a : List UInt8) {k n : Nat} (h : n ≤ 3 * k) (hx : 0 < xa a n) : okv k (LA a n) (vt n 0 (xb a n) (noughts 64)) = true ∧ addv k (LA a n) (vt n 0 (xb a n) (noughts 64)) = LA a (n + 1) := by
  obtain ⟨h1, h2⟩ := add_end (f := k) (l := LA a n) (x := vt n 0 (xb a n) (noughts 64)) (fun v hv => ⟨(LA_mem a n v hv).1, (LA_mem a n v hv).2.1⟩) (by show (0 : Int) ≤ n; omega) (by show (n : Int) ≤ _; omega)
  refine ⟨h1, h2.trans ?_⟩
  conv => rhs; unfold LA
  rw [if_pos hx]
theorem LA_none (a : List UInt8) {n : Nat} (hx : ¬ 0 < xa a n) : LA a (n + 1) = LA a n := by
  conv => lhs; unfold LA
  rw [if_neg hx]
theorem LA_said (a : List UInt8) (h : List UInt8) : ∀ n, (saidv (LA a n) h).length = (List.range n).countP fun i => decide (0 < xa a i) && (hv (xb a i) == h)
  | 0 => rfl
  | n + 1 => by
    have ih := LA_said a h n
    rw [List.range_succ, List.countP_append, ← ih, LA_succ]
    by_cases hx : 0 < xa a n
    · rw [if_pos hx]
      rw [saidv, List.filter_append, List.length_append, List.countP_cons, List.countP_nil, List.filter_cons, List.filter_nil]
      have e : ((vt n 0 (xb a n) (noughts 64)).h == h) = (hv (xb a n) == h) := rfl
      rw [e, decide_eq_true hx, Bool.true_and, ← saidv]
      cases (hv (xb a n) == h) <;> rfl
    · rw [if_neg hx]
      simp [hx]
theorem tw_eq (a b : List UInt8) : ∀ n, tw a b n = (List.range n).countP fun i => decide (0 < xa a i ∧ 0 < xa b i ∧ xa a i ≠ xa b i)
  | 0 => rfl
  | n + 1 => by
    rw [List.range_succ, List.countP_append, ← tw_eq a b n, tw_succ]
    by_cases h : 0 < xa a n ∧ 0 < xa b n ∧ xa a n ≠ xa b n
    · rw [if_pos h]; simp [h]
    · rw [if_neg h]; simp [h]
theorem xa_xb {a b : List UInt8} {i : Nat} (h : 0 < xa a i) (h2 : xa a i = xa b i) : xb a i = xb b i := by
  unfold xa at h h2
  unfold xb
  generalize a[i]? = x at *
  generalize b[i]? = y at *
  cases x with
  | none => simp at h
  | some x =>
    cases y with
    | none => simp only at h2; omega
    | some y =>
      simp only at h2 ⊢
      exact UInt8.toNat_inj.1 (by omega)
/-- Two quorums that say unlike things share more than k. -/
theorem one_plain (a b : List UInt8) (k : Nat) :
    (bst (LA a (3 * k + 1)) (LA a (3 * k + 1)).length).2 ≤ 2 * k ∨ (bst (LA b (3 * k + 1)) (LA b (3 * k + 1)).length).2 ≤ 2 * k ∨
      (bst (LA a (3 * k + 1)) (LA a (3 * k + 1)).length).1 = (bst (LA b (3 * k + 1)) (LA b (3 * k + 1)).length).1 ∨ k < tw a b (3 * k + 1) := by
  have s1 := bst_said (LA a (3 * k + 1)) _ (Nat.le_refl _)
  have s2 := bst_said (LA b (3 * k + 1)) _ (Nat.le_refl _)
  generalize bst (LA a (3 * k + 1)) (LA a (3 * k + 1)).length = p at *
  generalize bst (LA b (3 * k + 1)) (LA b (3 * k + 1)).length = q at *
  by_cases h1 : p.2 ≤ 2 * k
  · exact .inl h1
  by_cases h2 : q.2 ≤ 2 * k
  · exact .inr (.inl h2)
  by_cases h3 : p.1 = q.1
  · exact .inr (.inr (.inl h3))
  refine .inr (.inr (.inr ?_))
  rw [LA_said] at s1 s2
  have t := two_counts (fun i => decide (0 < xa a i) && (hv (xb a i) == p.1)) (fun i => decide (0 < xa b i) && (hv (xb b i) == q.1)) (List.range (3 * k + 1))
  rw [List.length_range] at t
  rw [tw_eq]
  have u : ((List.range (3 * k + 1)).countP fun x => (decide (0 < xa a x) && (hv (xb a x) == p.1)) && (decide (0 < xa b x) && (hv (xb b x) == q.1))) ≤ (List.range (3 * k + 1)).countP fun i => decide (0 < xa a i ∧ 0 < xa b i ∧ xa a i ≠ xa b i) := by
    refine List.countP_mono_left fun i _ h => ?_
    simp only [Bool.and_eq_true, decide_eq_true_eq, beq_iff_eq] at h ⊢
    obtain ⟨⟨a1, a2⟩, b1, b2⟩ := h
    refine ⟨a1, b1, fun e => h3 ?_⟩
    rw [← a2, ← b2, xa_xb a1 e]
  omega
end Go.Proofs.Ythffkgnbgncfaaa
