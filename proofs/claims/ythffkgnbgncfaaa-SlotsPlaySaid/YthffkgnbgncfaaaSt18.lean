/-
  Slots: two tallies; votes that come in order; what most said is said by so many.
-/
import Derived.Test.YthffkgnbgncfaaaSt17
namespace Go.Proofs.Ythffkgnbgncfaaa
open Go.RowKit Go.Mem Go.Txt

/-- Two tallies that came since, apart. -/
def T2 (w0 u : World) (f : Int) (g1 : Nat) (l1 : List Vt) (g2 : Nat) (l2 : List Vt) : Prop :=
  ∃ v1 v2, Tl u g1 f l1 v1 ∧ Tl u g2 f l2 v2 ∧ g1 ≠ g2 ∧ (∀ k, v1.ownBlock = some k → v2.ownBlock ≠ some k) ∧ Kept [] w0 u ∧ w0.heap.size ≤ g1 ∧ w0.heap.size ≤ g2 ∧ (∀ k, v1.ownBlock = some k → w0.heap.size ≤ k) ∧ ∀ k, v2.ownBlock = some k → w0.heap.size ≤ k
section
variable {w0 u u' : World} {f : Int} {g1 g2 : Nat} {l1 l2 : List Vt}
theorem T2.k (h : T2 w0 u f g1 l1 g2 l2) : Kept [] w0 u := by obtain ⟨_, _, _, _, _, _, h, _⟩ := h; exact h
theorem T2.symm (h : T2 w0 u f g1 l1 g2 l2) : T2 w0 u f g2 l2 g1 l1 := by
  obtain ⟨v1, v2, a, b, c, d, e, p, q, r, s⟩ := h
  exact ⟨v2, v1, b, a, Ne.symm c, fun k h1 h2 => d k h2 h1, e, q, p, s, r⟩
theorem T2.kept (h : T2 w0 u f g1 l1 g2 l2) (hk : Kept [] u u') : T2 w0 u' f g1 l1 g2 l2 := by
  obtain ⟨v1, v2, a, b, c, d, e, p⟩ := h
  exact ⟨v1, v2, a.kept hk, b.kept hk, c, d, e.then0 hk, p⟩
theorem T2.ofs1 (h : T2 w0 u f g1 l1 g2 l2) (hf : 0 ≤ f ∧ f ≤ 1000000) (hi : inR f l1) (vw : Int) : Ofs u (.pointer (some ⟨g1, 0, none⟩)) vw (ofv l1 vw) := by
  obtain ⟨v1, v2, a, _⟩ := h
  exact a.ofs hf hi vw
theorem T2.start {v1 : Value} (a : Tl u g1 f l1 v1) (hk : Kept [] w0 u) (h1 : w0.heap.size ≤ g1) (h2 : ∀ k, v1.ownBlock = some k → w0.heap.size ≤ k) (b : Tl u' g2 f [] (.slice none 0 0)) (hk2 : Kept [] u u') (h3 : u.heap.size ≤ g2) : T2 w0 u' f g1 l1 g2 [] :=
  ⟨v1, .slice none 0 0, a.kept hk2, b, by have := a.b.lt; omega, by simp [Value.ownBlock], hk.then0 hk2, h1, Nat.le_trans hk.size h3, h2, by simp [Value.ownBlock]⟩
theorem T2.add1 (h : T2 w0 u f g1 l1 g2 l2) (hf : 0 ≤ f ∧ f ≤ 1000000) {x : Vt} (hx : x.ok) (hn : l1.length < 1000000) : AddC u g1 x fun e w' => e = .returned (.bool (okv f l1 x)) ∧ T2 w0 w' f g1 (addv f l1 x) g2 l2 := by
  obtain ⟨v1, v2, a, b, c, d, e, p, q, r, s⟩ := h
  refine (add_any a hf hx (by omega)).mono ?_
  rintro e2 w' ⟨rfl, v', t', k', n'⟩
  obtain ⟨y, z⟩ := ft_grow e p r k' n'
  refine ⟨rfl, v', v2, t', ⟨b.b.kept k' ?_, b.o.kept k' ?_, b.ok, b.srt, b.n⟩, c, fun k h1 h2 => ?_, y, p, q, z, s⟩
  · simp only [List.mem_cons, not_or]
    exact ⟨Ne.symm c, notin_own (a.o.blk_ne b.b (by decide))⟩
  · intro k hk
    simp only [List.mem_cons, not_or]
    exact ⟨fun e => b.o.blk_ne a.b (by decide) (e ▸ hk), notin_own fun h => d k h hk⟩
  · rcases n' with n' | ⟨j, n', hj⟩
    · exact d k (n' ▸ h1) h2
    · rw [n'] at h1; cases h1
      have := b.o.lt h2; omega
theorem T2.add2 (h : T2 w0 u f g1 l1 g2 l2) (hf : 0 ≤ f ∧ f ≤ 1000000) {x : Vt} (hx : x.ok) (hn : l2.length < 1000000) : AddC u g2 x fun e w' => e = .returned (.bool (okv f l2 x)) ∧ T2 w0 w' f g1 l1 g2 (addv f l2 x) := by
  refine (h.symm.add1 hf hx hn).mono ?_
  rintro e w' ⟨rfl, t⟩
  exact ⟨rfl, t.symm⟩
end
/-- A vote behind all others. -/
theorem add_end {f : Int} {l : List Vt} {x : Vt} (h : ∀ v ∈ l, v.vw = x.vw ∧ v.fr < x.fr) (h0 : 0 ≤ x.fr) (h1 : x.fr ≤ 3 * f) : okv f l x = true ∧ addv f l x = l ++ [x] := by
  have e1 : hits l x = false := by
    unfold hits
    rw [List.any_eq_false]
    intro v hv
    have := h v hv
    simp only [decide_eq_true_eq, vcmp_eq]
    omega
  have e2 : cnt l x = l.length := by
    unfold cnt
    rw [List.countP_eq_length]
    intro v hv
    have := h v hv
    simp only [decide_eq_true_eq, vcmp_lt]
    omega
  have e3 : okv f l x = true := by
    unfold okv
    rw [decide_eq_true h0, decide_eq_true h1, e1]; rfl
  refine ⟨e3, ?_⟩
  unfold addv insv
  rw [e3, e2]
  simp
/-- A vote ahead of all others. -/
theorem add_front {f : Int} {l : List Vt} {x : Vt} (h : ∀ v ∈ l, v.vw = x.vw ∧ x.fr < v.fr) (h0 : 0 ≤ x.fr) (h1 : x.fr ≤ 3 * f) : okv f l x = true ∧ addv f l x = x :: l := by
  have e1 : hits l x = false := by
    unfold hits
    rw [List.any_eq_false]
    intro v hv
    have := h v hv
    simp only [decide_eq_true_eq, vcmp_eq]
    omega
  have e2 : cnt l x = 0 := by
    unfold cnt
    rw [List.countP_eq_zero]
    intro v hv
    have := h v hv
    simp only [decide_eq_true_eq, vcmp_lt]
    omega
  have e3 : okv f l x = true := by
    unfold okv
    rw [decide_eq_true h0, decide_eq_true h1, e1]; rfl
  refine ⟨e3, ?_⟩
  unfold addv insv
  rw [e3, e2]
  simp
/-- What most said is said by so many. -/
theorem bst_said (m : List Vt) : ∀ k, k ≤ m.length → (bst m k).2 = 0 ∨ (bst m k).2 = (saidv m (bst m k).1).length
  | 0, _ => .inl rfl
  | k + 1, hk => by
    rw [bst_succ hk]
    have ih := bst_said m k (by omega)
    unfold stepB
    split
    · exact ih
    · split
      · exact .inr rfl
      · exact ih
theorem ofv_all {l : List Vt} {vw : Int} (h : ∀ v ∈ l, v.vw = vw) : ofv l vw = l := List.filter_eq_self.2 fun v hv => by simpa using h v hv
theorem two_counts {α : Type} (p q : α → Bool) : ∀ l : List α, l.countP p + l.countP q ≤ l.length + l.countP fun x => p x && q x
  | [] => by simp
  | a :: l => by
    have := two_counts p q l
    simp only [List.countP_cons, List.length_cons]
    cases p a <;> cases q a <;> simp <;> omega
end Go.Proofs.Ythffkgnbgncfaaa
