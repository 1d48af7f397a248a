/-
  Slots: what most said, in whichever order one looks: the plain law.
-/
import Derived.Test.YthffkgnbgncfaaaSp6
namespace Go.Proofs.Ythffkgnbgncfaaa
open Go.RowKit Go.Mem Go.Txt

theorem less_irr : ∀ a, lessB a a = false
  | [] => rfl
  | x :: a => by rw [lessB_cons, if_pos rfl]; exact less_irr a
theorem less_trans : ∀ a b c : List UInt8, a.length = b.length → b.length = c.length → lessB a b = true → lessB b c = true → lessB a c = true
  | [], [], _, _, _, h, _ => by simp [lessB] at h
  | x :: a, y :: b, z :: c, h1, h2, h3, h4 => by
    rw [lessB_cons] at h3 h4 ⊢
    by_cases e1 : x = y
    · subst e1
      rw [if_pos rfl] at h3
      by_cases e2 : x = z
      · subst e2
        rw [if_pos rfl] at h4 ⊢
        exact less_trans a b c (by simpa using h1) (by simpa using h2) h3 h4
      · rw [if_neg e2] at h4 ⊢; exact h4
    · rw [if_neg e1] at h3
      by_cases e2 : y = z
      · subst e2
        rw [if_neg e1]; exact h3
      · rw [if_neg e2] at h4
        simp only [decide_eq_true_eq] at h3 h4
        have e3 : x ≠ z := by rintro rfl; omega
        rw [if_neg e3, decide_eq_true_eq]; omega
theorem less_tot : ∀ a b : List UInt8, a.length = b.length → lessB a b = false → lessB b a = false → a = b
  | [], [], _, _, _ => rfl
  | x :: a, y :: b, h1, h2, h3 => by
    rw [lessB_cons] at h2 h3
    by_cases e : x = y
    · subst e
      rw [if_pos rfl] at h2 h3
      rw [less_tot a b (by simpa using h1) h2 h3]
    · rw [if_neg e] at h2
      rw [if_neg (Ne.symm e)] at h3
      simp only [decide_eq_false_iff_not] at h2 h3
      exact absurd (UInt8.toNat_inj.1 (by omega)) e
theorem bcmp_less : ∀ a b : List UInt8, a.length = b.length → (bcmp a b < 0 ↔ lessB a b = true)
  | [], [], _ => by simp [bcmp, lessB, Lib.compareBytes]
  | x :: a, y :: b, h => by
    have ih := bcmp_less a b (by simpa using h)
    rw [lessB_cons]
    unfold bcmp at ih ⊢
    rw [Lib.compareBytes]
    by_cases e : x = y
    · subst e
      rw [if_pos rfl, if_neg (UInt8.lt_irrefl x), if_neg (UInt8.lt_irrefl x)]
      exact ih
    · rw [if_neg e, decide_eq_true_eq, ← UInt8.lt_iff_toNat_lt]
      by_cases h1 : x < y
      · rw [if_pos h1]; simp [h1]
      · rw [if_neg h1]
        have h2 : y < x := by
          rw [UInt8.lt_iff_toNat_lt] at h1 ⊢
          have : x.toNat ≠ y.toNat := fun h => e (UInt8.toNat_inj.1 h)
          omega
        rw [if_pos h2]
        simp [h1]
/-- The best of those that were looked at. -/
def Top (c : List UInt8 → Nat) (S : List (List UInt8)) (p : List UInt8 × Nat) : Prop :=
  (S = [] ∧ p = (noughts 32, 0)) ∨ (p.1 ∈ S ∧ p.2 = c p.1 ∧ ∀ h ∈ S, c h < p.2 ∨ c h = p.2 ∧ lessB h p.1 = false)
theorem top_uniq {c : List UInt8 → Nat} {S S' : List (List UInt8)} {p q : List UInt8 × Nat} (hS : ∀ h, h ∈ S ↔ h ∈ S') (hl : ∀ h ∈ S, h.length = 32) (h1 : Top c S p) (h2 : Top c S' q) : p = q := by
  rcases h1 with ⟨rfl, rfl⟩ | ⟨a1, a2, a3⟩
  · rcases h2 with ⟨_, rfl⟩ | ⟨b1, _, _⟩
    · rfl
    · exact absurd ((hS _).2 b1) (by simp)
  · rcases h2 with ⟨rfl, rfl⟩ | ⟨b1, b2, b3⟩
    · exact absurd ((hS _).1 a1) (by simp)
    · have x := a3 q.1 ((hS _).2 b1)
      have y := b3 p.1 ((hS _).1 a1)
      have e2 : p.2 = q.2 := by omega
      have z1 : lessB q.1 p.1 = false := by rcases x with x | x; omega; exact x.2
      have z2 : lessB p.1 q.1 = false := by rcases y with y | y; omega; exact y.2
      exact Prod.ext (less_tot _ _ (by rw [hl _ a1, hl _ ((hS _).2 b1)]) z2 z1) e2
theorem top_skip {c : List UInt8 → Nat} {S : List (List UInt8)} {p : List UInt8 × Nat} (h : Top c S p) {y : List UInt8} (hy : y ∈ S) : Top c (S ++ [y]) p := by
  rcases h with ⟨rfl, _⟩ | ⟨h1, h2, h3⟩
  · exact absurd hy (by simp)
  · refine .inr ⟨by simp [h1], h2, fun h hh => ?_⟩
    rcases List.mem_append.1 hh with hh | hh
    · exact h3 h hh
    · rw [List.mem_singleton.1 hh]; exact h3 y hy
theorem top_more {c : List UInt8 → Nat} {S : List (List UInt8)} {p : List UInt8 × Nat} (h : Top c S p) (hl : ∀ h ∈ S, h.length = 32) {y : List UInt8} (hy : y.length = 32) (hc : 0 < c y) :
    Top c (S ++ [y]) (if p.2 < c y ∨ c y = p.2 ∧ lessB y p.1 = true then (y, c y) else p) := by
  rcases h with ⟨rfl, rfl⟩ | ⟨h1, h2, h3⟩
  · rw [if_pos (.inl hc)]
    refine .inr ⟨by simp, rfl, fun h hh => ?_⟩
    have : h = y := by simpa using hh
    subst this
    exact .inr ⟨rfl, less_irr _⟩
  · split
    · rename_i hc2
      refine .inr ⟨by simp, rfl, fun h hh => ?_⟩
      simp only
      rcases List.mem_append.1 hh with hh | hh
      · rcases hc2 with hc2 | ⟨e, hc2⟩
        · have := h3 h hh; omega
        · rcases h3 h hh with h4 | ⟨h4, h5⟩
          · omega
          · refine .inr ⟨by omega, ?_⟩
            cases h6 : lessB h y with
            | false => rfl
            | true =>
              rw [less_trans h y p.1 (by rw [hl h hh, hy]) (by rw [hl _ h1, hy]) h6 hc2] at h5
              exact h5
      · rw [List.mem_singleton.1 hh]; exact .inr ⟨rfl, less_irr _⟩
    · rename_i hc2
      refine .inr ⟨by simp [h1], h2, fun h hh => ?_⟩
      rcases List.mem_append.1 hh with hh | hh
      · exact h3 h hh
      · rw [List.mem_singleton.1 hh]
        rcases Nat.lt_trichotomy (c y) p.2 with e | e | e
        · exact .inl e
        · refine .inr ⟨e, ?_⟩
          cases h6 : lessB y p.1 with
          | false => rfl
          | true => exact absurd (.inr ⟨e, h6⟩) hc2
        · exact absurd (.inl e) hc2
theorem said_pos {m : List Vt} {v : Vt} (h : v ∈ m) : 0 < (saidv m v.h).length := List.length_pos_of_mem (List.mem_filter.2 ⟨h, by simp⟩)
theorem bst_top {m : List Vt} (hok : ∀ v ∈ m, v.ok) : ∀ k, k ≤ m.length → Top (fun h => (saidv m h).length) ((m.take k).map Vt.h) (bst m k)
  | 0, _ => .inl ⟨rfl, rfl⟩
  | k + 1, hk => by
    have ih := bst_top hok k (by omega)
    have hl : ∀ h ∈ (m.take k).map Vt.h, h.length = 32 := fun h hh => by
      obtain ⟨v, hv, rfl⟩ := List.mem_map.1 hh
      exact (hok v (List.mem_of_mem_take hv)).1
    have hm := List.getElem_mem (show k < m.length from hk)
    rw [bst_succ hk, List.take_succ_eq_append_getElem hk, List.map_append]
    unfold stepB
    split
    · rename_i ha
      obtain ⟨v, hv, e⟩ := List.any_eq_true.1 ha
      refine top_skip ih ?_
      rw [← show v.h = m[k].h from by simpa using e]
      exact List.mem_map.2 ⟨v, hv, rfl⟩
    · have := top_more ih hl (hok _ hm).1 (said_pos hm)
      simp only [← bcmp_less m[k].h (bst m k).1 (by rw [(hok _ hm).1, bst_len hok k (by omega)])] at this
      exact this
theorem rbst_top {f : Nat} {ts rl : List Vt} (hs : Sim f ts rl) (hok : ∀ v ∈ rl, v.ok) (vw : Int) : ∀ k, k ≤ rl.length → Top (fun h => (saidv (ofv ts vw) h).length) ((ofv (rl.take k) vw).map Vt.h) (rbst rl vw (3 * f + 1) k)
  | 0, _ => .inl ⟨rfl, rfl⟩
  | k + 1, hk => by
    have ih := rbst_top hs hok vw k (by omega)
    have hl : ∀ h ∈ (ofv (rl.take k) vw).map Vt.h, h.length = 32 := fun h hh => by
      obtain ⟨v, hv, rfl⟩ := List.mem_map.1 hh
      exact (hok v (List.mem_of_mem_take (List.mem_filter.1 hv).1)).1
    have hm := List.getElem_mem (show k < rl.length from hk)
    rw [rbst_succ hk, List.take_succ_eq_append_getElem hk, show ofv (rl.take k ++ [rl[k]]) vw = ofv (rl.take k) vw ++ [rl[k]].filter (fun v => decide (v.vw = vw)) from List.filter_append ..]
    unfold rstep
    by_cases e : rl[k].vw = vw
    · rw [if_pos e, List.filter_cons_of_pos (by simpa using e), List.map_append, hs.shares]
      have hm2 : rl[k] ∈ ofv ts vw := List.mem_filter.2 ⟨hs.p.mem_iff.2 hm, by simpa using e⟩
      exact top_more ih hl (hok _ hm).1 (said_pos hm2)
    · rw [if_neg e, List.filter_cons_of_neg (by simpa using e), List.filter_nil, List.append_nil]
      exact ih
theorem Sim.best {f : Nat} {ts rl : List Vt} (hs : Sim f ts rl) (hok : ∀ v ∈ rl, v.ok) (vw : Int) : rbst rl vw (3 * f + 1) rl.length = bst (ofv ts vw) (ofv ts vw).length := by
  have hok2 : ∀ v ∈ ofv ts vw, v.ok := fun v hv => hok v (hs.p.mem_iff.1 (List.mem_filter.1 hv).1)
  have h1 := rbst_top hs hok vw _ (Nat.le_refl _)
  have h2 := bst_top hok2 _ (Nat.le_refl _)
  rw [List.take_length] at h1 h2
  refine top_uniq ?_ ?_ h1 h2
  · intro h
    have hp : (ofv rl vw).Perm (ofv ts vw) := hs.p.symm.filter _
    exact (hp.map Vt.h).mem_iff
  · intro h hh
    obtain ⟨v, hv, rfl⟩ := List.mem_map.1 hh
    exact (hok v (List.mem_filter.1 hv).1).1
end Go.Proofs.Ythffkgnbgncfaaa
