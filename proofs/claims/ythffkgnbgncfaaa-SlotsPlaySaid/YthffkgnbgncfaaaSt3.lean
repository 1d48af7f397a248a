/-
  Slots: votes sought.
-/
import Derived.Test.YthffkgnbgncfaaaSt2
import Derived.Test.YthffkgnbgncfaaaMem7
namespace Go.Proofs.Ythffkgnbgncfaaa
open Go.RowKit Go.Mem Go.Txt

/-- Hashes have 32 bytes, signatures 64. -/
def Vt.ok (v : Vt) : Prop := v.h.length = 32 ∧ v.s.length = 64
abbrev vcs (l : List Vt) : List Value := l.flatMap Vt.c
theorem Vt.len {v : Vt} (h : v.ok) : v.c.length = 98 := by simp [Vt.c, h.1, h.2]
theorem vcs_len {l : List Vt} (h : ∀ v ∈ l, v.ok) : (vcs l).length = l.length * 98 := by
  induction l with
  | nil => rfl
  | cons a l ih => rw [vcs, List.flatMap_cons, List.length_append, Vt.len (h a (by simp)), ih fun v hv => h v (by simp [hv]), List.length_cons]; omega
theorem vcs_take {l : List Vt} (h : ∀ v ∈ l, v.ok) (i : Nat) (hi : i ≤ l.length) : (vcs l).take (i * 98) = vcs (l.take i) := by
  have e : vcs l = vcs (l.take i) ++ vcs (l.drop i) := by rw [vcs, vcs, vcs, ← List.flatMap_append, List.take_append_drop]
  have hl : (vcs (l.take i)).length = i * 98 := by rw [vcs_len fun v hv => h v (List.mem_of_mem_take hv), List.length_take, Nat.min_eq_left hi]
  rw [e, ← hl, List.take_left]
theorem vcs_drop {l : List Vt} (h : ∀ v ∈ l, v.ok) (i : Nat) (hi : i ≤ l.length) : (vcs l).drop (i * 98) = vcs (l.drop i) := by
  have e : vcs l = vcs (l.take i) ++ vcs (l.drop i) := by rw [vcs, vcs, vcs, ← List.flatMap_append, List.take_append_drop]
  have hl : (vcs (l.take i)).length = i * 98 := by rw [vcs_len fun v hv => h v (List.mem_of_mem_take hv), List.length_take, Nat.min_eq_left hi]
  rw [e, ← hl, List.drop_left]
theorem vcs_split {l : List Vt} (i : Nat) (hi : i < l.length) : vcs l = vcs (l.take i) ++ (l[i].c ++ vcs (l.drop (i + 1))) := by
  have : l = l.take i ++ (l[i] :: l.drop (i + 1)) := by rw [← List.drop_eq_getElem_cons hi, List.take_append_drop]
  rw [vcs, vcs, vcs, ← List.flatMap_cons, ← List.flatMap_append, ← this]
theorem one_vc (v : Vt) : ∀ u ∈ v.c, u.oneCell' = true := by
  intro u hu
  simp only [Vt.c, List.mem_cons, List.mem_append] at hu
  rcases hu with rfl | rfl | hu | hu
  · rfl
  · rfl
  · exact one_bv _ _ hu
  · exact one_bv _ _ hu
theorem one_vcs (l : List Vt) : ∀ u ∈ vcs l, u.oneCell' = true := by
  intro u hu
  obtain ⟨v, _, hv⟩ := List.mem_flatMap.1 hu
  exact one_vc v u hv
def vz : Value := .agg (.int .i64 0 :: .int .i64 0 :: (bv (List.replicate 32 0) ++ bv (List.replicate 64 0))).toArray
theorem votesT : SliceT Try.prog 56 63 98 112 vz := ⟨Try.underlying56, by kernel_rfl, rfl, by omega⟩
theorem voteR : RowT Try.prog 63 98 := ⟨⟨_, Try.underlying63, rfl⟩, by kernel_rfl⟩
/-- Votes, read: what stands at a place. -/
theorem vote_at {w : World} {v : Value} {l : List Vt} (h : Rd w 98 v l.length (vcs l)) (hok : ∀ v ∈ l, v.ok) {i : Nat} (hi : i < l.length) : ∃ g o c, v = .slice (some ⟨g, o, none⟩) l.length c ∧ w.rangeAt g (o + i * 98) l[i].c := by
  obtain ⟨b, o, c, rfl, _, _⟩ := h.at_ (by omega)
  refine ⟨b, o, c, rfl, h.elem (pre := vcs (l.take i)) (post := vcs (l.drop (i + 1))) (vcs_split i hi) ?_ (by omega)⟩
  rw [vcs_len fun v hv => hok v (List.mem_of_mem_take hv), List.length_take, Nat.min_eq_left (by omega)]
theorem vote_rng {w : World} {l : List Vt} {g o c : Nat} (h : Rd w 98 (.slice (some ⟨g, o, none⟩) l.length c) l.length (vcs l)) (hok : ∀ v ∈ l, v.ok) {i : Nat} (hi : i < l.length) : w.rangeAt g (o + i * 98) l[i].c := by
  refine h.elem (pre := vcs (l.take i)) (post := vcs (l.drop (i + 1))) (vcs_split i hi) ?_ (by omega)
  rw [vcs_len fun v hv => hok v (List.mem_of_mem_take hv), List.length_take, Nat.min_eq_left (by omega)]
/-- Rising by views, then by replicas. -/
def Srt (l : List Vt) : Prop := l.Pairwise fun a b => vcmp a b < 0
/-- How many come ahead. -/
def cnt (l : List Vt) (x : Vt) : Nat := l.countP fun v => decide (vcmp v x < 0)
/-- Is it there? -/
def hits (l : List Vt) (x : Vt) : Bool := l.any fun v => decide (vcmp v x = 0)
theorem cmpi_lt {a b : Int} : cmpi a b < 0 ↔ a < b := by unfold cmpi; split <;> (try split) <;> omega
theorem cmpi_eq {a b : Int} : cmpi a b = 0 ↔ a = b := by unfold cmpi; split <;> (try split) <;> omega
theorem vcmp_lt {a b : Vt} : vcmp a b < 0 ↔ a.vw < b.vw ∨ a.vw = b.vw ∧ a.fr < b.fr := by
  unfold vcmp or2
  split
  · rename_i h; rw [cmpi_eq] at h; rw [cmpi_lt]; omega
  · rename_i h; rw [cmpi_eq] at h; rw [cmpi_lt]; omega
theorem vcmp_eq {a b : Vt} : vcmp a b = 0 ↔ a.vw = b.vw ∧ a.fr = b.fr := by
  unfold vcmp or2
  split
  · rename_i h; rw [cmpi_eq] at h; rw [cmpi_eq]; omega
  · rename_i h; rw [cmpi_eq] at h; rw [cmpi_eq]; omega
theorem srt_lt {l : List Vt} (hs : Srt l) {x : Vt} {i j : Nat} (hij : i ≤ j) (hj : j < l.length) (h : vcmp l[j] x < 0) : vcmp (l[i]'(by omega)) x < 0 := by
  rcases Nat.lt_or_eq_of_le hij with h1 | h1
  · have := List.pairwise_iff_getElem.1 hs i j (by omega) hj h1
    rw [vcmp_lt] at this h ⊢
    omega
  · subst h1; exact h
theorem cnt_eq (x : Vt) : ∀ (l : List Vt) (i : Nat), i ≤ l.length → (∀ t (_ : t < i) (h : t < l.length), vcmp l[t] x < 0) → (∀ t (_ : i ≤ t) (h : t < l.length), ¬ vcmp l[t] x < 0) → cnt l x = i
  | [], i, hi, _, _ => by simp at hi; simp [cnt, hi]
  | a :: r, 0, _, _, h2 => by
    unfold cnt
    rw [List.countP_eq_zero]
    intro y hy
    obtain ⟨t, ht, rfl⟩ := List.getElem_of_mem hy
    simpa using h2 t (Nat.zero_le _) ht
  | a :: r, i + 1, hi, h1, h2 => by
    have ha : vcmp a x < 0 := h1 0 (by omega) (by simp)
    have := cnt_eq x r i (by simpa using hi) (fun t ht h => by have := h1 (t + 1) (by omega) (by simpa using h); simpa using this) (fun t ht h => by have := h2 (t + 1) (by omega) (by simpa using h); simpa using this)
    unfold cnt at this ⊢
    rw [List.countP_cons_of_pos (by simpa using ha), this]
theorem hits_eq {l : List Vt} (hs : Srt l) {x : Vt} (h : cnt l x < l.length) (hc : ∀ t (_ : t < cnt l x) (h : t < l.length), vcmp l[t] x < 0) : hits l x = decide (vcmp l[cnt l x] x = 0) := by
  by_cases h0 : vcmp l[cnt l x] x = 0
  · rw [decide_eq_true h0]
    exact List.any_eq_true.2 ⟨_, List.getElem_mem h, by simpa using h0⟩
  · rw [decide_eq_false h0]
    unfold hits
    rw [List.any_eq_false]
    intro y hy
    obtain ⟨t, ht, rfl⟩ := List.getElem_of_mem hy
    simp only [decide_eq_true_eq]
    intro h1
    rcases Nat.lt_trichotomy t (cnt l x) with h2 | h2 | h2
    · have := hc t h2 ht; omega
    · subst h2; exact h0 h1
    · have := List.pairwise_iff_getElem.1 hs _ t h ht h2
      rw [vcmp_eq] at h1 h0
      rw [vcmp_lt] at this
      have hn : ¬ vcmp l[cnt l x] x < 0 := by
        intro h3
        have e := cnt_eq x (l.take (cnt l x + 1)) (cnt l x + 1) (by simp; omega) (fun u hu hh => by
          rw [List.getElem_take]
          rcases Nat.lt_or_eq_of_le (Nat.le_of_lt_succ hu) with h5 | h5
          · exact hc u h5 _
          · subst h5; exact h3) (fun u hu hh => by simp at hh; omega)
        have e2 : cnt l x = cnt (l.take (cnt l x + 1)) x + cnt (l.drop (cnt l x + 1)) x := by
          conv => lhs; unfold cnt; rw [← List.take_append_drop (cnt l x + 1) l, List.countP_append]
          rfl
        omega
      rw [vcmp_lt] at hn
      omega
theorem hits_nil {l : List Vt} {x : Vt} (h : ¬ cnt l x < l.length) : hits l x = false := by
  unfold hits
  rw [List.any_eq_false]
  intro y hy
  have h1 : cnt l x = l.length := Nat.le_antisymm List.countP_le_length (by omega)
  have := List.countP_eq_length.1 h1 y hy
  simp only [decide_eq_true_eq] at this ⊢
  omega
end Go.Proofs.Ythffkgnbgncfaaa
