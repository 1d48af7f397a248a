/-
  Slots: a tally and the document's hold the same votes: the plain law.
-/
import Derived.Test.YthffkgnbgncfaaaSp5
namespace Go.Proofs.Ythffkgnbgncfaaa
open Go.RowKit Go.Mem Go.Txt

/-- The same votes, ours sorted. -/
structure Sim (f : Nat) (ts rl : List Vt) : Prop where
  srt : Srt ts
  p : ts.Perm rl
  r : inR f ts
theorem Sim.nil (f : Nat) : Sim f [] [] := ⟨List.Pairwise.nil, .nil, fun v h => absurd h (by simp)⟩
theorem Sim.len {f : Nat} {ts rl : List Vt} (h : Sim f ts rl) : ts.length = rl.length := h.p.length_eq
theorem Sim.hits {f : Nat} {ts rl : List Vt} (h : Sim f ts rl) (x : Vt) : hits ts x = hits rl x := by
  unfold Go.Proofs.Ythffkgnbgncfaaa.hits
  rw [Bool.eq_iff_iff, List.any_eq_true, List.any_eq_true]
  constructor
  · rintro ⟨v, hv, hx⟩; exact ⟨v, h.p.mem_iff.1 hv, hx⟩
  · rintro ⟨v, hv, hx⟩; exact ⟨v, h.p.mem_iff.2 hv, hx⟩
theorem Sim.okv {f : Nat} {ts rl : List Vt} (h : Sim f ts rl) (x : Vt) : okv f ts x = okv f rl x := by
  unfold Go.Proofs.Ythffkgnbgncfaaa.okv
  rw [h.hits]
theorem Sim.add {f : Nat} {ts rl : List Vt} (h : Sim f ts rl) (x : Vt) : Sim f (addv f ts x) (if Go.Proofs.Ythffkgnbgncfaaa.okv f ts x then rl ++ [x] else rl) := by
  unfold addv
  cases e : Go.Proofs.Ythffkgnbgncfaaa.okv f ts x with
  | false => exact h
  | true =>
    simp only [if_true]
    have e2 := e
    unfold Go.Proofs.Ythffkgnbgncfaaa.okv at e2
    simp only [Bool.and_eq_true, decide_eq_true_eq, Bool.not_eq_true'] at e2
    refine ⟨insv_srt h.srt e2.2.2, ?_, fun v hv => ?_⟩
    · unfold insv
      refine List.perm_middle.trans ?_
      rw [List.take_append_drop]
      exact (List.Perm.cons x h.p).trans (List.perm_append_comm (l₁ := [x]) (l₂ := rl))
    · rcases mem_insv.1 hv with rfl | hv
      · exact ⟨e2.1, e2.2.1⟩
      · exact h.r v hv
theorem Sim.forget {f : Nat} {ts rl : List Vt} (h : Sim f ts rl) (vw : Int) : Sim f (ts.filter fun v => decide (vw ≤ v.vw)) (rfor vw rl) :=
  ⟨h.srt.filter _, h.p.filter _, fun v hv => h.r v (List.mem_filter.1 hv).1⟩
/-- At most one of a replica in a view. -/
theorem one_perm {f : Nat} {ts rl : List Vt} (h : Sim f ts rl) (q : Vt → Bool) (hq : ∀ a b, q a = true → q b = true → ¬ vcmp a b < 0) : ts.filter q = rl.filter q := by
  have hp := h.p.filter q
  have hs : (ts.filter q).Pairwise fun a b => vcmp a b < 0 := h.srt.filter q
  have hm : ∀ v ∈ ts.filter q, q v = true := fun v hv => (List.mem_filter.1 hv).2
  generalize ts.filter q = A at *
  match A with
  | [] => exact hp.nil_eq
  | [a] => exact (List.perm_singleton.1 hp.symm).symm
  | a :: b :: r =>
    exfalso
    have := (List.pairwise_cons.1 hs).1 b (by simp)
    exact hq a b (hm a (by simp)) (hm b (by simp)) this
theorem range_split : ∀ {L : List Vt}, L.Pairwise (fun a b => a.fr ≤ b.fr) → ∀ n : Nat, L.filter (fun v : Vt => decide (v.fr < ((n + 1 : Nat) : Int))) = L.filter (fun v : Vt => decide (v.fr < (n : Int))) ++ L.filter (fun v : Vt => decide (v.fr = (n : Int)))
  | [], _, _ => rfl
  | a :: L, h, n => by
    obtain ⟨h1, h2⟩ := List.pairwise_cons.1 h
    have ih := range_split h2 n
    rcases Int.lt_trichotomy a.fr n with e | e | e
    · rw [List.filter_cons_of_pos (by simp; omega), List.filter_cons_of_pos (by simpa using e), List.filter_cons_of_neg (by simp; omega), ih]; rfl
    · have e0 : L.filter (fun v : Vt => decide (v.fr < (n : Int))) = [] := by
        rw [List.filter_eq_nil_iff]
        intro v hv
        have := h1 v hv
        simp; omega
      rw [e0] at ih
      rw [List.filter_cons_of_pos (by simp; omega), List.filter_cons_of_neg (by simp; omega), List.filter_cons_of_pos (by simpa using e), e0, ih]; rfl
    · rw [List.filter_cons_of_neg (by simp; omega), List.filter_cons_of_neg (by simp; omega), List.filter_cons_of_neg (by simp; omega), ih]
theorem range_flat {L : List Vt} (h : L.Pairwise fun a b => a.fr ≤ b.fr) (h0 : ∀ v ∈ L, 0 ≤ v.fr) : ∀ n : Nat, ((List.range n).flatMap fun i : Nat => L.filter fun v : Vt => decide (v.fr = (i : Int))) = L.filter fun v : Vt => decide (v.fr < (n : Int))
  | 0 => by
    symm
    rw [List.range_zero, List.flatMap_nil, List.filter_eq_nil_iff]
    intro v hv
    have := h0 v hv
    simp; omega
  | n + 1 => by
    rw [List.range_succ, List.flatMap_append, range_flat h h0 n, range_split h n]
    simp
/-- The same shares. -/
theorem Sim.shares {f : Nat} {ts rl : List Vt} (h : Sim f ts rl) (vw : Int) (hs : List UInt8) : rsh rl vw hs (3 * f + 1) = saidv (ofv ts vw) hs := by
  have e1 : ∀ i : Nat, oneV vw hs i rl = oneV vw hs i ts := fun i => (one_perm h _ (by
    intro a b ha hb
    simp only [Bool.and_eq_true, decide_eq_true_eq, beq_iff_eq] at ha hb
    rw [vcmp_lt]
    omega)).symm
  have e2 : rsh rl vw hs (3 * f + 1) = (List.range (3 * f + 1)).flatMap fun i : Nat => (saidv (ofv ts vw) hs).filter fun v : Vt => decide (v.fr = (i : Int)) := by
    unfold rsh
    congr 1
    funext i
    rw [e1]
    unfold oneV saidv ofv
    rw [List.filter_filter, List.filter_filter]
    congr 1
    funext v
    cases decide (v.fr = (i : Int)) <;> cases decide (v.vw = vw) <;> cases (v.h == hs) <;> rfl
  have hmem : ∀ v ∈ saidv (ofv ts vw) hs, 0 ≤ v.fr ∧ v.fr ≤ 3 * (f : Int) := fun v hv => h.r v (List.mem_filter.1 (List.mem_filter.1 hv).1).1
  have hvw : ∀ v ∈ saidv (ofv ts vw) hs, v.vw = vw := fun v hv => by simpa using (List.mem_filter.1 (List.mem_filter.1 hv).1).2
  have hsrt : (saidv (ofv ts vw) hs).Pairwise fun a b => vcmp a b < 0 := (h.srt.filter _).filter _
  have hpw : (saidv (ofv ts vw) hs).Pairwise fun a b => a.fr ≤ b.fr := by
    refine List.Pairwise.imp_of_mem ?_ hsrt
    intro a b ha hb hab
    have := hvw a ha
    have := hvw b hb
    rw [vcmp_lt] at hab
    omega
  rw [e2, range_flat hpw (fun v hv => (hmem v hv).1)]
  refine List.filter_eq_self.2 fun v hv => ?_
  have := hmem v hv
  simp; omega
/-- What a replica said last in a view, as the law's round finds it. -/
def lst (l : List Vt) (fr vw : Int) : Nat → List UInt8 × Bool
  | 0 => (noughts 32, false)
  | k + 1 => match l[k]? with | some y => if y.fr = fr ∧ y.vw = vw then (y.h, true) else lst l fr vw k | none => lst l fr vw k
theorem lst_succ {l : List Vt} {k : Nat} (hk : k < l.length) (fr vw : Int) : lst l fr vw (k + 1) = if l[k].fr = fr ∧ l[k].vw = vw then (l[k].h, true) else lst l fr vw k := by
  show (match l[k]? with | some y => if y.fr = fr ∧ y.vw = vw then (y.h, true) else lst l fr vw k | none => lst l fr vw k) = _
  rw [List.getElem?_eq_getElem hk]
theorem lst_len {l : List Vt} (hok : ∀ v ∈ l, v.ok) (fr vw : Int) : ∀ k, k ≤ l.length → (lst l fr vw k).1.length = 32
  | 0, _ => by simp [lst]
  | k + 1, hk => by
    rw [lst_succ hk]
    split
    · exact (hok _ (List.getElem_mem hk)).1
    · exact lst_len hok fr vw k (by omega)
def ofK (o : Option Vt) : List UInt8 × Bool := match o with | some a => (a.h, true) | none => (noughts 32, false)
theorem lst_last (l : List Vt) (fr vw : Int) : ∀ k, k ≤ l.length → lst l fr vw k = ofK (((l.take k).filter fun v => decide (v.fr = fr) && decide (v.vw = vw)).getLast?)
  | 0, _ => rfl
  | k + 1, hk => by
    rw [lst_succ hk, lst_last l fr vw k (by omega), List.take_succ_eq_append_getElem hk, List.filter_append]
    by_cases h : l[k].fr = fr ∧ l[k].vw = vw
    · rw [if_pos h, List.filter_cons_of_pos (by simpa using h), List.filter_nil, List.getLast?_append]
      rfl
    · rw [if_neg h, List.filter_cons_of_neg (by simpa using h), List.filter_nil, List.append_nil]
theorem Sim.said {f : Nat} {ts rl : List Vt} (h : Sim f ts rl) (fr vw : Int) : lst rl fr vw rl.length = sd (ofv ts vw) fr := by
  have e := one_perm h (fun v => decide (v.fr = fr) && decide (v.vw = vw)) (by
    intro a b ha hb
    simp only [Bool.and_eq_true, decide_eq_true_eq] at ha hb
    rw [vcmp_lt]
    omega)
  have hs : (ts.filter fun v => decide (v.fr = fr) && decide (v.vw = vw)).Pairwise fun a b => vcmp a b < 0 := h.srt.filter _
  have hm : ∀ v ∈ ts.filter fun v => decide (v.fr = fr) && decide (v.vw = vw), v.fr = fr ∧ v.vw = vw := fun v hv => by simpa using (List.mem_filter.1 hv).2
  rw [lst_last _ _ _ _ (Nat.le_refl _), List.take_length, ← e]
  have e2 : sd (ofv ts vw) fr = ofK (ts.filter fun v => decide (v.fr = fr) && decide (v.vw = vw)).head? := by
    unfold sd ofv ofK
    rw [← List.head?_filter, List.filter_filter]
    have : (fun a : Vt => (a.fr == fr) && decide (a.vw = vw)) = fun v => decide (v.fr = fr) && decide (v.vw = vw) := by
      funext v
      congr 1
    rw [this]
    rfl
  rw [e2]
  generalize (ts.filter fun v => decide (v.fr = fr) && decide (v.vw = vw)) = A at *
  match A with
  | [] => rfl
  | [a] => rfl
  | a :: b :: r =>
    exfalso
    have h1 := (List.pairwise_cons.1 hs).1 b (by simp)
    have h2 := hm a (by simp)
    have h3 := hm b (by simp)
    rw [vcmp_lt] at h1
    omega
end Go.Proofs.Ythffkgnbgncfaaa
