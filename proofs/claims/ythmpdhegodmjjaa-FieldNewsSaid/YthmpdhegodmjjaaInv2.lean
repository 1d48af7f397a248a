/-
  A region that draws its order, in which the last operation comes behind all others: what comes ahead of it gives values.
-/
import Derived.Test.YthmpdhegodmjjaaInv
namespace Go.Txt
open Go.RowKit Go.Mem

section
variable {P : Program} {ops : Array Oper} {Q : Exit → Act → World → Prop}

/-- What is asked of each ahead of the last. -/
def AskedV (P : Program) (l : List Oper) (vs : List Value) (S : World → Prop) (a0 : Act) (o : Oper) (v : Value) : Prop :=
  ∀ a w (C : Act → World → Prop) (R : Exit → Act → World → Prop), S w →
      (∀ j u d oj, vs[j]? = some u → l[j]? = some oj → oj.dst = some d → bindsTo o j → a.tmps.getD d undef = u) →
      (∀ t, (∀ x ∈ l, x.dst ≠ some t) → a.tmps.getD t undef = a0.tmps.getD t undef) →
      (∀ w', Kept [] w w' → C (a.put o.dst v) w') → o.wp P a w C R

def EachV (p : Oper → Value → Prop) : List Oper → List Value → Prop
  | _, [] => True
  | o :: l, v :: vs => p o v ∧ EachV p l vs
  | [], _ :: _ => False
theorem EachV.get {p : Oper → Value → Prop} : ∀ (l : List Oper) (vs : List Value) (i : Nat) (o : Oper) (v : Value), EachV p l vs → l[i]? = some o → vs[i]? = some v → p o v
  | [], _, _, _, _, _, h, _ => by simp at h
  | o' :: l, [], _, _, _, _, _, h => by simp at h
  | o' :: l, v' :: vs, 0, o, v, h, ho, hv => by
    obtain rfl : o' = o := by simpa using ho
    obtain rfl : v' = v := by simpa using hv
    exact h.1
  | o' :: l, v' :: vs, i + 1, o, v, h, ho, hv => EachV.get l vs i o v h.2 (by simpa using ho) (by simpa using hv)

theorem wp_last {id : Nat} {l : List Oper} {a0 : Act} {w0 : World} (hm : P.follows .mixedOrders = true) (vs : List Value) (S : World → Prop) (hch : checkM l a0.tmps.size = true) {ol : Oper} (hlen : l.length = vs.length + 1) (hol : l[vs.length]? = some ol)
    (hlast : ((List.range vs.length).all fun j => ol.after.toList.any fun e => e.on == j && Region.binds .any e) = true)
    (hS0 : S w0.drew) (hS : ∀ u u', S u → Kept [] u u' → S u') (hA : EachV (AskedV P l vs S a0) l vs)
    (hF : ∀ w, S w → ol.wp P (actOf l.toArray (fun j => vs.getD j undef) (fun j => decide (j < vs.length)) (List.range l.length) a0) w (fun a w => Q .normal a w) Q) : (Code.region id l.toArray true).wp P Q a0 w0 := by
  simp only [checkM, Bool.and_eq_true] at hch
  obtain ⟨⟨⟨hdep, hgd⟩, hdst⟩, hsz⟩ := hch
  have hd : ∀ (i : Nat) (o : Oper), l[i]? = some o → ∀ (j : Nat), j ≠ i → ∀ (oj : Oper), l[j]? = some oj → ∀ t, oj.dst = some t → o.dst ≠ some t := by
    intro i o ho j hj oj hoj t ht e
    have hil : i < l.length := (List.getElem?_eq_some_iff.1 ho).1
    have hjl : j < l.length := (List.getElem?_eq_some_iff.1 hoj).1
    have := List.all_eq_true.1 (List.all_eq_true.1 hdst j (by simpa using hjl)) i (by simpa using hil)
    simp [ho, hoj, ht, e, hj] at this
  have hlt : ∀ (i : Nat) (o : Oper) d, l[i]? = some o → o.dst = some d → d < a0.tmps.size := by
    intro i o d ho hdd
    have := List.all_eq_true.1 hsz o (List.mem_of_getElem? ho)
    simpa [hdd] using this
  have hget : ∀ (i : Nat) (o : Oper) (d : Tmp) (v : Nat → Value) (L : Nat → Bool), l[i]? = some o → o.dst = some d → L i = true → (actOf l.toArray v L (List.range l.length) a0).tmps.getD d undef = v i := by
    intro i o d v L ho hdd hL
    exact actOf_get (by simpa using ho) hdd hL (fun j hj oj hoj t ht => hd i o ho j hj oj (by simpa using hoj) t ht) _ _ List.nodup_range (by simpa using (List.getElem?_eq_some_iff.1 ho).1) (hlt i o d ho hdd)
  have hoth : ∀ (t : Tmp) (v : Nat → Value) (L : Nat → Bool), (∀ x ∈ l, x.dst ≠ some t) → (actOf l.toArray v L (List.range l.length) a0).tmps.getD t undef = a0.tmps.getD t undef := by
    intro t v L ht
    exact actOf_other _ _ fun j _ o ho _ => ht o (List.mem_of_getElem? (by simpa using ho))
  have hset : ∀ (i : Nat) (o : Oper) (v : Nat → Value) (L : Nat → Bool), l[i]? = some o → L i = false → (actOf l.toArray v L (List.range l.length) a0).put o.dst (v i) = actOf l.toArray v (fun j => if j = i then true else L j) (List.range l.length) a0 := by
    intro i o v L ho hL
    exact (actOf_set hL (by simpa using ho) (fun j hj oj hoj t ht => hd i o ho j hj oj (by simpa using hoj) t ht) _ _ List.nodup_range (by simpa using (List.getElem?_eq_some_iff.1 ho).1)).symm
  let v : Nat → Value := fun j => vs.getD j undef
  let I : (Nat → Bool) → Act → World → Prop := fun L a w => (S w ∧ a = actOf l.toArray v L (List.range l.length) a0 ∧ L vs.length = false) ∨ ((∀ j, j < l.length → L j = true) ∧ Q .normal a w)
  refine wp_region_any hm ?_
  refine wpAny_inv I ?_ hdep ?_ ?_ _ _ _ _ (by simp) (by simp) ?_
  · rintro L L' a w hL (⟨h1, h2, h3⟩ | ⟨h1, h2⟩)
    · refine .inl ⟨h1, h2.trans (actOf_congr _ _ fun j hj => ⟨hL j (by simpa using hj), fun _ => rfl⟩), (hL _ (by simp; omega)).symm.trans h3⟩
    · exact .inr ⟨fun j hj => (hL j (by simpa using hj)).symm.trans (h1 j hj), h2⟩
  · rintro L a w i o hI ho hLi hdeps
    have ho' : l[i]? = some o := by simpa using ho
    have hil : i < l.length := (List.getElem?_eq_some_iff.1 ho').1
    have hg : o.guard = none := by
      have := List.all_eq_true.1 hgd o (List.mem_of_getElem? ho')
      simpa using this
    have hbound : ∀ j, bindsTo o j → L j = true := by
      rintro j ⟨e, he, rfl, hb⟩
      exact hdeps e he hb
    rcases hI with ⟨h1, rfl, h3⟩ | ⟨h1, _⟩
    case inr => rw [h1 i hil] at hLi; cases hLi
    unfold wpOp
    simp only [ho]
    rw [if_pos (by simp [Region.wanted, hg])]
    refine .inl ?_
    by_cases hin : i = vs.length
    · subst hin
      rw [hol] at ho'; cases ho'
      have hall : ∀ j, j < vs.length → L j = true := by
        intro j hj
        have := List.all_eq_true.1 hlast j (by simpa using hj)
        simp only [List.any_eq_true, Bool.and_eq_true, beq_iff_eq] at this
        obtain ⟨e, he, he1, he2⟩ := this
        exact hbound j ⟨e, by simpa using he, he1, he2⟩
      have e1 : actOf l.toArray v L (List.range l.length) a0 = actOf l.toArray v (fun j => decide (j < vs.length)) (List.range l.length) a0 := by
        refine actOf_congr _ _ fun j hj => ⟨?_, fun _ => rfl⟩
        have hj' : j < l.length := by simpa using hj
        by_cases h : j < vs.length
        · rw [hall j h]; simp [h]
        · obtain rfl : j = vs.length := by omega
          rw [h3]; simp
      rw [e1]
      refine Oper.wp_mono (fun a' w' hq => .inr ⟨fun j hj => ?_, hq⟩) (hF w h1)
      dsimp only
      by_cases hjn : j = vs.length
      · rw [if_pos hjn]
      · rw [if_neg hjn]; exact hall j (by omega)
    · have hi : i < vs.length := by omega
      have hv : vs[i]? = some (v i) := by simp [v, List.getD, hi]
      have hp := EachV.get l vs i o (v i) hA ho' hv
      refine hp _ w _ _ h1 (fun j u d oj hK hoj hdj hb => ?_) (fun t ht => hoth t _ L ht) (fun w' hk => .inl ⟨hS _ _ h1 hk, hset i o v L ho' hLi, ?_⟩)
      · rw [hget j oj d v L hoj hdj (hbound j hb)]
        simp [v, List.getD, hK]
      · dsimp only; rw [if_neg (fun e => hin e.symm)]; exact h3
  · rintro L a w (⟨_, _, h3⟩ | ⟨_, h2⟩) hall
    · rw [hall vs.length (by simp; omega)] at h3; cases h3
    · exact h2
  · have hf : ∀ (j : Nat), j < l.length → (Array.replicate l.toArray.size false).getD j true = false := by
      intro j hj; simp [hj]
    refine .inl ⟨hS0, ?_, hf _ (by omega)⟩
    rw [actOf_congr (L' := fun _ => false) (v' := v) _ _ fun j hj => ⟨hf j (by simpa using hj), fun _ => rfl⟩, actOf_none]
end
end Go.Txt
