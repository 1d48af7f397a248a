/-
  The order of a region that draws: the theorem.
-/
import Derived.Test.YtbhjhfemicbhaaaText
namespace Go.Txt
section
variable {P : Program} {ops : Array Oper} {T : Exit → Act → World → Prop}

theorem settled_spec (h : settled P ops = true) {j k : Nat} {oj ok : Oper} (hj : ops[j]? = some oj) (hc : opCls P oj.op = 1) (hk : ops[k]? = some ok) {t : Tmp} (ht : t ∈ oj.looksAt ops) (hd : ok.dst = some t) :
    ∃ e ∈ oj.after, Region.binds .any e = true ∧ e.on = k := by
  unfold settled at h
  have h1 := List.all_eq_true.1 h oj (by
    have : ops.toList[j]? = some oj := by simpa using hj
    exact List.mem_of_getElem? this)
  simp only [hc, bne_self_eq_false, Bool.false_or] at h1
  have hlt : k < ops.size := (Array.getElem?_eq_some_iff.1 hk).1
  have h2 := List.all_eq_true.1 h1 k (by simpa using hlt)
  simp only [hk, Option.bind_some, hd] at h2
  have hcon : (oj.looksAt ops).contains t = true := by simpa using ht
  rw [hcon] at h2
  simp only [Bool.not_true, Bool.false_or] at h2
  obtain ⟨e, he, hb⟩ := List.any_eq_true.1 h2
  simp only [Bool.and_eq_true, beq_iff_eq] at hb
  exact ⟨e, by simpa using he, hb.1, hb.2⟩

/-- What is known at the end is known of an operation that may come up now. -/
theorem fits_ready (hT : ∀ e a w, T e a w → e = .normal) (hset : settled P ops = true) (hplain : ∀ e a w, T e a w → plainAt P ops a = true)
    {j : Nat} {oj : Oper} (hoj : ops[j]? = some oj) (hc : opCls P oj.op = 1) {listed : Array Bool} (hr : j ∈ Region.ready .any ops listed)
    {i : Nat} {oi : Oper} (hoi : ops[i]? = some oi) (hi : listed.getD i true = false) {fuel : Nat} {a : Act} {w : World}
    (h : wpOp P ops T i (wpAny P .any ops T fuel (listed.setIfInBounds i true)) a w) (hw : Region.wanted oj (yielded ops a.tmps) = true) : fitsOp a.eval oj.op = true := by
  obtain ⟨_, oj', hoj', hall⟩ := mem_ready.1 hr
  rw [hoj] at hoj'
  cases hoj'
  have unl : ∀ (k : Nat) (ok : Oper) (t : Tmp), ops[k]? = some ok → t ∈ oj.looksAt ops → ok.dst = some t → listed.getD k true = true := by
    intro k ok t hk ht hd
    obtain ⟨e, he, hb, rfl⟩ := settled_spec hset hoj hc hk ht hd
    have := hall e he hb
    rcases Nat.lt_or_ge e.on listed.size with h' | h'
    · simp [h'] at this ⊢; exact this
    · simp [Array.getElem?_eq_none h'] at this
  obtain ⟨a1, w1, h1, k1⟩ := wpOp_some hT hoi h
  obtain ⟨a2, w2, h2, k2⟩ := wpAny_some hT _ _ _ _ h1
  have same : ∀ t ∈ oj.looksAt ops, a2.tmps[t]? = a.tmps[t]? := by
    intro t ht
    rw [k2 t fun k ok hk hu hd => ?_, k1 t fun hd => ?_]
    · have := unl i oi t hoi ht hd; rw [hi] at this; cases this
    · have hl := unl k ok t hk ht hd
      by_cases hik : i = k
      · subst hik; rw [hi] at hl; cases hl
      · rw [getD_set_ne true hik, hl] at hu; cases hu
  obtain ⟨s1, s2⟩ := look_same same
  have hp := hplain _ _ _ h2
  unfold plainAt at hp
  have := List.all_eq_true.1 hp oj (by
    have : ops.toList[j]? = some oj := by simpa using hoj
    exact List.mem_of_getElem? this)
  rw [s1, hw] at this
  simp only [hc, bne_self_eq_false, Bool.not_true, Bool.or_self, Bool.false_or] at this
  rw [← this]
  exact (fitsOp_congr s2).symm

/-- The operation that the text has next may be taken first. -/
theorem wpAny_text_first (hT : ∀ e a w, T e a w → e = .normal) (hset : settled P ops = true) (hplain : ∀ e a w, T e a w → plainAt P ops a = true)
    (hsel : ∀ (j : Nat) (o : Oper) cs b, ops[j]? = some o → o.op ≠ .select cs b) {i : Nat} {oi : Oper} (hoi : ops[i]? = some oi) :
    ∀ (fuel : Nat) (listed : Array Bool) (a : Act) (w : World),
      Closed ops listed →
      (∀ j oj, ops[j]? = some oj → j ≠ i → listed.getD j true = false → ¬ Late ops i oj → pairOk P ops oi oj = true) →
      i ∈ Region.ready .any ops listed →
      wpOp P ops T i (wpAny P .any ops T fuel (listed.setIfInBounds i true)) a w → wpAny P .any ops T (fuel + 1) listed a w := by
  intro fuel
  induction fuel with
  | zero =>
    intro listed a w _ _ hr H
    refine ⟨fun h => (by rw [h] at hr; cases hr), fun j hj => ?_⟩
    by_cases hji : j = i
    · subst hji; exact H
    · obtain ⟨a1, w1, h1, _⟩ := wpOp_some hT hoi H
      have := ready_mono hj hji
      rw [h1.1] at this
      cases this
  | succ fuel ih =>
    intro listed a w hclo hfree hr H
    refine ⟨fun h => (by rw [h] at hr; cases hr), fun j hj => ?_⟩
    by_cases hji : j = i
    · subst hji; exact H
    · obtain ⟨hjun, oj, hoj, hall⟩ := mem_ready.1 hj
      have hiun := (mem_ready.1 hr).1
      have hnot : ¬ Late ops i oj := not_late hclo hoj hj hiun
      have hpair := hfree j oj hoj hji hjun hnot
      have hfree' : ∀ k ok, ops[k]? = some ok → k ≠ i → (listed.setIfInBounds j true).getD k true = false →
          ¬ Late ops i ok → pairOk P ops oi ok = true := fun k ok hk hki hun hno => by
        refine hfree k ok hk hki ?_ hno
        by_cases hjk : j = k
        · subst hjk; exact hjun
        · rw [getD_set_ne true hjk] at hun; exact hun
      have hsi := fun cs b => hsel i oi cs b hoi
      have hsj := fun cs b => hsel j oj cs b hoj
      unfold pairOk at hpair
      simp only [Bool.and_eq_true, Bool.or_eq_true, decide_eq_true_eq, beq_iff_eq] at hpair
      obtain ⟨hap, hcl⟩ := hpair
      have H' : wpOp P ops T i (fun a' w' => wpOp P ops T j (wpAny P .any ops T fuel ((listed.setIfInBounds i true).setIfInBounds j true)) a' w') a w :=
        wpOp_mono (fun a' w' hh => hh.2 j (ready_mono hj hji)) H
      have H'' : wpOp P ops T j (fun a' w' => wpOp P ops T i (wpAny P .any ops T fuel ((listed.setIfInBounds i true).setIfInBounds j true)) a' w') a w := by
        rcases hcl with (hci | hcj) | ⟨hci, hcj⟩
        · have hf : Region.wanted oi (yielded ops a.tmps) = true → Free P (execOp a.eval oi) := fun hw => free_of_cls hci fun h1 => fits_ready hT hset hplain hoi h1 hr hoi hiun H hw
          obtain ⟨v, hy, hK⟩ := yields_of hoi hT hf H'
          refine wpOp_mono (fun a' w' hh => hh.1.wpOp hoi hh.2) (wpOp_put hoj hap hsi hsj (fun c a w h => ?_) hy hK)
          have := hT _ _ _ h; cases this
        · have hf : Region.wanted oj (yielded ops a.tmps) = true → Free P (execOp a.eval oj) := fun hw => free_of_cls hcj fun h1 => fits_ready hT hset hplain hoj h1 hj hoi hiun H hw
          have : ∃ v, Yields P ops oj v a := by
            by_cases hw : Region.wanted oj (yielded ops a.tmps) = true
            · obtain ⟨a1, w1, h1, k1⟩ := wpOp_some hT hoi H'
              obtain ⟨g1, g2, g3⟩ := Oper.apart_spec hap
              have hs : ∀ t ∈ oj.looksAt ops, a1.tmps[t]? = a.tmps[t]? := fun t ht => k1 t fun hd => g1 t hd ht
              obtain ⟨s1, s2⟩ := look_same hs
              have hex : execOp a1.eval oj = execOp a.eval oj := execOp_congr oj hsj s2
              obtain ⟨v, hy, _⟩ := yields_of hoj hT (fun _ => by rw [hex]; exact hf hw) h1
              exact ⟨v, hy.of_same hex.symm s1.symm⟩
            · exact ⟨undef, .inr ⟨by simpa using hw, rfl⟩⟩
          obtain ⟨v, hy⟩ := this
          exact hy.wpOp hoj (wpOp_shift hoi hoj hap hsi hsj hT hy H')
        · exact wpOp_reads hoi hoj hap hsi hsj hT hci hcj H'
      refine wpOp_mono (fun a' w' hh => ih (listed.setIfInBounds j true) a' w' (hclo.set hj) hfree' (ready_mono hr (Ne.symm hji)) ?_) H''
      rw [Array.setIfInBounds_comm _ _ hji]
      exact hh

theorem freeHere_spec {listed : Array Bool} {i : Nat} {oi : Oper} (hi : ops[i]? = some oi) (h : freeHere P ops listed i = true) :
    ∀ j oj, ops[j]? = some oj → j ≠ i → listed.getD j true = false → ¬ Late ops i oj → pairOk P ops oi oj = true := by
  intro j oj hj hji hun hno
  unfold freeHere at h
  simp only [hi] at h
  have hlt : j < ops.size := (Array.getElem?_eq_some_iff.1 hj).1
  have h2 := List.all_eq_true.1 h j (by simpa using hlt)
  rw [hun] at h2
  simp only [hj, Bool.or_false, Bool.or_eq_true, beq_iff_eq] at h2
  rcases h2 with h2 | h2 | h2
  · exact (hji h2).elim
  · exact (hno (behind_spec _ _ (fun j => by simp) (fun j oj _ h => by simp at h) j oj hj h2)).elim
  · exact h2

theorem wpAny_text (hT : ∀ e a w, T e a w → e = .normal) (hset : settled P ops = true) (hplain : ∀ e a w, T e a w → plainAt P ops a = true)
    (hsel : ∀ (j : Nat) (o : Oper) cs b, ops[j]? = some o → o.op ≠ .select cs b) : ∀ (l : List Oper) (k : Nat) (listed : Array Bool) (a : Act) (w : World), (∀ j, l[j]? = ops[k + j]?) → Closed ops listed →
    textFrom P ops l.length k listed = true → wpList P ops T l a w → wpAny P .any ops T l.length listed a w
  | [], _, _, _, _, _, _, hB, h => ⟨by simpa [textFrom] using hB, h⟩
  | o :: l, k, listed, a, w, hl, hc, hB, h => by
    have h0 : ops[k]? = some o := by simpa using (hl 0).symm
    simp only [List.length_cons, textFrom, Bool.and_eq_true] at hB
    obtain ⟨⟨hr, hf⟩, hB'⟩ := hB
    have hst : wpOp P ops T k (wpList P ops T l) a w := by unfold wpOp; simp only [h0]; exact h
    refine wpAny_text_first hT hset hplain hsel h0 l.length listed a w hc (freeHere_spec h0 hf) (by simpa using hr) ?_
    exact wpOp_mono (fun a' w' hh => wpAny_text hT hset hplain hsel l (k + 1) _ a' w' (fun j => by have := hl (j + 1); simpa [Nat.add_assoc, Nat.add_comm 1 j] using this) (hc.set (by simpa using hr)) hB' hh) hst

/-- What is asked at a region's end. -/
def Post (P : Program) (ops : Array Oper) (Q : Exit → Act → World → Prop) (e : Exit) (a : Act) (w : World) : Prop := e = .normal ∧ plainAt P ops a = true ∧ Q .normal a w

theorem wp_text {id : Nat} {Q : Exit → Act → World → Prop} {a : Act} {w : World} {l : List Oper} (hm : P.follows .mixedOrders = true) (hB : textB P l.toArray = true)
    (h : wpList P l.toArray (Post P l.toArray Q) l a w.drew) : (Code.region id l.toArray true).wp P Q a w := by
  simp only [textB, Bool.and_eq_true] at hB
  obtain ⟨⟨hns, hset⟩, hB⟩ := hB
  have hT : ∀ e a w, Post P l.toArray Q e a w → e = .normal := fun _ _ _ h => h.1
  have hplain : ∀ e a w, Post P l.toArray Q e a w → plainAt P l.toArray a = true := fun _ _ _ h => h.2.1
  have h1 := wpAny_text hT hset hplain (Region.noSelect_spec hns) l 0 (Array.replicate l.toArray.size false) a w.drew (by simp) (Closed.start _) (by simpa using hB) h
  refine wp_region_any hm ?_
  have mono : ∀ (fuel : Nat) (listed : Array Bool) (a : Act) (w : World), wpAny P .any l.toArray (Post P l.toArray Q) fuel listed a w → wpAny P .any l.toArray Q fuel listed a w := by
    intro fuel
    induction fuel with
    | zero => exact fun listed a w h => ⟨h.1, h.2.2.2⟩
    | succ fuel ih =>
      intro listed a w h
      refine ⟨fun h0 => (h.1 h0).2.2, fun i hi => ?_⟩
      have h2 := wpOp_mono (fun a' w' hh => ih _ a' w' hh) (h.2 i hi)
      unfold wpOp at h2 ⊢
      split
      · rename_i ho; simp only [ho] at h2; exact h2
      · rename_i o ho
        simp only [ho] at h2
        split
        · rename_i hw
          simp only [hw, if_true] at h2
          rcases h2 with h2 | ⟨_, hl⟩
          case inr => exact (not_lets hT hl).elim
          refine .inl ?_
          unfold Oper.wp at h2 ⊢
          generalize (execOp a.eval o).run P w = r at *
          cases r with
          | ok n w' =>
            cases n <;> simp only [Oper.upon] at h2 ⊢ <;> first
              | exact h2
              | exact Calls.mono h2 fun e w'' he => by
                  cases e with
                  | returned u => exact he
                  | panicked c => have := hT _ _ _ he; cases this
                  | outgrown => exact (not_lets hT he).elim
          | halt x w' =>
            cases x <;> simp only [Oper.upon] at h2 ⊢
            case panic u => have := hT _ _ _ h2; cases this
        · rename_i hw; simp only [hw] at h2; exact h2
  have := mono _ _ _ _ h1
  simpa using this

end
end Go.Txt
