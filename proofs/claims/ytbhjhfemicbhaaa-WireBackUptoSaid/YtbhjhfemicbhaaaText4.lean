/-
  A region that draws its order, walked in segments: the theorem.
-/
import Derived.Test.YtbhjhfemicbhaaaText3
namespace Go.Txt

section
variable {P : Program} {ops : Array Oper} {F : List Nat} {S : World → Prop} {G : Act → World → Prop}

theorem segT (K : Act → World → Prop) : ∀ e a w, SegPost S K e a w → e = .normal := fun _ _ _ h => h.1

theorem wpList_op {T : Exit → Act → World → Prop} {k : Nat} {o : Oper} {l : List Oper} (h0 : ops[k]? = some o) {a : Act} {w : World} (h : wpList P ops T (o :: l) a w) : wpOp P ops T k (wpList P ops T l) a w := by
  unfold wpOp; simp only [h0]; exact h

theorem wpList_some {K : Act → World → Prop} : ∀ (l : List Oper) (k : Nat) (a : Act) (w : World), (∀ j, j < l.length → l[j]? = ops[k + j]?) → wpList P ops (SegPost S K) l a w →
    ∃ a' w', S w' ∧ K a' w' ∧ ∀ t, (∀ j o, ops[j]? = some o → k ≤ j → j < k + l.length → o.dst ≠ some t) → a'.tmps[t]? = a.tmps[t]?
  | [], _, a, w, _, h => ⟨a, w, h.2.1, h.2.2, fun _ _ => rfl⟩
  | o :: l, k, a, w, hl, h => by
    have h0 : ops[k]? = some o := by simpa using (hl 0 (by simp)).symm
    obtain ⟨a1, w1, h1, k1⟩ := wpOp_some (segT K) h0 (wpList_op h0 h)
    obtain ⟨a2, w2, hS, hK, k2⟩ := wpList_some l (k + 1) a1 w1 (fun j hj => by have := hl (j + 1) (by simpa using hj); simpa [Nat.add_assoc, Nat.add_comm 1 j] using this) h1
    refine ⟨a2, w2, hS, hK, fun t ht => ?_⟩
    rw [k2 t fun j o' hj h3 h4 => ht j o' hj (by omega) (by simp; omega), k1 t (ht k o h0 (Nat.le_refl _) (by simp))]

theorem segs_some : ∀ (ss : List (List Oper)) (k : Nat) (a : Act) (w : World), (∀ j, j < ss.flatten.length → ss.flatten[j]? = ops[k + j]?) → wpSegs P ops S G ss a w →
    ∃ a' w', G a' w' ∧ ∀ t, (∀ j o, ops[j]? = some o → k ≤ j → o.dst ≠ some t) → a'.tmps[t]? = a.tmps[t]?
  | [], _, a, w, _, h => ⟨a, w, h, fun _ _ => rfl⟩
  | s :: ss, k, a, w, hl, h => by
    have hs : ∀ j, j < s.length → s[j]? = ops[k + j]? := fun j hj => by
      rw [← hl j (by rw [List.flatten_cons, List.length_append]; omega)]; simp only [List.flatten_cons]; rw [List.getElem?_append_left hj]
    obtain ⟨a1, w1, _, h1, k1⟩ := wpList_some s k a w hs h
    obtain ⟨a2, w2, h2, k2⟩ := segs_some ss (k + s.length) a1 w1 (fun j hj => by
      have := hl (s.length + j) (by rw [List.flatten_cons, List.length_append]; omega)
      simp only [List.flatten_cons] at this
      rw [List.getElem?_append_right (by omega)] at this
      simpa [Nat.add_assoc] using this) h1
    exact ⟨a2, w2, h2, fun t ht => by rw [k2 t fun j o hj h3 => ht j o hj (by omega), k1 t fun j o hj h3 _ => ht j o hj h3]⟩

/-- Only the last operation of a part acts. -/
def segOk (P : Program) (ss : List (List Oper)) : Prop := ∀ s ∈ ss, ∀ i o, i + 1 < s.length → s[i]? = some o → opCls P o.op ≠ 3

theorem wpOp_same {T : Exit → Act → World → Prop} (hT : ∀ e a w, T e a w → e = .normal) {k : Nat} {o : Oper} (h0 : ops[k]? = some o) {K : Act → World → Prop} {a : Act} {w : World}
    (hs : Region.wanted o (yielded ops a.tmps) = true → ∀ r w1, (execOp a.eval o).run P w = .ok r w1 → w1 = w ∧ ∃ v, r = .value v)
    (h : wpOp P ops T k K a w) : wpOp P ops T0 k (fun a' w' => w' = w ∧ K a' w') a w := by
  unfold wpOp at *
  simp only [h0] at *
  split
  · rename_i hw
    rw [if_pos hw] at h
    rcases h with h | ⟨_, hl⟩
    case inr => exact (not_lets hT hl).elim
    refine .inl ?_
    unfold Oper.wp at *
    cases hr : (execOp a.eval o).run P w with
    | ok n w' =>
      obtain ⟨rfl, v, rfl⟩ := hs hw _ _ hr
      rw [hr] at h
      first | exact ⟨rfl, h⟩ | exact ⟨trivial, h⟩
    | halt x w' =>
      rw [hr] at h
      cases x <;> simp only [Oper.upon] at h ⊢
      case panic u => have := hT _ _ _ h; cases this
  · rename_i hw
    rw [if_neg hw] at h
    first | exact ⟨rfl, h⟩ | exact ⟨trivial, h⟩

theorem wpOp_T0 {T : Exit → Act → World → Prop} (hT : ∀ e a w, T e a w → e = .normal) {k : Nat} {K : Act → World → Prop} {a : Act} {w : World} (h : wpOp P ops T k K a w) : wpOp P ops T0 k K a w := by
  unfold wpOp at *
  split
  · rename_i ho; simp only [ho] at h; exact h
  · rename_i o ho
    simp only [ho] at h
    split
    · rename_i hw
      simp only [hw, if_true] at h
      rcases h with h | ⟨_, hl⟩
      case inr => exact (not_lets hT hl).elim
      refine .inl ?_
      unfold Oper.wp at h ⊢
      generalize (execOp a.eval o).run P w = r at *
      cases r with
      | ok n w' =>
        cases n <;> simp only [Oper.upon] at h ⊢ <;> first
          | exact h
          | exact Calls.mono h fun e w'' he => by
              cases e with
              | returned u => exact he
              | panicked c => have := hT _ _ _ he; cases this
              | outgrown => exact (not_lets hT he).elim
      | halt x w' =>
        cases x <;> simp only [Oper.upon] at h ⊢
        case panic u => have := hT _ _ _ h; cases this
    · rename_i hw; simp only [hw] at h; exact h

theorem textS_of (hG : ∀ a w, G a w → Good P ops F S a) (hset : settledF P ops F = true) (hdep : ∀ (j : Nat) (o : Oper), ops[j]? = some o → ∀ e ∈ o.after, Region.binds .any e = true → e.on < j)
    (hsel : ∀ (j : Nat) (o : Oper) cs b, ops[j]? = some o → o.op ≠ .select cs b) : ∀ (ss : List (List Oper)) (s : List Oper) (k : Nat) (a : Act) (w : World), S w → segOk P (s :: ss) →
    (∀ j, (s ++ ss.flatten)[j]? = ops[k + j]?) → wpList P ops (SegPost S (wpSegs P ops S G ss)) s a w → textS P ops S G (s ++ ss.flatten).length k a w := by
  intro ss
  induction ss with
  | nil =>
    intro s
    induction s with
    | nil => intro k a w _ _ _ h; exact h.2.2
    | cons o l ih =>
      intro k a w hS hok hl h
      have h0 : ops[k]? = some o := by simpa using (hl 0).symm
      have hl' : ∀ j, (l ++ ([] : List (List Oper)).flatten)[j]? = ops[k + 1 + j]? := fun j => by have := hl (j + 1); simpa [Nat.add_assoc, Nat.add_comm 1 j] using this
      have hok' : segOk P (l :: []) := fun s hs i o' hi ho => by
        simp at hs; subst hs
        exact hok (o :: s) (by simp) (i + 1) o' (by simpa using hi) (by simpa using ho)
      have hw := wpList_op h0 h
      show opS P ops S k (textS P ops S G (l ++ ([] : List (List Oper)).flatten).length (k + 1)) a w
      cases l with
      | nil => exact wpOp_mono (fun a' w' hh => ⟨hh.2.1, hh.2.2⟩) (wpOp_T0 (segT _) hw)
      | cons o2 l2 =>
        have hc3 : opCls P o.op ≠ 3 := hok (o :: o2 :: l2) (by simp) 0 o (by simp) rfl
        have hlen : ∀ j, j < (o :: o2 :: l2).length → (o :: o2 :: l2)[j]? = ops[k + j]? := fun j _ => by have := hl j; simpa using this
        obtain ⟨a2, w2, _, hGa, k2⟩ := wpList_some _ k a w hlen h
        refine wpOp_mono (fun a' w' hh => ⟨by rw [hh.1]; exact hS, ih (k + 1) a' w' (by rw [hh.1]; exact hS) hok' hl' hh.2⟩) (wpOp_same (segT _) h0 (fun hwn r w1 hr => ?_) hw)
        by_cases hc : clsF P F k o ≤ 1
        · have := yields_end h0 (fun cs b => hsel k o cs b h0) hc (hG _ _ hGa) (fun h1 t ht => k2 t fun j o' hj h3 _ hd => by
            obtain ⟨e, he, hb, rfl⟩ := (settledF_spec hset h0 h1 hj hd).1 ht
            have := hdep k o h0 e he hb
            omega) hS hwn hr
          exact ⟨this.1, this.2.choose, this.2.choose_spec.1⟩
        · obtain ⟨dst, op, t, pos, af, g⟩ := o
          have h2 : opCls P op = 2 := by
            unfold clsF at hc
            split at hc
            · omega
            · have : opCls P op ≤ 3 := by
                unfold opCls; repeat' split
                all_goals omega
              dsimp only at hc hc3
              omega
          exact peeks2 h2 a.eval dst t pos af g w r w1 hr
  | cons s' ss ihs =>
    intro s
    induction s with
    | nil =>
      intro k a w hS hok hl h
      exact ihs s' k a w h.2.1 (fun s hs => hok s (List.mem_cons_of_mem _ hs)) (fun j => by have := hl j; simpa using this) h.2.2
    | cons o l ih =>
      intro k a w hS hok hl h
      have h0 : ops[k]? = some o := by simpa using (hl 0).symm
      have hl' : ∀ j, (l ++ (s' :: ss).flatten)[j]? = ops[k + 1 + j]? := fun j => by have := hl (j + 1); simpa [Nat.add_assoc, Nat.add_comm 1 j] using this
      have hok' : segOk P (l :: s' :: ss) := fun s hs i o' hi ho => by
        rcases List.mem_cons.1 hs with rfl | hs
        · exact hok (o :: s) (by simp) (i + 1) o' (by simpa using hi) (by simpa using ho)
        · exact hok s (List.mem_cons_of_mem _ hs) i o' hi ho
      have hw := wpList_op h0 h
      show opS P ops S k (textS P ops S G (l ++ (s' :: ss).flatten).length (k + 1)) a w
      cases l with
      | nil => exact wpOp_mono (fun a' w' hh => ⟨hh.2.1, ih (k + 1) a' w' hh.2.1 hok' hl' hh⟩) (wpOp_T0 (segT _) hw)
      | cons o2 l2 =>
        have hc3 : opCls P o.op ≠ 3 := hok (o :: o2 :: l2) (by simp) 0 o (by simp) rfl
        have hlen : ∀ j, j < (o :: o2 :: l2).length → (o :: o2 :: l2)[j]? = ops[k + j]? := fun j hj => by have := hl j; rw [List.getElem?_append_left hj] at this; exact this
        obtain ⟨a2, w2, _, hK2, k2⟩ := wpList_some _ k a w hlen h
        obtain ⟨a3, w3, hGa, k3⟩ := segs_some (s' :: ss) (k + (o :: o2 :: l2).length) a2 w2 (fun j _ => by
          have := hl ((o :: o2 :: l2).length + j)
          rw [List.getElem?_append_right (by omega), Nat.add_sub_cancel_left, ← Nat.add_assoc] at this
          exact this) hK2
        refine wpOp_mono (fun a' w' hh => ⟨by rw [hh.1]; exact hS, ih (k + 1) a' w' (by rw [hh.1]; exact hS) hok' hl' hh.2⟩) (wpOp_same (segT _) h0 (fun hwn r w1 hr => ?_) hw)
        by_cases hc : clsF P F k o ≤ 1
        · have nw : clsF P F k o = 1 → ∀ t ∈ o.looksAt ops, ∀ j o', ops[j]? = some o' → k ≤ j → o'.dst ≠ some t := fun h1 t ht j o' hj h3 hd => by
            obtain ⟨e, he, hb, rfl⟩ := (settledF_spec hset h0 h1 hj hd).1 ht
            have := hdep k o h0 e he hb
            omega
          have := yields_end h0 (fun cs b => hsel k o cs b h0) hc (hG _ _ hGa) (fun h1 t ht => by
            rw [k3 t fun j o' hj h3 => nw h1 t ht j o' hj (by omega), k2 t fun j o' hj h3 _ => nw h1 t ht j o' hj h3]) hS hwn hr
          exact ⟨this.1, this.2.choose, this.2.choose_spec.1⟩
        · obtain ⟨dst, op, t, pos, af, g⟩ := o
          have h2 : opCls P op = 2 := by
            unfold clsF at hc
            split at hc
            · omega
            · have : opCls P op ≤ 3 := by
                unfold opCls; repeat' split
                all_goals omega
              dsimp only at hc hc3
              omega
          exact peeks2 h2 a.eval dst t pos af g w r w1 hr

def depB (ops : Array Oper) : Bool := (List.range ops.size).all fun j => match ops[j]? with
  | none => true
  | some o => o.after.toList.all fun e => !Region.binds .any e || decide (e.on < j)

theorem depB_spec (h : depB ops = true) : ∀ (j : Nat) (o : Oper), ops[j]? = some o → ∀ e ∈ o.after, Region.binds .any e = true → e.on < j := by
  intro j o hj e he hb
  have hjl : j < ops.size := (Array.getElem?_eq_some_iff.1 hj).1
  have h1 := List.all_eq_true.1 h j (by simpa using hjl)
  simp only [hj] at h1
  have h2 := List.all_eq_true.1 h1 e (by simpa using he)
  rw [hb] at h2
  simpa using h2

theorem parts_ne (l : List Oper) : parts P l ≠ [] := by
  cases l with
  | nil => simp [parts]
  | cons o l =>
    unfold parts
    split
    · simp
    · split <;> simp

theorem parts_flatten (l : List Oper) : (parts P l).flatten = l := by
  induction l with
  | nil => simp [parts]
  | cons o l ih =>
    unfold parts
    split
    · rename_i h; exact absurd h (parts_ne l)
    · rename_i p ps h
      rw [h] at ih
      split <;> simp at ih ⊢ <;> exact ih

theorem parts_ok (l : List Oper) : segOk P (parts P l) := by
  induction l with
  | nil => intro s hs i o hi; simp [parts] at hs; subst hs; simp at hi
  | cons o l ih =>
    unfold parts
    split
    · intro s hs i o' hi; simp at hs; subst hs; simp at hi
    · rename_i p ps h
      rw [h] at ih
      split
      · intro s hs i o' hi ho
        rcases List.mem_cons.1 hs with rfl | hs
        · simp at hi
        · exact ih s hs i o' hi ho
      · rename_i hc
        intro s hs i o' hi ho
        rcases List.mem_cons.1 hs with rfl | hs
        · cases i with
          | zero => simp at ho; subst ho; exact hc
          | succ i => exact ih p (by simp) i o' (by simpa using hi) (by simpa using ho)
        · exact ih s (List.mem_cons_of_mem _ hs) i o' hi ho

theorem segs_cons {s : List Oper} {ss : List (List Oper)} {a : Act} {w : World} (h : wpList P ops (SegPost S (wpSegs P ops S G ss)) s a w) : wpSegs P ops S G (s :: ss) a w := h
theorem segs_nil {a : Act} {w : World} (h : G a w) : wpSegs P ops S G [] a w := h

def checkF (P : Program) (ops : Array Oper) (F : List Nat) : Bool := textF P ops F && depB ops

/-- What is asked at the end. -/
def EndPost (P : Program) (ops : Array Oper) (F : List Nat) (S : World → Prop) (Q : Exit → Act → World → Prop) (a : Act) (w : World) : Prop := Good P ops F S a ∧ Q .normal a w

theorem wp_textF (F : List Nat) (S : World → Prop) {id : Nat} {Q : Exit → Act → World → Prop} {a : Act} {w : World} {l : List Oper} (ss : List (List Oper)) (hm : P.follows .mixedOrders = true) (hB : checkF P l.toArray F = true)
    (hss : parts P l = ss) (hS : S w.drew) (h : wpSegs P l.toArray S (EndPost P l.toArray F S Q) ss a w.drew) : (Code.region id l.toArray true).wp P Q a w := by
  simp only [checkF, textF, Bool.and_eq_true] at hB
  obtain ⟨⟨⟨hns, hset⟩, hB⟩, hdep⟩ := hB
  have hG : ∀ a w, EndPost P l.toArray F S Q a w → Good P l.toArray F S a := fun _ _ h => h.1
  have hsel := Region.noSelect_spec hns
  have h1 : textS P l.toArray S (EndPost P l.toArray F S Q) l.length 0 a w.drew := by
    subst hss
    have hpn := parts_ne (P := P) l
    have hpf := parts_flatten (P := P) l
    have hpo := parts_ok (P := P) l
    cases hp : parts P l with
    | nil => exact absurd hp hpn
    | cons s ss =>
      rw [hp] at h hpf hpo
      have := textS_of hG hset (depB_spec hdep) hsel ss s 0 a w.drew hS hpo (fun j => by
        have : s ++ ss.flatten = l := by simpa using hpf
        rw [this]; simp) h
      have e : s ++ ss.flatten = l := by simpa using hpf
      rw [e] at this
      exact this
  have h2 := anyS_text hG hset hsel l.length 0 (Array.replicate l.toArray.size false) a w.drew hS (by simp) (Closed.start _) (by simpa using hB) h1
  refine wp_region_any hm ?_
  have mono : ∀ (fuel : Nat) (listed : Array Bool) (a : Act) (w : World), anyS P l.toArray S (EndPost P l.toArray F S Q) fuel listed a w → wpAny P .any l.toArray Q fuel listed a w := by
    intro fuel
    induction fuel with
    | zero => exact fun listed a w h => ⟨h.1, h.2.2⟩
    | succ fuel ih =>
      intro listed a w h
      refine ⟨fun h0 => (h.1 h0).2, fun i hi => ?_⟩
      have h2 : wpOp P l.toArray T0 i (wpAny P .any l.toArray Q fuel (listed.setIfInBounds i true)) a w := wpOp_mono (fun a' w' hh => ih _ a' w' hh.2) (h.2 i hi)
      unfold wpOp at h2 ⊢
      split
      · rename_i ho; simp only [ho] at h2; exact h2
      · rename_i o ho
        simp only [ho] at h2
        split
        · rename_i hw
          simp only [hw, if_true] at h2
          rcases h2 with h2 | ⟨_, hl⟩
          case inr => exact (not_lets hT0 hl).elim
          refine .inl ?_
          unfold Oper.wp at h2 ⊢
          generalize (execOp a.eval o).run P w = r at *
          cases r with
          | ok n w' =>
            cases n <;> simp only [Oper.upon] at h2 ⊢ <;> first
              | exact h2
              | exact Calls.mono h2 fun e w'' he => by
                  cases e with
                  | returned u => exact he
                  | panicked c => exact he.elim
                  | outgrown => exact (not_lets hT0 he).elim
          | halt x w' =>
            cases x <;> simp only [Oper.upon] at h2 ⊢
            case panic u => exact h2.elim
        · rename_i hw; simp only [hw] at h2; exact h2
  have := mono _ _ _ _ h2
  simpa using this

end
end Go.Txt
