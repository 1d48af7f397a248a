/-
  A region that draws its order, as in Text4, by a check that goes for great regions too.
-/
import Derived.Test.YtbhjhfemicbhaaaText4
namespace Go.Txt

section
variable {P : Program} {ops : Array Oper} {F : List Nat} {S : World → Prop} {G : Act → World → Prop}

def forceN {α : Type} (t : Nat) (f : Nat → α) : α := match t with | 0 => f 0 | n + 1 => f (n + 1)
theorem forceN_eq {α : Type} (t : Nat) (f : Nat → α) : forceN t f = f t := by cases t <;> rfl

def maskStep (j : Nat) (acc : List Nat) (m : Nat) (e : Edge) : Nat := if Region.binds .any e then m ||| (1 <<< e.on) ||| acc.getD (j - 1 - e.on) 0 else m
def maskOf (j : Nat) (o : Oper) (acc : List Nat) : Nat := o.after.toList.foldl (maskStep j acc) 0
def rowsG : Nat → List Oper → List Nat → (List Nat → Bool) → Bool
  | _, [], acc, k => k acc
  | j, o :: l, acc, k => forceN (maskOf j o acc) fun m => rowsG (j + 1) l (m :: acc) k
def pairsG (P : Program) (ops : Array Oper) (F : List Nat) (acc : List Nat) : Bool := (List.range ops.size).all fun j => (List.range j).all fun i => (acc.getD (ops.size - 1 - j) 0).testBit i ||
  match ops[i]?, ops[j]? with | some x, some y => pairF P ops F i j x y | _, _ => true
def checkG (P : Program) (ops : Array Oper) (F : List Nat) : Bool := Region.noSelect ops && settledF P ops F && depB ops && rowsG 0 ops.toList [] (pairsG P ops F)

theorem mask_bit {j i : Nat} {acc : List Nat} : ∀ (l : List Edge) (m : Nat), (l.foldl (maskStep j acc) m).testBit i = true → m.testBit i = true ∨ ∃ e ∈ l, Region.binds .any e = true ∧ (e.on = i ∨ (acc.getD (j - 1 - e.on) 0).testBit i = true)
  | [], m, h => .inl h
  | e :: l, m, h => by
    rcases mask_bit l _ h with h | ⟨e', he, hb, hh⟩
    · unfold maskStep at h
      split at h
      · rename_i hb
        simp only [Nat.testBit_or, Bool.or_eq_true, Nat.one_shiftLeft, Nat.testBit_two_pow, decide_eq_true_eq] at h
        rcases h with (h | h) | h
        · exact .inl h
        · exact .inr ⟨e, by simp, hb, .inl h⟩
        · exact .inr ⟨e, by simp, hb, .inr h⟩
      · exact .inl h
    · exact .inr ⟨e', by simp [he], hb, hh⟩

def MaskInv (ops : Array Oper) (j : Nat) (acc : List Nat) : Prop := acc.length = j ∧ ∀ e, e < j → ∀ i oe, ops[e]? = some oe → (acc.getD (j - 1 - e) 0).testBit i = true → Late ops i oe

theorem rowsG_spec (hdep : depB ops = true) {k : List Nat → Bool} : ∀ (l : List Oper) (j : Nat) (acc : List Nat), (∀ x, l[x]? = ops[j + x]?) → MaskInv ops j acc → rowsG j l acc k = true → ∃ acc', MaskInv ops (j + l.length) acc' ∧ k acc' = true
  | [], j, acc, _, h, hr => ⟨acc, by simpa using h, hr⟩
  | o :: l, j, acc, hl, h, hr => by
    unfold rowsG at hr
    rw [forceN_eq] at hr
    have ho : ops[j]? = some o := by simpa using (hl 0).symm
    have := rowsG_spec hdep l (j + 1) (maskOf j o acc :: acc) (fun x => by have := hl (x + 1); simpa [Nat.add_assoc, Nat.add_comm 1 x] using this) ⟨by simp [h.1], fun e he i oe hoe hb => ?_⟩ hr
    · simpa [Nat.add_assoc, Nat.add_comm 1] using this
    · rcases Nat.lt_or_ge e j with hlt | hge
      · rw [show j + 1 - 1 - e = (j - 1 - e) + 1 from by omega, List.getD_cons_succ] at hb
        exact h.2 e hlt i oe hoe hb
      · obtain rfl : e = j := by omega
        rw [ho] at hoe; cases hoe
        rw [show e + 1 - 1 - e = 0 from by omega, List.getD_cons_zero] at hb
        rcases mask_bit _ _ hb with hb | ⟨e1, he1, hb1, hh⟩
        · simp at hb
        · intro listed hc hi
          refine ⟨e1, by simpa using he1, hb1, ?_⟩
          rcases hh with rfl | hh
          · exact hi
          · have hlt := depB_spec hdep e o ho e1 (by simpa using he1) hb1
            have hle : e < ops.size := (Array.getElem?_eq_some_iff.1 ho).1
            have hoe : ops[e1.on]? = some ops[e1.on] := Array.getElem?_eq_getElem (by omega)
            obtain ⟨e2, he2, hb3, hg2⟩ := h.2 e1.on hlt i _ hoe hh listed hc hi
            cases hx : listed.getD e1.on true with
            | false => rfl
            | true => rw [hc e1.on _ hoe hx e2 he2 hb3] at hg2; cases hg2

theorem pairsG_spec {acc : List Nat} (h : MaskInv ops ops.size acc) (hp : pairsG P ops F acc = true) {i j : Nat} {oi oj : Oper} (hij : i < j) (hi : ops[i]? = some oi) (hj : ops[j]? = some oj) (hn : ¬ Late ops i oj) : pairF P ops F i j oi oj = true := by
  have hlt : j < ops.size := (Array.getElem?_eq_some_iff.1 hj).1
  have := List.all_eq_true.1 (List.all_eq_true.1 hp j (by simpa using hlt)) i (by simpa using hij)
  simp only [hi, hj, Bool.or_eq_true] at this
  rcases this with h1 | h1
  · exact (hn (h.2 j hlt i oj hj h1)).elim
  · exact h1

theorem anyS_textG (hG : ∀ a w, G a w → Good P ops F S a) (hset : settledF P ops F = true) (hdep : depB ops = true)
    (hpair : ∀ i j oi oj, i < j → ops[i]? = some oi → ops[j]? = some oj → ¬ Late ops i oj → pairF P ops F i j oi oj = true)
    (hsel : ∀ (j : Nat) (o : Oper) cs b, ops[j]? = some o → o.op ≠ .select cs b) : ∀ (n k : Nat) (listed : Array Bool) (a : Act) (w : World), S w → k + n = ops.size → listed.size = ops.size → (∀ j, j < ops.size → listed.getD j true = decide (j < k)) → Closed ops listed →
    textS P ops S G n k a w → anyS P ops S G n listed a w
  | 0, k, listed, _, _, _, hk, hs, hl, _, h => by
    refine ⟨?_, h⟩
    cases hr : Region.ready .any ops listed with
    | nil => rfl
    | cons i rs =>
      exfalso
      have hi : i ∈ Region.ready .any ops listed := by rw [hr]; simp
      obtain ⟨hun, oi, hoi, _⟩ := mem_ready.1 hi
      have hlt : i < ops.size := (Array.getElem?_eq_some_iff.1 hoi).1
      rw [hl i hlt] at hun
      simp at hun
      omega
  | n + 1, k, listed, a, w, hS, hk, hs, hl, hc, h => by
    have hlt : k < ops.size := by omega
    have h0 : ops[k]? = some ops[k] := Array.getElem?_eq_getElem hlt
    have hr : k ∈ Region.ready .any ops listed := by
      rw [mem_ready]
      refine ⟨by rw [hl k hlt]; simp, _, h0, fun e he hb => ?_⟩
      have h1 := depB_spec hdep k _ h0 e he hb
      have h2 := hl e.on (by omega)
      have h3 : e.on < listed.size := by omega
      simp [Array.getD, h3] at h2 ⊢
      rw [h2]; exact decide_eq_true h1
    have hfree : ∀ j oj, ops[j]? = some oj → j ≠ k → listed.getD j true = false → ¬ Late ops k oj → pairF P ops F k j ops[k] oj = true := by
      intro j oj hj hne hun hno
      have hjl : j < ops.size := (Array.getElem?_eq_some_iff.1 hj).1
      rw [hl j hjl] at hun
      have : k < j := by
        simp at hun
        omega
      exact hpair k j _ oj this h0 hj hno
    refine anyS_first hG hset hsel h0 n listed a w hS hc hfree hr ?_
    refine opS_mono (fun a' w' hS' hh => anyS_textG hG hset hdep hpair hsel n (k + 1) _ a' w' hS' (by omega) (by simpa using hs) (fun j hj => ?_) (hc.set hr) hh) h
    have h3 : j < listed.size := by omega
    have h2 := hl j hj
    by_cases hjk : j = k
    · subst hjk; simp [Array.getD, h3]
    · simp [Array.getD, h3, Ne.symm hjk] at h2 ⊢
      rw [h2]
      simp; omega

theorem wp_textG (F : List Nat) (S : World → Prop) {id : Nat} {Q : Exit → Act → World → Prop} {a : Act} {w : World} {l : List Oper} (ss : List (List Oper)) (hm : P.follows .mixedOrders = true) (hB : checkG P l.toArray F = true)
    (hss : parts P l = ss) (hS : S w.drew) (h : wpSegs P l.toArray S (EndPost P l.toArray F S Q) ss a w.drew) : (Code.region id l.toArray true).wp P Q a w := by
  simp only [checkG, Bool.and_eq_true] at hB
  obtain ⟨⟨⟨hns, hset⟩, hdep⟩, hrows⟩ := hB
  obtain ⟨acc, hinv, hpr⟩ := rowsG_spec hdep l 0 [] (by simp) ⟨rfl, fun e he => by omega⟩ (by simpa using hrows)
  have hpair : ∀ i j oi oj, i < j → l.toArray[i]? = some oi → l.toArray[j]? = some oj → ¬ Late l.toArray i oj → pairF P l.toArray F i j oi oj = true :=
    fun i j oi oj hij hi hj hn => pairsG_spec (by simpa using hinv) hpr hij hi hj hn
  have hG : ∀ a w, EndPost P l.toArray F S Q a w → Good P l.toArray F S a := fun _ _ h => h.1
  have hsel := Region.noSelect_spec hns
  have h1 : textS P l.toArray S (EndPost P l.toArray F S Q) l.length 0 a w.drew := by
    subst hss
    have hpn := parts_ne (P := P) l
    have hpf := parts_flatten (P := P) l
    have hpo := parts_ok (P := P) l
    cases hp : parts P l with
    | nil => exact absurd hp hpn
    | cons s ss =>
      rw [hp] at h hpf hpo
      have := textS_of hG hset (depB_spec hdep) hsel ss s 0 a w.drew hS hpo (fun j => by
        have : s ++ ss.flatten = l := by simpa using hpf
        rw [this]; simp) h
      have e : s ++ ss.flatten = l := by simpa using hpf
      rw [e] at this
      exact this
  have h2 := anyS_textG hG hset hdep hpair hsel l.length 0 (Array.replicate l.toArray.size false) a w.drew hS (by simp) (by simp) (fun j hj => by simp at hj; simp [hj]) (Closed.start _) h1
  refine wp_region_any hm ?_
  have mono : ∀ (fuel : Nat) (listed : Array Bool) (a : Act) (w : World), anyS P l.toArray S (EndPost P l.toArray F S Q) fuel listed a w → wpAny P .any l.toArray Q fuel listed a w := by
    intro fuel
    induction fuel with
    | zero => exact fun listed a w h => ⟨h.1, h.2.2⟩
    | succ fuel ih =>
      intro listed a w h
      refine ⟨fun h0 => (h.1 h0).2, fun i hi => ?_⟩
      have h2 : wpOp P l.toArray T0 i (wpAny P .any l.toArray Q fuel (listed.setIfInBounds i true)) a w := wpOp_mono (fun a' w' hh => ih _ a' w' hh.2) (h.2 i hi)
      unfold wpOp at h2 ⊢
      split
      · rename_i ho; simp only [ho] at h2; exact h2
      · rename_i o ho
        simp only [ho] at h2
        split
        · rename_i hw
          simp only [hw, if_true] at h2
          rcases h2 with h2 | ⟨_, hl⟩
          case inr => exact (not_lets hT0 hl).elim
          refine .inl ?_
          unfold Oper.wp at h2 ⊢
          generalize (execOp a.eval o).run P w = r at *
          cases r with
          | ok n w' =>
            cases n <;> simp only [Oper.upon] at h2 ⊢ <;> first
              | exact h2
              | exact Calls.mono h2 fun e w'' he => by
                  cases e with
                  | returned u => exact he
                  | panicked c => exact he.elim
                  | outgrown => exact (not_lets hT0 he).elim
          | halt x w' =>
            cases x <;> simp only [Oper.upon] at h2 ⊢
            case panic u => exact h2.elim
        · rename_i hw; simp only [hw] at h2; exact h2
  have := mono _ _ _ _ h2
  simpa using this

end
end Go.Txt
