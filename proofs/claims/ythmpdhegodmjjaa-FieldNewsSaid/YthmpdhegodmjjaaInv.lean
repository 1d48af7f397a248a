/-
  A region that draws its order, by what is known of the operations that have come up; a statement 'x, y := f(a), g(b)' whose variables lie in memory.
-/
import Derived.Test.YthmpdhegodmjjaaText4
import Derived.Test.YthmpdhegodmjjaaArr
namespace Go.Txt
open Go.RowKit Go.Mem

section
variable {P : Program} {ops : Array Oper} {Q : Exit → Act → World → Prop}

theorem count_setTrue (l : List Bool) (i : Nat) (h : l[i]? = some false) : (l.set i true).count false + 1 = l.count false := by
  induction l generalizing i with
  | nil => simp at h
  | cons b l ih =>
    cases i with
    | zero =>
      obtain rfl : b = false := by simpa using h
      simp
    | succ i =>
      have := ih i (by simpa using h)
      simp only [List.set_cons_succ, List.count_cons]
      omega

theorem wpAny_inv (I : (Nat → Bool) → Act → World → Prop) (hI : ∀ L L' a w, (∀ j, j < ops.size → L j = L' j) → I L a w → I L' a w) (hdep : depB ops = true)
    (step : ∀ L a w i o, I L a w → ops[i]? = some o → L i = false → (∀ e ∈ o.after, Region.binds .any e = true → L e.on = true) → wpOp P ops Q i (I (fun j => if j = i then true else L j)) a w)
    (fin : ∀ L a w, I L a w → (∀ j, j < ops.size → L j = true) → Q .normal a w) :
    ∀ (fuel : Nat) (listed : Array Bool) (a : Act) (w : World), listed.size = ops.size → listed.toList.count false ≤ fuel → I (fun j => listed.getD j true) a w → wpAny P .any ops Q fuel listed a w := by
  have hall : ∀ (listed : Array Bool), listed.size = ops.size → Region.ready .any ops listed = [] → ∀ j, j < ops.size → listed.getD j true = true := by
    intro listed hs hr j
    induction j using Nat.strongRecOn with
    | _ j ih =>
      intro hj
      cases hl : listed.getD j true with
      | true => rfl
      | false =>
        exfalso
        have : j ∈ Region.ready .any ops listed := by
          rw [mem_ready]
          refine ⟨hl, ops[j], by simp [hj], fun e he hb => ?_⟩
          have hlt := depB_spec hdep j ops[j] (by simp [hj]) e he hb
          have := ih e.on hlt (by omega)
          have hes : e.on < listed.size := by omega
          simpa [Array.getD, hes] using this
        rw [hr] at this
        cases this
  intro fuel
  induction fuel with
  | zero =>
    intro listed a w hs hc hi
    have h1 : ∀ j, j < ops.size → listed.getD j true = true := by
      intro j hj
      have hjs : j < listed.size := by omega
      cases hl : listed.getD j true with
      | true => rfl
      | false =>
        exfalso
        have hmem : false ∈ listed.toList := by
          have : listed[j] = false := by simpa [Array.getD, hjs] using hl
          rw [← this]; simp
        have := List.count_pos_iff.2 hmem
        omega
    refine ⟨?_, fin _ _ _ hi h1⟩
    cases hr : Region.ready .any ops listed with
    | nil => rfl
    | cons i rs =>
      exfalso
      have hi : i ∈ Region.ready .any ops listed := by rw [hr]; simp
      obtain ⟨hun, oi, hoi, _⟩ := mem_ready.1 hi
      have hlt : i < ops.size := (Array.getElem?_eq_some_iff.1 hoi).1
      rw [h1 i hlt] at hun
      cases hun
  | succ fuel ih =>
    intro listed a w hs hc hi
    refine ⟨fun hr => fin _ _ _ hi (hall listed hs hr), fun i hr => ?_⟩
    obtain ⟨hun, oi, hoi, hde⟩ := mem_ready.1 hr
    have hlt : i < ops.size := (Array.getElem?_eq_some_iff.1 hoi).1
    have his : i < listed.size := by omega
    have hlf : listed[i] = false := by simpa [Array.getD, his] using hun
    refine wpOp_mono (fun a' w' h' => ih _ a' w' (by simpa using hs) ?_ ?_) (step _ a w i oi hi hoi hun fun e he hb => ?_)
    · have := count_setTrue listed.toList i (by simp [his, hlf])
      simp only [Array.toList_setIfInBounds]
      omega
    · refine hI _ _ _ _ (fun j hj => ?_) h'
      have hjs : j < listed.size := by omega
      by_cases hji : j = i
      · subst hji; simp [Array.getD, his]
      · rw [if_neg hji]
        simp [Array.getD, hjs, Ne.symm hji]
    · have := hde e he hb
      by_cases hes : e.on < listed.size
      · simpa [Array.getD, hes] using this
      · simp [Array.getD, hes]

/-- The slots of those that have come up. -/
def actOf (ops : Array Oper) (v : Nat → Value) (L : Nat → Bool) : List Nat → Act → Act
  | [], a => a
  | j :: l, a => actOf ops v L l (if L j then match ops[j]? with | some o => a.put o.dst (v j) | none => a else a)

theorem actOf_congr {v v' : Nat → Value} {L L' : Nat → Bool} : ∀ (l : List Nat) (a : Act), (∀ j ∈ l, L j = L' j ∧ (L j = true → v j = v' j)) → actOf ops v L l a = actOf ops v' L' l a
  | [], _, _ => rfl
  | j :: l, a, h => by
    obtain ⟨h1, h2⟩ := h j (by simp)
    simp only [actOf]
    rw [actOf_congr l _ fun k hk => h k (by simp [hk]), ← h1]
    cases hL : L j with
    | false => rfl
    | true => rw [h2 hL]
theorem actOf_put {v : Nat → Value} {L : Nat → Bool} {d : Option Tmp} {x : Value} : ∀ (l : List Nat) (a : Act), (∀ j ∈ l, ∀ o, ops[j]? = some o → ∀ t, o.dst = some t → d ≠ some t) → actOf ops v L l (a.put d x) = (actOf ops v L l a).put d x
  | [], _, _ => rfl
  | j :: l, a, h => by
    simp only [actOf]
    rw [← actOf_put l _ fun k hk => h k (by simp [hk])]
    congr 1
    cases hL : L j with
    | false => simp
    | true =>
      cases ho : ops[j]? with
      | none => simp
      | some o =>
        simp only [if_true]
        exact (Act.put_comm a _ _ fun t ht e => h j (by simp) o ho t e ht)
theorem actOf_set {v : Nat → Value} {L : Nat → Bool} {i : Nat} {o : Oper} (hL : L i = false) (ho : ops[i]? = some o) (hd : ∀ j, j ≠ i → ∀ oj, ops[j]? = some oj → ∀ t, oj.dst = some t → o.dst ≠ some t) :
    ∀ (l : List Nat) (a : Act), l.Nodup → i ∈ l → actOf ops v (fun j => if j = i then true else L j) l a = (actOf ops v L l a).put o.dst (v i)
  | [], _, _, h => by cases h
  | j :: l, a, hn, h => by
    obtain ⟨hnj, hnl⟩ := List.nodup_cons.1 hn
    simp only [actOf]
    by_cases hji : j = i
    · subst hji
      simp only [if_true, hL, ho, Bool.false_eq_true, if_false]
      rw [actOf_put l a fun k hk ok hok t ht => hd k (fun e => hnj (e ▸ hk)) ok hok t ht]
      congr 1
      refine actOf_congr l _ fun k hk => ?_
      have : k ≠ j := fun e => hnj (e ▸ hk)
      simp [this]
    · simp only [if_neg hji]
      exact actOf_set hL ho hd l _ hnl (by rcases List.mem_cons.1 h with rfl | h; exact absurd rfl hji; exact h)
theorem actOf_other {v : Nat → Value} {L : Nat → Bool} {t : Tmp} : ∀ (l : List Nat) (a : Act), (∀ j ∈ l, ∀ o, ops[j]? = some o → L j = true → o.dst ≠ some t) → (actOf ops v L l a).tmps.getD t undef = a.tmps.getD t undef
  | [], _, _ => rfl
  | j :: l, a, h => by
    simp only [actOf]
    rw [actOf_other l _ fun k hk => h k (by simp [hk])]
    cases hL : L j with
    | false => simp
    | true =>
      cases ho : ops[j]? with
      | none => simp
      | some o =>
        have := h j (by simp) o ho hL
        cases hd : o.dst with
        | none => simp [Act.put, hd]
        | some d =>
          rw [hd] at this
          have hne : d ≠ t := fun e => this (by rw [e])
          simp [Act.put, hd, hne]
theorem actOf_size {v : Nat → Value} {L : Nat → Bool} : ∀ (l : List Nat) (a : Act), (actOf ops v L l a).tmps.size = a.tmps.size
  | [], _ => rfl
  | j :: l, a => by
    simp only [actOf]
    rw [actOf_size l]
    cases L j with
    | false => simp
    | true =>
      cases ops[j]? with
      | none => simp
      | some o => cases hd : o.dst <;> simp [Act.put, hd]
theorem actOf_get {v : Nat → Value} {L : Nat → Bool} {i : Nat} {o : Oper} {t : Tmp} (ho : ops[i]? = some o) (ht : o.dst = some t) (hL : L i = true) (hd : ∀ j, j ≠ i → ∀ oj, ops[j]? = some oj → ∀ t, oj.dst = some t → o.dst ≠ some t) :
    ∀ (l : List Nat) (a : Act), l.Nodup → i ∈ l → t < a.tmps.size → (actOf ops v L l a).tmps.getD t undef = v i
  | [], _, _, h, _ => by cases h
  | j :: l, a, hn, h, hs => by
    obtain ⟨hnj, hnl⟩ := List.nodup_cons.1 hn
    simp only [actOf]
    by_cases hji : j = i
    · subst hji
      rw [actOf_other l _ fun k hk ok hok _ e => hd k (fun e => hnj (e ▸ hk)) ok hok t e ht]
      simp [hL, ho, ht, Act.put, hs]
    · refine actOf_get ho ht hL hd l _ hnl (by rcases List.mem_cons.1 h with rfl | h; exact absurd rfl hji; exact h) ?_
      have := actOf_size (ops := ops) (v := v) (L := L) [j] a
      simp only [actOf] at this
      rw [this]; exact hs


/-- What an operation of such a statement is: a value that is known, a new variable, a store into one. -/
inductive Kind where
  | val (v : Value)
  | new (t : TypeId) (z : Value)
  | put (j k : Nat) (cs : Array Value)

def Each (p : Nat → Oper → Kind → Prop) : Nat → List Oper → List Kind → Prop
  | _, [], [] => True
  | i, o :: l, k :: K => p i o k ∧ Each p (i + 1) l K
  | _, _, _ => False
theorem Each.get {p : Nat → Oper → Kind → Prop} : ∀ (l : List Oper) (K : List Kind) (n i : Nat) (o : Oper), Each p n l K → l[i]? = some o → ∃ k, K[i]? = some k ∧ p (n + i) o k
  | [], _, _, _, _, _, h => by simp at h
  | o' :: l, [], _, _, _, h, _ => h.elim
  | o' :: l, k :: K, n, 0, o, h, ho => by
    obtain rfl : o' = o := by simpa using ho
    exact ⟨k, by simp, h.1⟩
  | o' :: l, k :: K, n, i + 1, o, h, ho => by
    obtain ⟨k', h1, h2⟩ := Each.get l K (n + 1) i o h.2 (by simpa using ho)
    exact ⟨k', by simpa using h1, by rw [show n + (i + 1) = n + 1 + i from by omega]; exact h2⟩

theorem Each.len {p : Nat → Oper → Kind → Prop} : ∀ (l : List Oper) (K : List Kind) (n : Nat), Each p n l K → K.length = l.length
  | [], [], _, _ => rfl
  | _ :: l, _ :: K, n, h => by simp [Each.len l K (n + 1) h.2]
  | [], _ :: _, _, h => h.elim
  | _ :: _, [], _, h => h.elim
theorem actOf_none {v : Nat → Value} : ∀ (l : List Nat) (a : Act), actOf ops v (fun _ => false) l a = a
  | [], _ => rfl
  | j :: l, a => by simp only [actOf]; exact actOf_none l a

def putsOK (K : List Kind) : Bool := (List.range K.length).all fun i => (List.range K.length).all fun i' => i == i' || match K[i]?, K[i']? with | some (.put j _ _), some (.put j' _ _) => j != j' | _, _ => true

def bindsTo (o : Oper) (j : Nat) : Prop := ∃ e ∈ o.after, e.on = j ∧ Region.binds .any e = true

/-- What is asked of each. -/
def Asked (P : Program) (l : List Oper) (K : List Kind) (S : World → Prop) (a0 : Act) (_ : Nat) (o : Oper) : Kind → Prop
  | .val v => (∃ d, o.dst = some d) ∧ ∀ a w (C : Act → World → Prop) (R : Exit → Act → World → Prop), S w →
      (∀ j u d oj, K[j]? = some (.val u) → l[j]? = some oj → oj.dst = some d → bindsTo o j → a.tmps.getD d undef = u) →
      (∀ t, (∀ x ∈ l, x.dst ≠ some t) → a.tmps.getD t undef = a0.tmps.getD t undef) →
      (∀ w', Kept [] w w' → C (a.put o.dst v) w') → o.wp P a w C R
  | .new t z => (∃ d, o.dst = some d) ∧ o.op = .alloc t ∧ (P.info? t).map (·.zero) = some (some z)
  | .put j k cs => o.dst = none ∧ bindsTo o j ∧ bindsTo o k ∧ ∃ t z oj ok p c ts n, K[j]? = some (.new t z) ∧ K[k]? = some (.val (.agg cs)) ∧ l[j]? = some oj ∧ oj.dst = some p ∧ l[k]? = some ok ∧ ok.dst = some c ∧
      o.op = .store ts (.tmp p) (.tmp c) ∧ RowT P ts n ∧ z.cells.size = n ∧ cs.size = n ∧ cs.all (·.oneCell') = true

def checkM (l : List Oper) (n : Nat) : Bool := depB l.toArray && l.all (fun o => o.guard.isNone) && ((List.range l.length).all fun i => (List.range l.length).all fun j => i == j || (match l[i]?, l[j]? with | some x, some y => x.dst.isNone || x.dst != y.dst | _, _ => true)) && l.all fun o => match o.dst with | some d => decide (d < n) | none => true

def VK (K : List Kind) (γ : Nat → Nat) (j : Nat) : Value := match K[j]? with | some (.val v) => v | _ => .pointer (some ⟨γ j, 0, none⟩)

theorem wp_new {o : Oper} {a : Act} {w : World} {C : Act → World → Prop} {R : Exit → Act → World → Prop} {t : TypeId} {z : Value} (ho : o.op = .alloc t) (hz : (P.info? t).map (·.zero) = some (some z))
    (h : C (a.put o.dst (.pointer (some ⟨w.heap.size, 0, none⟩))) (w.alloc (.cells z.cells t))) : o.wp P a w C R := by
  cases hi : P.info? t with
  | none => simp [hi] at hz
  | some i =>
    have hz' : i.zero = some z := by simpa [hi] using hz
    unfold Oper.wp execOp
    simp [ho, Instr.alloc, zeroValue, typeInfo, hi, hz', newVar, newRow]
    exact h

theorem wp_callf {f : FuncId} {o : Oper} {a : Act} {w : World} {C : Act → World → Prop} {R : Exit → Act → World → Prop} {args : Array Operand} {ats : Array TypeId} (ho : o.op = .call { callee := .value (.func f), args := args, argTypes := ats })
    (hen : ∀ (as : Array Value) w, (callFunc f as).run P w = .ok (.enter f as) w) {vs : Array Value} (hvs : args.map a.eval = vs) {v : Value} (hc : Calls P f vs w fun e w' => e = .returned v ∧ Kept [] w w') (h : ∀ w', Kept [] w w' → C (a.put o.dst v) w') : o.wp P a w C R := by
  unfold Oper.wp execOp
  simp only [ho, resolve, invoke, Sem.run_bind, Act.eval]
  rw [hvs]
  simp only [Deferred.ofValue, Sem.run_pure, Result.andThen_ok, Array.append_empty, Array.empty_append, hen, Oper.upon]
  refine hc.mono ?_
  rintro e w' ⟨rfl, hk⟩
  exact h w' hk

theorem wp_multi {id : Nat} {l : List Oper} {a0 : Act} {w0 : World} (hm : P.follows .mixedOrders = true) (K : List Kind) (S : World → Prop) (hch : checkM l a0.tmps.size = true) (hpk : putsOK K = true)
    (hS0 : S w0.drew) (hS : ∀ u u' T, S u → Kept T u u' → (∀ k ∈ T, w0.heap.size ≤ k) → S u') (hA : Each (Asked P l K S a0) 0 l K)
    (hQ : ∀ (γ : Nat → Nat) w', S w' → (∀ (j : Nat) t z, K[j]? = some (.new t z) → w0.heap.size ≤ γ j) → (∀ (j k : Nat) t z t' z', K[j]? = some (.new t z) → K[k]? = some (.new t' z') → j ≠ k → γ j ≠ γ k) →
      (∀ (i j k : Nat) cs t z, K[i]? = some (.put j k cs) → K[j]? = some (.new t z) → Blk w' (γ j) t cs) → Q .normal (actOf l.toArray (VK K γ) (fun _ => true) (List.range l.length) a0) w') : (Code.region id l.toArray true).wp P Q a0 w0 := by
  simp only [checkM, Bool.and_eq_true] at hch
  obtain ⟨⟨⟨hdep, hgd⟩, hdst⟩, hsz⟩ := hch
  have hd : ∀ (i : Nat) (o : Oper), l[i]? = some o → ∀ (j : Nat), j ≠ i → ∀ (oj : Oper), l[j]? = some oj → ∀ t, oj.dst = some t → o.dst ≠ some t := by
    intro i o ho j hj oj hoj t ht e
    have hil : i < l.length := (List.getElem?_eq_some_iff.1 ho).1
    have hjl : j < l.length := (List.getElem?_eq_some_iff.1 hoj).1
    have := List.all_eq_true.1 (List.all_eq_true.1 hdst j (by simpa using hjl)) i (by simpa using hil)
    simp [ho, hoj, ht, e, hj] at this
  have hlt : ∀ (i : Nat) (o : Oper) d, l[i]? = some o → o.dst = some d → d < a0.tmps.size := by
    intro i o d ho hdd
    have := List.all_eq_true.1 hsz o (List.mem_of_getElem? ho)
    simpa [hdd] using this
  let I : (Nat → Bool) → Act → World → Prop := fun L a w => ∃ γ : Nat → Nat, a = actOf l.toArray (VK K γ) L (List.range l.length) a0 ∧ S w ∧ w0.heap.size ≤ w.heap.size ∧
    (∀ (j : Nat) t z, K[j]? = some (.new t z) → L j = true → w0.heap.size ≤ γ j ∧ γ j < w.heap.size) ∧
    (∀ (j k : Nat) t z t' z', K[j]? = some (.new t z) → K[k]? = some (.new t' z') → L j = true → L k = true → j ≠ k → γ j ≠ γ k) ∧
    (∀ (j : Nat) t z, K[j]? = some (.new t z) → L j = true → ∃ cs, Blk w (γ j) t cs ∧ cs.size = z.cells.size ∧ ∀ (i k : Nat) cs', K[i]? = some (.put j k cs') → L i = true → cs = cs') ∧
    (∀ (i : Nat) (o : Oper), l[i]? = some o → L i = true → ∀ j, bindsTo o j → L j = true)
  have hget : ∀ (i : Nat) (o : Oper) (d : Tmp) (v : Nat → Value) (L : Nat → Bool), l[i]? = some o → o.dst = some d → L i = true → (actOf l.toArray v L (List.range l.length) a0).tmps.getD d undef = v i := by
    intro i o d v L ho hdd hL
    exact actOf_get (by simpa using ho) hdd hL (fun j hj oj hoj t ht => hd i o ho j hj oj (by simpa using hoj) t ht) _ _ List.nodup_range (by simpa using (List.getElem?_eq_some_iff.1 ho).1) (hlt i o d ho hdd)
  have hoth : ∀ (t : Tmp) (v : Nat → Value) (L : Nat → Bool), (∀ x ∈ l, x.dst ≠ some t) → (actOf l.toArray v L (List.range l.length) a0).tmps.getD t undef = a0.tmps.getD t undef := by
    intro t v L ht
    exact actOf_other _ _ fun j _ o ho _ => ht o (List.mem_of_getElem? (by simpa using ho))
  have hset : ∀ (i : Nat) (o : Oper) (v : Nat → Value) (L : Nat → Bool), l[i]? = some o → L i = false → (actOf l.toArray v L (List.range l.length) a0).put o.dst (v i) = actOf l.toArray v (fun j => if j = i then true else L j) (List.range l.length) a0 := by
    intro i o v L ho hL
    exact (actOf_set hL (by simpa using ho) (fun j hj oj hoj t ht => hd i o ho j hj oj (by simpa using hoj) t ht) _ _ List.nodup_range (by simpa using (List.getElem?_eq_some_iff.1 ho).1)).symm
  refine wp_region_any hm ?_
  refine wpAny_inv I ?_ hdep ?_ ?_ _ _ _ _ (by simp) (by simp) ?_
  · rintro L L' a w hL ⟨γ, h1, h2, h3, h4, h5, h6, h7⟩
    have hin : ∀ (j : Nat) k, K[j]? = some k → L j = L' j := fun j k hk => hL j (by have := (List.getElem?_eq_some_iff.1 hk).1; have := hA.len; simp; omega)
    refine ⟨γ, h1.trans (actOf_congr _ _ fun j hj => ⟨hL j (by simpa using hj), fun _ => rfl⟩), h2, h3, fun j t z hk hl => h4 j t z hk ((hin j _ hk).trans hl), fun j k t z t' z' hj hk hl hl' => h5 j k t z t' z' hj hk ((hin j _ hj).trans hl) ((hin k _ hk).trans hl'), fun j t z hk hl => ?_, fun i o ho hl j hb => ?_⟩
    · obtain ⟨cs, hb, hs, hp⟩ := h6 j t z hk ((hin j _ hk).trans hl)
      exact ⟨cs, hb, hs, fun i k cs' hi hl' => hp i k cs' hi ((hin i _ hi).trans hl')⟩
    · have hi : i < l.length := (List.getElem?_eq_some_iff.1 ho).1
      have h8 := h7 i o ho ((hL i (by simpa using hi)).trans hl) j hb
      obtain ⟨e, he, rfl, hbe⟩ := hb
      have := depB_spec hdep i o (by simpa using ho) e he hbe
      exact (hL e.on (by simp; omega)).symm.trans h8
  · rintro L a w i o ⟨γ, rfl, h2, h3, h4, h5, h6, h7⟩ ho hLi hdeps
    have ho' : l[i]? = some o := by simpa using ho
    obtain ⟨kd, hkd, hp⟩ := Each.get l K 0 i o hA ho'
    have hg : o.guard = none := by
      have := List.all_eq_true.1 hgd o (List.mem_of_getElem? ho')
      simpa using this
    have hbound : ∀ j, bindsTo o j → L j = true := by
      rintro j ⟨e, he, rfl, hb⟩
      exact hdeps e he hb
    have h7' : ∀ (i' : Nat) (o' : Oper), l[i']? = some o' → (fun j => if j = i then true else L j) i' = true → ∀ j, bindsTo o' j → (fun j => if j = i then true else L j) j = true := by
      intro i' o' ho2 hl j hb
      dsimp only at hl ⊢
      by_cases hji : j = i
      · rw [if_pos hji]
      · rw [if_neg hji]
        by_cases hii : i' = i
        · subst hii
          rw [ho'] at ho2; cases ho2
          exact hbound j hb
        · rw [if_neg hii] at hl
          exact h7 i' o' ho2 hl j hb
    unfold wpOp
    simp only [ho]
    rw [if_pos (by simp [Region.wanted, hg])]
    refine .inl ?_
    cases kd with
    | val v =>
      obtain ⟨_, hop⟩ := hp
      have hne : ∀ (j : Nat) t z, K[j]? = some (.new t z) → (if j = i then true else L j) = true → L j = true := by
        intro j t z hk hl
        by_cases hji : j = i
        · subst hji; rw [hkd] at hk; cases hk
        · rwa [if_neg hji] at hl
      refine hop _ w _ _ h2 (fun j u d oj hK hoj hdj hb => ?_) (fun t ht => hoth t _ L ht) (fun w' hk => ⟨γ, ?_, hS _ _ [] h2 hk (by simp), Nat.le_trans h3 hk.size, fun j t z hj hl => ?_, fun j k t z t' z' hj hk' hl hl' => h5 j k t z t' z' hj hk' (hne j t z hj hl) (hne k t' z' hk' hl'), fun j t z hj hl => ?_, h7'⟩)
      · rw [hget j oj d _ L hoj hdj (hbound j hb)]; unfold VK; rw [hK]
      · have e : VK K γ i = v := by unfold VK; rw [hkd]
        rw [← e]; exact hset i o _ L ho' hLi
      · have := h4 j t z hj (hne j t z hj hl)
        exact ⟨this.1, Nat.lt_of_lt_of_le this.2 hk.size⟩
      · obtain ⟨cs, hb, hs, hpp⟩ := h6 j t z hj (hne j t z hj hl)
        refine ⟨cs, hb.kept hk (by simp), hs, fun i' k' cs' hi' hl' => hpp i' k' cs' hi' ?_⟩
        dsimp only at hl'
        by_cases hii : i' = i
        · subst hii; rw [hkd] at hi'; cases hi'
        · rwa [if_neg hii] at hl'
    | new t z =>
      obtain ⟨_, hop, hz⟩ := hp
      refine wp_new hop hz ?_
      have hk : Kept [] w (w.alloc (.cells z.cells t)) := (Kept.refl [] w).alloc _
      refine ⟨fun j => if j = i then w.heap.size else γ j, ?_, hS _ _ [] h2 hk (by simp), Nat.le_trans h3 hk.size, fun j t' z' hj hl => ?_, fun j k t1 z1 t2 z2 hj hk' hl hl' hjk => ?_, fun j t' z' hj hl => ?_, h7'⟩
      · have e1 : actOf l.toArray (VK K γ) L (List.range l.length) a0 = actOf l.toArray (VK K fun j => if j = i then w.heap.size else γ j) L (List.range l.length) a0 := by
          refine actOf_congr _ _ fun j _ => ⟨rfl, fun hl => ?_⟩
          have hji : j ≠ i := fun e => by rw [e, hLi] at hl; cases hl
          unfold VK
          simp [hji]
        have e2 : VK K (fun j => if j = i then w.heap.size else γ j) i = .pointer (some ⟨w.heap.size, 0, none⟩) := by
          unfold VK; rw [hkd]; simp
        rw [e1, ← e2]; exact hset i o _ L ho' hLi
      · dsimp only at hl ⊢
        by_cases hji : j = i
        · rw [if_pos hji]; exact ⟨h3, by simp⟩
        · rw [if_neg hji] at hl ⊢
          have := h4 j t' z' hj hl
          exact ⟨this.1, Nat.lt_of_lt_of_le this.2 hk.size⟩
      · dsimp only at hl hl' ⊢
        by_cases hji : j = i
        · by_cases hki : k = i
          · omega
          · rw [if_neg hki] at hl'
            rw [if_pos hji, if_neg hki]
            have := (h4 k t2 z2 hk' hl').2
            omega
        · by_cases hki : k = i
          · rw [if_neg hji] at hl
            rw [if_neg hji, if_pos hki]
            have := (h4 j t1 z1 hj hl).2
            omega
          · rw [if_neg hji] at hl
            rw [if_neg hki] at hl'
            rw [if_neg hji, if_neg hki]
            exact h5 j k t1 z1 t2 z2 hj hk' hl hl' hjk
      · dsimp only at hl ⊢
        by_cases hji : j = i
        · subst hji
          rw [hkd] at hj; cases hj
          rw [if_pos rfl]
          refine ⟨z.cells, Blk.new _ _ _, rfl, fun i' k' cs' hi' hl' => ?_⟩
          exfalso
          obtain ⟨oi, hoi⟩ : ∃ oi, l[i']? = some oi := ⟨_, List.getElem?_eq_getElem (by have := (List.getElem?_eq_some_iff.1 hi').1; have := hA.len; omega)⟩
          obtain ⟨kd', hkd', hp'⟩ := Each.get l K 0 i' oi hA hoi
          rw [hi'] at hkd'; cases hkd'
          obtain ⟨_, hbj, _⟩ := hp'
          have hii : i' ≠ j := fun e => by rw [e, hkd] at hi'; cases hi'
          rw [if_neg hii] at hl'
          have := h7 i' oi hoi hl' j hbj
          rw [hLi] at this; cases this
        · rw [if_neg hji] at hl
          simp only [if_neg hji]
          obtain ⟨cs, hb, hs, hpp⟩ := h6 j t' z' hj hl
          refine ⟨cs, hb.kept hk (by simp), hs, fun i' k' cs' hi' hl' => hpp i' k' cs' hi' ?_⟩

          by_cases hii : i' = i
          · subst hii; rw [hkd] at hi'; cases hi'
          · rwa [if_neg hii] at hl'
    | put j k cs =>
      obtain ⟨hdn, hbj, hbk, t, z, oj, ok, p, c, ts, n, hKj, hKk, hoj, hpj, hok, hck, hop, hT, hz1, hz2, h1c⟩ := hp
      have hLj := hbound j hbj
      have hLk := hbound k hbk
      obtain ⟨cs0, hb, hs0, _⟩ := h6 j t z hKj hLj
      obtain ⟨⟨d, hu, hd3⟩, hsz2⟩ := hT
      have hx : (actOf l.toArray (VK K γ) L (List.range l.length) a0).eval (.tmp p) = .pointer (some ⟨γ j, 0, none⟩) := by
        show (actOf l.toArray (VK K γ) L (List.range l.length) a0).tmps.getD p undef = _
        rw [hget j oj p _ L hoj hpj hLj]; unfold VK; rw [hKj]
      have hy : (actOf l.toArray (VK K γ) L (List.range l.length) a0).eval (.tmp c) = .agg cs := by
        show (actOf l.toArray (VK K γ) L (List.range l.length) a0).tmps.getD c undef = _
        rw [hget k ok c _ L hok hck hLk]; unfold VK; rw [hKk]
      refine wp_store_row ts (.tmp p) (.tmp c) hop (γ j) cs hx hy t cs0 hb (by rw [hsz2, hz2]) (by omega) h1c ?_
      have hk : Kept [γ j] w (w.setRow (γ j) cs) := (Kept.refl [γ j] w).setRow (.inl (by simp)) cs
      have hne : ∀ (j' : Nat) t' z', K[j']? = some (.new t' z') → (if j' = i then true else L j') = true → L j' = true := by
        intro j' t' z' hk' hl
        by_cases hji : j' = i
        · subst hji; rw [hkd] at hk'; cases hk'
        · rwa [if_neg hji] at hl
      refine ⟨γ, ?_, hS _ _ [γ j] h2 hk (by simpa using (h4 j t z hKj hLj).1), Nat.le_trans h3 hk.size, fun j' t' z' hj hl => ?_, fun j' k' t1 z1 t2 z2 hj hk' hl hl' => h5 j' k' t1 z1 t2 z2 hj hk' (hne j' t1 z1 hj hl) (hne k' t2 z2 hk' hl'), fun j' t' z' hj hl => ?_, h7'⟩
      · have := hset i o (VK K γ) L ho' hLi
        rw [hdn] at this ⊢
        exact this
      · have := h4 j' t' z' hj (hne j' t' z' hj hl)
        exact ⟨this.1, Nat.lt_of_lt_of_le this.2 hk.size⟩
      · have hl2 := hne j' t' z' hj hl
        by_cases hjj : j' = j
        · subst hjj
          rw [hKj] at hj; cases hj
          refine ⟨cs, hb.setRow_ cs, by omega, fun i' k' cs' hi' hl' => ?_⟩
          by_cases hii : i' = i
          · subst hii; rw [hkd] at hi'; cases hi'; rfl
          · exfalso
            have hiK : i < K.length := (List.getElem?_eq_some_iff.1 hkd).1
            have hiK' : i' < K.length := (List.getElem?_eq_some_iff.1 hi').1
            have := List.all_eq_true.1 (List.all_eq_true.1 hpk i (by simpa using hiK)) i' (by simpa using hiK')
            simp [hkd, hi', Ne.symm hii] at this
        · obtain ⟨cs1, hb1, hs1, hp1⟩ := h6 j' t' z' hj hl2
          refine ⟨cs1, hb1.kept hk (by simpa using h5 j' j t' z' t z hj hKj hl2 hLj hjj), hs1, fun i' k' cs' hi' hl' => hp1 i' k' cs' hi' ?_⟩
          dsimp only at hl'
          by_cases hii : i' = i
          · subst hii; rw [hkd] at hi'; cases hi'; exact absurd rfl hjj
          · rwa [if_neg hii] at hl'
  · rintro L a w ⟨γ, rfl, h2, h3, h4, h5, h6, h7⟩ hall
    have hall' : ∀ (j : Nat) k, K[j]? = some k → L j = true := fun j k hk => hall j (by have := (List.getElem?_eq_some_iff.1 hk).1; have := hA.len; simp; omega)
    have e : actOf l.toArray (VK K γ) L (List.range l.length) a0 = actOf l.toArray (VK K γ) (fun _ => true) (List.range l.length) a0 := actOf_congr _ _ fun j hj => ⟨hall j (by simpa using hj), fun _ => rfl⟩
    rw [e]
    refine hQ γ w h2 (fun j t z hj => (h4 j t z hj (hall' j _ hj)).1) (fun j k t z t' z' hj hk hjk => h5 j k t z t' z' hj hk (hall' j _ hj) (hall' k _ hk) hjk) fun i j k cs tt zz hi hjj => ?_
    obtain ⟨oi, hoi⟩ : ∃ oi, l[i]? = some oi := ⟨_, List.getElem?_eq_getElem (by have := (List.getElem?_eq_some_iff.1 hi).1; have := hA.len; omega)⟩
    obtain ⟨kd, hkd, hp⟩ := Each.get l K 0 i oi hA hoi
    rw [hi] at hkd; cases hkd
    obtain ⟨cs0, hb, _, hpp⟩ := h6 j tt zz hjj (hall' j _ hjj)
    rw [← hpp i k cs hi (hall' i _ hi)]; exact hb
  · have hf : ∀ (j : Nat), j < l.length → (Array.replicate l.toArray.size false).getD j true = false := by
      intro j hj; simp [hj]
    have hfk : ∀ (j : Nat) k, K[j]? = some k → (Array.replicate l.toArray.size false).getD j true = false := fun j k hk => hf j (by have := (List.getElem?_eq_some_iff.1 hk).1; have := hA.len; omega)
    refine ⟨fun _ => 0, ?_, hS0, Nat.le_refl _, fun j t z hj hl => ?_, fun j k t z t' z' hj _ hl => ?_, fun j t z hj hl => ?_, fun i o ho hl => ?_⟩
    · rw [actOf_congr (L' := fun _ => false) (v' := VK K fun _ => 0) _ _ fun j hj => ⟨hf j (by simpa using hj), fun _ => rfl⟩, actOf_none]
    · exact absurd ((hfk j _ hj).symm.trans hl) (by simp)
    · exact absurd ((hfk j _ hj).symm.trans hl) (by simp)
    · exact absurd ((hfk j _ hj).symm.trans hl) (by simp)
    · exact absurd ((hf i (List.getElem?_eq_some_iff.1 ho).1).symm.trans hl) (by simp)

end
end Go.Txt
