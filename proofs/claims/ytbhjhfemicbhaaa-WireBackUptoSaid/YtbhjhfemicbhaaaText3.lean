/-
  A region that draws its order, walked in the text's order, where a reading may float over what acts: the text is walked in segments, each ending with what acts; in every world between two segments a property S holds; what floats reads the same in every world of S.
-/
import Derived.Test.YtbhjhfemicbhaaaText2
namespace Go.Txt

/-- The class, what floats counted as free. -/
def clsF (P : Program) (F : List Nat) (i : Nat) (o : Oper) : Nat := if F.contains i then 1 else opCls P o.op

def pairF (P : Program) (ops : Array Oper) (F : List Nat) (i j : Nat) (x y : Oper) : Bool :=
  x.apart ops y && (clsF P F i x ≤ 1 || clsF P F j y ≤ 1 || (clsF P F i x == 2 && clsF P F j y == 2))

def settledF (P : Program) (ops : Array Oper) (F : List Nat) : Bool :=
  (List.range ops.size).all fun j => match ops[j]? with
    | none => true
    | some o => clsF P F j o != 1 || ((List.range ops.size).all fun k =>
      match (ops[k]?).bind (·.dst) with
      | some t => (!(o.looksAt ops).contains t || o.after.toList.any fun e => Region.binds .any e && e.on == k) && (!F.contains j || k == j || o.dst != some t)
      | none => true)

def freeF (P : Program) (ops : Array Oper) (F : List Nat) (listed : Array Bool) (i : Nat) : Bool :=
  match ops[i]? with
  | none => false
  | some oi => (List.range ops.size).all fun j => j == i || listed.getD j true ||
    match ops[j]? with
    | none => true
    | some oj => (behind i ops.toList #[]).getD j false || pairF P ops F i j oi oj

def fromF (P : Program) (ops : Array Oper) (F : List Nat) : Nat → Nat → Array Bool → Bool
  | 0, _, listed => (Region.ready .any ops listed).isEmpty
  | fuel + 1, k, listed => (Region.ready .any ops listed).contains k && freeF P ops F listed k && fromF P ops F fuel (k + 1) (listed.setIfInBounds k true)

def textF (P : Program) (ops : Array Oper) (F : List Nat) : Bool :=
  Region.noSelect ops && settledF P ops F && fromF P ops F ops.size 0 (Array.replicate ops.size false)

/-- The text's list in parts: a part ends behind each operation of class 3. -/
def parts (P : Program) : List Oper → List (List Oper)
  | [] => [[]]
  | o :: l => match parts P l with
    | [] => [[o]]
    | p :: ps => if opCls P o.op = 3 then [o] :: p :: ps else (o :: p) :: ps

/-- What is known at the region's end. -/
def Good (P : Program) (ops : Array Oper) (F : List Nat) (S : World → Prop) (a : Act) : Prop :=
  ((List.range ops.size).all fun j => match ops[j]? with
    | none => true
    | some o => F.contains j || opCls P o.op != 1 || !Region.wanted o (yielded ops a.tmps) || fitsOp a.eval o.op) = true ∧
  ∀ j ∈ F, ∀ o, ops[j]? = some o → Region.wanted o (yielded ops a.tmps) = true → ∃ d, o.dst = some d ∧ ∀ w, S w → (execOp a.eval o).run P w = .ok (.value (a.tmps.getD d undef)) w

def SegPost (S : World → Prop) (K : Act → World → Prop) (e : Exit) (a : Act) (w : World) : Prop := e = .normal ∧ S w ∧ K a w

def wpSegs (P : Program) (ops : Array Oper) (S : World → Prop) (G : Act → World → Prop) : List (List Oper) → Act → World → Prop
  | [] => G
  | s :: ss => fun a w => wpList P ops (SegPost S (wpSegs P ops S G ss)) s a w

def T0 : Exit → Act → World → Prop := fun _ _ _ => False
theorem hT0 : ∀ e a w, T0 e a w → e = .normal := fun _ _ _ h => h.elim

section
variable {P : Program} {ops : Array Oper} {F : List Nat} {S : World → Prop} {G : Act → World → Prop}

/-- One operation, behind which S holds. -/
def opS (P : Program) (ops : Array Oper) (S : World → Prop) (i : Nat) (K : Act → World → Prop) (a : Act) (w : World) : Prop := wpOp P ops T0 i (fun a' w' => S w' ∧ K a' w') a w

theorem opS_mono {i : Nat} {K K' : Act → World → Prop} {a : Act} {w : World} (h : ∀ a w, S w → K a w → K' a w) (hh : opS P ops S i K a w) : opS P ops S i K' a w :=
  wpOp_mono (fun a w hk => ⟨hk.1, h a w hk.1 hk.2⟩) hh

def anyS (P : Program) (ops : Array Oper) (S : World → Prop) (G : Act → World → Prop) : Nat → Array Bool → Act → World → Prop
  | 0, listed, a, w => Region.ready .any ops listed = [] ∧ G a w
  | fuel + 1, listed, a, w => (Region.ready .any ops listed = [] → G a w) ∧ ∀ i ∈ Region.ready .any ops listed, opS P ops S i (anyS P ops S G fuel (listed.setIfInBounds i true)) a w

theorem anyS_some : ∀ (fuel : Nat) (listed : Array Bool) (a : Act) (w : World), anyS P ops S G fuel listed a w →
    ∃ a' w', G a' w' ∧ ∀ t, (∀ j o, ops[j]? = some o → listed.getD j true = false → o.dst ≠ some t) → a'.tmps[t]? = a.tmps[t]?
  | 0, _, a, w, h => ⟨a, w, h.2, fun _ _ => rfl⟩
  | fuel + 1, listed, a, w, h => by
    cases hr : Region.ready .any ops listed with
    | nil => exact ⟨a, w, h.1 hr, fun _ _ => rfl⟩
    | cons i rs =>
      have hi : i ∈ Region.ready .any ops listed := by rw [hr]; simp
      obtain ⟨hun, oi, hoi, _⟩ := mem_ready.1 hi
      obtain ⟨a1, w1, h1, k1⟩ := wpOp_some hT0 hoi (h.2 i hi)
      obtain ⟨a2, w2, h2, k2⟩ := anyS_some fuel _ a1 w1 h1.2
      refine ⟨a2, w2, h2, fun t ht => ?_⟩
      rw [k2 t fun j o hj hu => ?_, k1 t (ht i oi hoi hun)]
      refine ht j o hj ?_
      by_cases hij : i = j
      · subst hij; exact hun
      · rw [getD_set_ne true hij] at hu; exact hu

/-- Yields this value in every world of S. -/
def YieldsS (P : Program) (ops : Array Oper) (S : World → Prop) (o : Oper) (v : Value) (a : Act) : Prop :=
  (Region.wanted o (yielded ops a.tmps) = true ∧ ∀ w, S w → (execOp a.eval o).run P w = .ok (.value v) w) ∨
  (Region.wanted o (yielded ops a.tmps) = false ∧ v = undef)

theorem YieldsS.opS {i : Nat} {o : Oper} {v : Value} {a : Act} (hi : ops[i]? = some o) (hy : YieldsS P ops S o v a) {K : Act → World → Prop} {w : World} (hw : S w) (h : K (a.put o.dst v) w) : opS P ops S i K a w := by
  unfold Txt.opS wpOp
  simp only [hi]
  rcases hy with ⟨hwn, hv⟩ | ⟨hwn, rfl⟩
  · simp only [hwn, if_true, Oper.wp, hv w hw, Oper.upon]; exact .inl ⟨hw, h⟩
  · simp only [hwn, Bool.false_eq_true, if_false]; exact ⟨hw, h⟩

theorem YieldsS.of_same {o : Oper} {v : Value} {a a' : Act} (hy : YieldsS P ops S o v a) (he : execOp a'.eval o = execOp a.eval o)
    (hw : Region.wanted o (yielded ops a'.tmps) = Region.wanted o (yielded ops a.tmps)) : YieldsS P ops S o v a' := by
  unfold YieldsS at *
  rw [he, hw]
  exact hy

theorem of_yieldsS {oj : Oper} {j : Nat} (hoj : ops[j]? = some oj) {a : Act} {w : World} (hw : S w) {K : Act → World → Prop} {v : Value} (hy : YieldsS P ops S oj v a)
    (h : opS P ops S j K a w) : K (a.put oj.dst v) w := by
  unfold opS wpOp at h
  simp only [hoj] at h
  rcases hy with ⟨hwn, hv⟩ | ⟨hwn, rfl⟩
  · rw [if_pos hwn] at h
    rcases h with h | ⟨_, hl⟩
    case inr => exact (not_lets hT0 hl).elim
    unfold Oper.wp at h
    rw [hv w hw] at h
    exact h.2
  · rw [if_neg (by simp [hwn])] at h
    exact h.2

/-- 'oi', then 'oj' which yields its value: 'oj' first. -/
theorem opS_shift {i j : Nat} {oi oj : Oper} {v : Value} (hoi : ops[i]? = some oi) (hoj : ops[j]? = some oj) (hap : oi.apart ops oj = true)
    (hsi : ∀ cs b, oi.op ≠ .select cs b) (hsj : ∀ cs b, oj.op ≠ .select cs b) {K : Act → World → Prop} {a : Act} {w : World}
    (hy : YieldsS P ops S oj v a) (h : opS P ops S i (fun a' w' => opS P ops S j K a' w') a w) : opS P ops S i K (a.put oj.dst v) w := by
  obtain ⟨h1, h2, h3⟩ := Oper.apart_spec hap
  have keep : ∀ (d : List Deferred) (u : Value), YieldsS P ops S oj v (({ a with defers := d } : Act).put oi.dst u) := fun d u =>
    hy.of_same (execOp_put oj hsj { a with defers := d } oi.dst u h1) (wanted_put oj { a with defers := d } oi.dst u h1)
  have comm : ∀ (d : List Deferred) (u : Value), (({ a with defers := d } : Act).put oi.dst u).put oj.dst v = ({ a.put oj.dst v with defers := d } : Act).put oi.dst u := fun d u => by
    rw [Act.put_comm _ u v h2]
    cases oj.dst <;> rfl
  have go : ∀ (d : List Deferred) (u : Value) (w' : World), (S w' ∧ opS P ops S j K (({ a with defers := d } : Act).put oi.dst u) w') → (S w' ∧ K (({ a.put oj.dst v with defers := d } : Act).put oi.dst u) w') := fun d u w' hh => by
    refine ⟨hh.1, ?_⟩
    rw [← comm d u]; exact of_yieldsS hoj hh.1 (keep d u) hh.2
  have hdef : (a.put oj.dst v).defers = a.defers := by cases oj.dst <;> rfl
  have same : ∀ u, ({ a.put oj.dst v with defers := a.defers } : Act).put oi.dst u = (a.put oj.dst v).put oi.dst u := fun u => by
    cases hd : oj.dst <;> rfl
  unfold opS wpOp at h
  unfold opS wpOp
  simp only [hoi] at h ⊢
  rw [wanted_put oi a oj.dst v h3]
  split
  · rename_i hw
    rw [if_pos hw] at h
    rcases h with h | ⟨_, hl⟩
    case inr => exact (not_lets hT0 hl).elim
    refine .inl ?_
    unfold Oper.wp at *
    rw [execOp_put oi hsi a oj.dst v h3]
    generalize (execOp a.eval oi).run P w = r at *
    cases r with
    | ok n w' =>
      cases n <;> simp only [Oper.upon] at h ⊢
      case value u => have := go a.defers u w' h; rwa [same] at this
      case skip => have := go a.defers undef w' h; rwa [same] at this
      case defer d => have := go (d :: a.defers) undef w' h; rw [hdef]; exact this
      case enter f args =>
        refine Calls.mono h fun e w'' he => ?_
        cases e with
        | returned u => have := go a.defers u w'' he; rwa [same] at this
        | panicked c => exact he
        | outgrown => exact he
      case row row args =>
        refine Rows.mono h fun u w'' he => ?_
        have := go a.defers u w'' he; rwa [same] at this
    | halt x w' =>
      cases x <;> simp only [Oper.upon] at h ⊢
      case panic u => exact h
  · rename_i hw
    rw [if_neg hw] at h
    have := go a.defers undef w h; rwa [same] at this

/-- 'oi' yields its value, then 'oj': 'oj' first. -/
theorem opS_put {i j : Nat} {oi oj : Oper} {v : Value} (hoi : ops[i]? = some oi) (hoj : ops[j]? = some oj) (hap : oi.apart ops oj = true)
    (hsi : ∀ cs b, oi.op ≠ .select cs b) (hsj : ∀ cs b, oj.op ≠ .select cs b) {K : Act → World → Prop} {a : Act} {w : World}
    (hy : YieldsS P ops S oi v a) (h : opS P ops S j K (a.put oi.dst v) w) : opS P ops S j (fun a' w' => opS P ops S i K a' w') a w := by
  obtain ⟨h1, h2, h3⟩ := Oper.apart_spec hap
  have keep : ∀ (d : List Deferred) (u : Value), YieldsS P ops S oi v (({ a with defers := d } : Act).put oj.dst u) := fun d u =>
    hy.of_same (execOp_put oi hsi { a with defers := d } oj.dst u h3) (wanted_put oi { a with defers := d } oj.dst u h3)
  have comm : ∀ (d : List Deferred) (u : Value), ({ a.put oi.dst v with defers := d } : Act).put oj.dst u = (({ a with defers := d } : Act).put oj.dst u).put oi.dst v := fun d u => by
    rw [Act.put_comm _ u v (fun d hd he => h2 d he hd)]
    cases oi.dst <;> rfl
  have go : ∀ (d : List Deferred) (u : Value) (w' : World), (S w' ∧ K (({ a.put oi.dst v with defers := d } : Act).put oj.dst u) w') → (S w' ∧ opS P ops S i K (({ a with defers := d } : Act).put oj.dst u) w') := fun d u w' hh => by
    refine ⟨hh.1, (keep d u).opS hoi hh.1 ?_⟩
    rw [← comm d u]; exact hh.2
  have hdef : (a.put oi.dst v).defers = a.defers := by cases oi.dst <;> rfl
  have same : ∀ u, ({ a.put oi.dst v with defers := a.defers } : Act).put oj.dst u = (a.put oi.dst v).put oj.dst u := fun u => by
    cases hd : oi.dst <;> rfl
  unfold opS wpOp at h
  unfold opS wpOp
  simp only [hoj] at h ⊢
  rw [wanted_put oj a oi.dst v h1] at h
  split
  · rename_i hw
    rw [if_pos hw] at h
    rcases h with h | ⟨_, hl⟩
    case inr => exact (not_lets hT0 hl).elim
    refine .inl ?_
    unfold Oper.wp at *
    rw [execOp_put oj hsj a oi.dst v h1] at h
    generalize (execOp a.eval oj).run P w = r at *
    cases r with
    | ok n w' =>
      cases n <;> simp only [Oper.upon] at h ⊢
      case value u => exact go a.defers u w' (by rw [same]; exact h)
      case skip => exact go a.defers undef w' (by rw [same]; exact h)
      case defer d => rw [hdef] at h; exact go (d :: a.defers) undef w' h
      case enter f args =>
        refine Calls.mono h fun e w'' he => ?_
        cases e with
        | returned u => exact go a.defers u w'' (by rw [same]; exact he)
        | panicked c => exact he
        | outgrown => exact he
      case row row args => exact Rows.mono h fun u w'' he => go a.defers u w'' (by rw [same]; exact he)
    | halt x w' =>
      cases x <;> simp only [Oper.upon] at h ⊢
      case panic u => exact h
  · rename_i hw
    rw [if_neg hw] at h
    exact go a.defers undef w (by rw [same]; exact h)

theorem opS_reads {i j : Nat} {oi oj : Oper} (hoi : ops[i]? = some oi) (hoj : ops[j]? = some oj) (hap : oi.apart ops oj = true)
    (hsi : ∀ cs b, oi.op ≠ .select cs b) (hsj : ∀ cs b, oj.op ≠ .select cs b) {K : Act → World → Prop} {a : Act} {w : World} (hw : S w)
    (hi : opCls P oi.op = 2) (hj : opCls P oj.op = 2) (h : opS P ops S i (fun a' w' => opS P ops S j K a' w') a w) : opS P ops S j (fun a' w' => opS P ops S i K a' w') a w := by
  obtain ⟨h1, h2, h3⟩ := Oper.apart_spec hap
  have look : ∀ (k : Nat) (o : Oper) (b : Act) (K : Act → World → Prop), ops[k]? = some o → opCls P o.op = 2 → opS P ops S k K b w →
      ∃ v, K (b.put o.dst v) w ∧ ((Region.wanted o (yielded ops b.tmps) = true ∧ (execOp b.eval o).run P w = .ok (.value v) w) ∨ (Region.wanted o (yielded ops b.tmps) = false ∧ v = undef)) := by
    intro k o b K hk hc h
    obtain ⟨dst, op, t, pos, af, g⟩ := o
    unfold opS wpOp at h
    simp only [hk] at h
    split at h
    · rename_i hwn
      rcases h with h | ⟨_, hl⟩
      case inr => exact (not_lets hT0 hl).elim
      unfold Oper.wp at h
      cases hr : (execOp b.eval ⟨dst, op, t, pos, af, g⟩).run P w with
      | ok n w' =>
        obtain ⟨rfl, v, rfl⟩ := peeks2 hc b.eval dst t pos af g _ _ _ hr
        rw [hr] at h
        exact ⟨v, h.2, .inl ⟨hwn, rfl⟩⟩
      | halt x w' =>
        rw [hr] at h
        cases x <;> simp only [Oper.upon] at h
        case panic u => exact h.elim
    · rename_i hwn
      exact ⟨undef, h.2, .inr ⟨by simpa using hwn, rfl⟩⟩
  have back : ∀ (k : Nat) (o : Oper) (b : Act) (K : Act → World → Prop) (v : Value), ops[k]? = some o → K (b.put o.dst v) w →
      ((Region.wanted o (yielded ops b.tmps) = true ∧ (execOp b.eval o).run P w = .ok (.value v) w) ∨ (Region.wanted o (yielded ops b.tmps) = false ∧ v = undef)) → opS P ops S k K b w := by
    intro k o b K v hk hK hh
    unfold opS wpOp
    simp only [hk]
    rcases hh with ⟨hwn, hv⟩ | ⟨hwn, rfl⟩
    · simp only [hwn, if_true, Oper.wp, hv, Oper.upon]; exact .inl ⟨hw, hK⟩
    · simp only [hwn, Bool.false_eq_true, if_false]; exact ⟨hw, hK⟩
  obtain ⟨u, hu, ru⟩ := look i oi a _ hoi hi h
  obtain ⟨v, hv, rv⟩ := look j oj _ _ hoj hj hu
  rw [wanted_put oj a oi.dst u h1, execOp_put oj hsj a oi.dst u h1] at rv
  refine back j oj a _ v hoj (back i oi _ _ u hoi ?_ ?_) rv
  · rw [← Act.put_comm a u v h2]; exact hv
  · rw [wanted_put oi a oj.dst v h3, execOp_put oi hsi a oj.dst v h3]; exact ru

theorem settledF_spec (h : settledF P ops F = true) {j k : Nat} {oj ok : Oper} (hj : ops[j]? = some oj) (hc : clsF P F j oj = 1) (hk : ops[k]? = some ok) {t : Tmp} (hd : ok.dst = some t) :
    (t ∈ oj.looksAt ops → ∃ e ∈ oj.after, Region.binds .any e = true ∧ e.on = k) ∧ (j ∈ F → k ≠ j → oj.dst ≠ some t) := by
  unfold settledF at h
  have hjl : j < ops.size := (Array.getElem?_eq_some_iff.1 hj).1
  have h1 := List.all_eq_true.1 h j (by simpa using hjl)
  simp only [hj, hc, bne_self_eq_false, Bool.false_or] at h1
  have hlt : k < ops.size := (Array.getElem?_eq_some_iff.1 hk).1
  have h2 := List.all_eq_true.1 h1 k (by simpa using hlt)
  simp only [hk, Option.bind_some, hd, Bool.and_eq_true] at h2
  refine ⟨fun ht => ?_, fun hF hne hdj => ?_⟩
  · have hcon : (oj.looksAt ops).contains t = true := by simpa using ht
    have h3 := h2.1
    rw [hcon] at h3
    simp only [Bool.not_true, Bool.false_or] at h3
    obtain ⟨e, he, hb⟩ := List.any_eq_true.1 h3
    simp only [Bool.and_eq_true, beq_iff_eq] at hb
    exact ⟨e, by simpa using he, hb.1, hb.2⟩
  · have h3 := h2.2
    have hFc : F.contains j = true := by simpa using hF
    rw [hFc, hdj] at h3
    simp [hne] at h3

/-- An operation that is free (or floats), with what is known at the end: it yields one value in every world of S. -/
theorem yields_end {j : Nat} {oj : Oper} (hoj : ops[j]? = some oj) (hsj : ∀ cs b, oj.op ≠ .select cs b) (hc : clsF P F j oj ≤ 1) {a a' : Act} (hgood : Good P ops F S a') (hlook : clsF P F j oj = 1 → ∀ t ∈ oj.looksAt ops, a'.tmps[t]? = a.tmps[t]?)
    {w : World} (hw : S w) {r : Next} {w1 : World} (hwn : Region.wanted oj (yielded ops a.tmps) = true) (hrun : (execOp a.eval oj).run P w = .ok r w1) : w1 = w ∧ ∃ v, r = .value v ∧ YieldsS P ops S oj v a := by
  by_cases hF : j ∈ F
  · have h1 : clsF P F j oj = 1 := by unfold clsF; rw [if_pos (by simpa using hF)]
    obtain ⟨s1, s2⟩ := look_same (hlook h1)
    obtain ⟨d, _, hall⟩ := hgood.2 j hF oj hoj (by rw [s1]; exact hwn)
    have hex : execOp a'.eval oj = execOp a.eval oj := execOp_congr oj hsj s2
    rw [hex] at hall
    have := hall w hw
    rw [hrun] at this
    simp only [Result.ok.injEq] at this
    exact ⟨this.2, _, this.1, .inl ⟨hwn, hall⟩⟩
  · have hcl : clsF P F j oj = opCls P oj.op := by unfold clsF; rw [if_neg (by simpa using hF)]
    have hf : Free P (execOp a.eval oj) := free_of_cls (by omega) fun h1 => by
      obtain ⟨s1, s2⟩ := look_same (hlook (by omega))
      have hjl : j < ops.size := (Array.getElem?_eq_some_iff.1 hoj).1
      have := List.all_eq_true.1 hgood.1 j (by simpa using hjl)
      have hFc : F.contains j = false := by simpa using hF
      simp only [hoj, hFc, h1, s1, hwn, bne_self_eq_false, Bool.not_true, Bool.or_self, Bool.false_or] at this
      rw [← this]; exact (fitsOp_congr s2).symm
    obtain ⟨h1, v, h2, h3⟩ := hf w r w1 hrun
    exact ⟨h1, v, h2, .inl ⟨hwn, fun w _ => h3 w⟩⟩

theorem yields_opS {j : Nat} {oj : Oper} (hoj : ops[j]? = some oj) (hsj : ∀ cs b, oj.op ≠ .select cs b) (hc : clsF P F j oj ≤ 1) {a a' : Act} (hgood : Good P ops F S a') (hlook : clsF P F j oj = 1 → ∀ t ∈ oj.looksAt ops, a'.tmps[t]? = a.tmps[t]?)
    {w : World} (hw : S w) {K : Act → World → Prop} (h : opS P ops S j K a w) : ∃ v, YieldsS P ops S oj v a ∧ K (a.put oj.dst v) w := by
  unfold opS wpOp at h
  simp only [hoj] at h
  split at h
  · rename_i hwn
    rcases h with h | ⟨_, hl⟩
    case inr => exact (not_lets hT0 hl).elim
    unfold Oper.wp at h
    cases hr : (execOp a.eval oj).run P w with
    | ok n w' =>
      obtain ⟨rfl, v, rfl, hy⟩ := yields_end hoj hsj hc hgood hlook hw hwn hr
      rw [hr] at h
      exact ⟨v, hy, h.2⟩
    | halt x w' =>
      rw [hr] at h
      cases x <;> simp only [Oper.upon] at h
      case panic u => exact h.elim
  · rename_i hwn
    exact ⟨undef, .inr ⟨by simpa using hwn, rfl⟩, h.2⟩

/-- The operation that the text has next may be taken first. -/
theorem anyS_first (hG : ∀ a w, G a w → Good P ops F S a) (hset : settledF P ops F = true)
    (hsel : ∀ (j : Nat) (o : Oper) cs b, ops[j]? = some o → o.op ≠ .select cs b) {i : Nat} {oi : Oper} (hoi : ops[i]? = some oi) :
    ∀ (fuel : Nat) (listed : Array Bool) (a : Act) (w : World), S w → Closed ops listed →
      (∀ j oj, ops[j]? = some oj → j ≠ i → listed.getD j true = false → ¬ Late ops i oj → pairF P ops F i j oi oj = true) →
      i ∈ Region.ready .any ops listed →
      opS P ops S i (anyS P ops S G fuel (listed.setIfInBounds i true)) a w → anyS P ops S G (fuel + 1) listed a w := by
  intro fuel
  induction fuel with
  | zero =>
    intro listed a w _ _ _ hr H
    refine ⟨fun h => (by rw [h] at hr; cases hr), fun j hj => ?_⟩
    by_cases hji : j = i
    · subst hji; exact H
    · obtain ⟨a1, w1, h1, _⟩ := wpOp_some hT0 hoi H
      have := ready_mono hj hji
      rw [h1.2.1] at this
      cases this
  | succ fuel ih =>
    intro listed a w hSw hclo hfree hr H
    refine ⟨fun h => (by rw [h] at hr; cases hr), fun j hj => ?_⟩
    by_cases hji : j = i
    · subst hji; exact H
    · obtain ⟨hjun, oj, hoj, hall⟩ := mem_ready.1 hj
      obtain ⟨hiun, oi', hoi', halli⟩ := mem_ready.1 hr
      rw [hoi] at hoi'
      cases hoi'
      have hnot : ¬ Late ops i oj := not_late hclo hoj hj hiun
      have hpair := hfree j oj hoj hji hjun hnot
      have hfree' : ∀ k ok, ops[k]? = some ok → k ≠ i → (listed.setIfInBounds j true).getD k true = false →
          ¬ Late ops i ok → pairF P ops F i k oi ok = true := fun k ok hk hki hun hno => by
        refine hfree k ok hk hki ?_ hno
        by_cases hjk : j = k
        · subst hjk; exact hjun
        · rw [getD_set_ne true hjk] at hun; exact hun
      have hsi := fun cs b => hsel i oi cs b hoi
      have hsj := fun cs b => hsel j oj cs b hoj
      -- the end
      obtain ⟨a1, w1, h1, k1⟩ := wpOp_some hT0 hoi H
      obtain ⟨a2, w2, h2, k2⟩ := anyS_some _ _ _ _ h1.2
      have hgood := hG _ _ h2
      have look : ∀ (m : Nat) (om : Oper), ops[m]? = some om → clsF P F m om = 1 → (∀ e ∈ om.after, Region.binds .any e = true → listed.getD e.on false = true) → ∀ t ∈ om.looksAt ops, a2.tmps[t]? = a.tmps[t]? := by
        intro m om hm hc hallm t ht
        have unl : ∀ (k : Nat) (ok : Oper), ops[k]? = some ok → ok.dst = some t → listed.getD k true = true := by
          intro k ok hk hd
          obtain ⟨e, he, hb, rfl⟩ := (settledF_spec hset hm hc hk hd).1 ht
          have := hallm e he hb
          rcases Nat.lt_or_ge e.on listed.size with h' | h'
          · simp [h'] at this ⊢; exact this
          · simp [Array.getElem?_eq_none h'] at this
        rw [k2 t fun k ok hk hu hd => ?_, k1 t fun hd => ?_]
        · have := unl i oi hoi hd; rw [hiun] at this; cases this
        · have hl := unl k ok hk hd
          by_cases hik : i = k
          · subst hik; rw [hiun] at hl; cases hl
          · rw [getD_set_ne true hik, hl] at hu; cases hu
      unfold pairF at hpair
      simp only [Bool.and_eq_true, Bool.or_eq_true, decide_eq_true_eq, beq_iff_eq] at hpair
      obtain ⟨hap, hcl⟩ := hpair
      have H' : opS P ops S i (fun a' w' => opS P ops S j (anyS P ops S G fuel ((listed.setIfInBounds i true).setIfInBounds j true)) a' w') a w :=
        opS_mono (fun a' w' _ hh => hh.2 j (ready_mono hj hji)) H
      have H'' : opS P ops S j (fun a' w' => opS P ops S i (anyS P ops S G fuel ((listed.setIfInBounds i true).setIfInBounds j true)) a' w') a w := by
        rcases hcl with (hci | hcj) | ⟨hci, hcj⟩
        · obtain ⟨v, hy, hK⟩ := yields_opS hoi hsi hci hgood (fun h1 => look i oi hoi h1 halli) hSw H'
          exact opS_put hoi hoj hap hsi hsj hy hK
        · have : ∃ v, YieldsS P ops S oj v a := by
            by_cases hwn : Region.wanted oj (yielded ops a.tmps) = true
            · obtain ⟨a3, w3, ⟨hS3, h3⟩, k3⟩ := wpOp_some hT0 hoi H'
              obtain ⟨g1, g2, g3⟩ := Oper.apart_spec hap
              have hs : ∀ t ∈ oj.looksAt ops, a3.tmps[t]? = a.tmps[t]? := fun t ht => k3 t fun hd => g1 t hd ht
              obtain ⟨s1, s2⟩ := look_same hs
              have hex : execOp a3.eval oj = execOp a.eval oj := execOp_congr oj hsj s2
              obtain ⟨v, hy, _⟩ := yields_opS (a' := a2) hoj hsj hcj hgood (fun h1 t ht => by rw [look j oj hoj h1 hall t ht, hs t ht]) hS3 h3
              exact ⟨v, hy.of_same hex.symm s1.symm⟩
            · exact ⟨undef, .inr ⟨by simpa using hwn, rfl⟩⟩
          obtain ⟨v, hy⟩ := this
          exact hy.opS hoj hSw (opS_shift hoi hoj hap hsi hsj hy H')
        · have ci : opCls P oi.op = 2 := by unfold clsF at hci; split at hci; · cases hci
                                            · exact hci
          have cj : opCls P oj.op = 2 := by unfold clsF at hcj; split at hcj; · cases hcj
                                            · exact hcj
          exact opS_reads hoi hoj hap hsi hsj hSw ci cj H'
      refine opS_mono (fun a' w' hS' hh => ih (listed.setIfInBounds j true) a' w' hS' (hclo.set hj) hfree' (ready_mono hr (Ne.symm hji)) ?_) H''
      rw [Array.setIfInBounds_comm _ _ hji]
      exact hh

theorem freeF_spec {listed : Array Bool} {i : Nat} {oi : Oper} (hi : ops[i]? = some oi) (h : freeF P ops F listed i = true) :
    ∀ j oj, ops[j]? = some oj → j ≠ i → listed.getD j true = false → ¬ Late ops i oj → pairF P ops F i j oi oj = true := by
  intro j oj hj hji hun hno
  unfold freeF at h
  simp only [hi] at h
  have hlt : j < ops.size := (Array.getElem?_eq_some_iff.1 hj).1
  have h2 := List.all_eq_true.1 h j (by simpa using hlt)
  rw [hun] at h2
  simp only [hj, Bool.or_false, Bool.or_eq_true, beq_iff_eq] at h2
  rcases h2 with h2 | h2 | h2
  · exact (hji h2).elim
  · exact (hno (behind_spec _ _ (fun j => by simp) (fun j oj _ h => by simp at h) j oj hj h2)).elim
  · exact h2

/-- The text's list, S behind each operation. -/
def textS (P : Program) (ops : Array Oper) (S : World → Prop) (G : Act → World → Prop) : Nat → Nat → Act → World → Prop
  | 0, _ => G
  | n + 1, k => opS P ops S k (textS P ops S G n (k + 1))

theorem anyS_text (hG : ∀ a w, G a w → Good P ops F S a) (hset : settledF P ops F = true)
    (hsel : ∀ (j : Nat) (o : Oper) cs b, ops[j]? = some o → o.op ≠ .select cs b) : ∀ (n k : Nat) (listed : Array Bool) (a : Act) (w : World), S w → k + n = ops.size → Closed ops listed →
    fromF P ops F n k listed = true → textS P ops S G n k a w → anyS P ops S G n listed a w
  | 0, _, _, _, _, _, _, _, hB, h => ⟨by simpa [fromF] using hB, h⟩
  | n + 1, k, listed, a, w, hS, hk, hc, hB, h => by
    have hlt : k < ops.size := by omega
    have h0 : ops[k]? = some ops[k] := Array.getElem?_eq_getElem hlt
    simp only [fromF, Bool.and_eq_true] at hB
    obtain ⟨⟨hr, hf⟩, hB'⟩ := hB
    refine anyS_first hG hset hsel h0 n listed a w hS hc (freeF_spec h0 hf) (by simpa using hr) ?_
    exact opS_mono (fun a' w' hS' hh => anyS_text hG hset hsel n (k + 1) _ a' w' hS' (by omega) (hc.set (by simpa using hr)) hB' hh) h

end
end Go.Txt
