/-
  More words for memory: a row of one's own that may begin in the middle of its block, and end before the block's end ('Ow'); append onto it; stores into it.
-/
import Derived.Test.YtbhjhfemicbhaaaMem2
import Derived.Deep.AppendSrc
import Derived.Deep.Upon
namespace Go.Mem
open Go.RowKit

/-- The slice value v owns n elements of s cells each, that read as xs; its room lies within its block, of which nothing is frozen. -/
def Ow (w : World) (e : TypeId) (s : Nat) (v : Value) (n : Nat) (xs : List Value) : Prop :=
  xs.length = n * s ∧ ((v = .slice none 0 0 ∧ n = 0) ∨
    ∃ g o cap cur, v = .slice (some ⟨g, o, none⟩) n cap ∧ Blk w g e cur ∧ n ≤ cap ∧ cap ≤ 9223372036854775807 ∧ o + cap * s ≤ cur.size ∧ (cur.toList.drop o).take (n * s) = xs)

section
variable {S : List Nat} {w w' : World} {e : TypeId} {s n : Nat} {v : Value} {xs : List Value}

theorem Ow.nil (w : World) (e : TypeId) (s : Nat) : Ow w e s (.slice none 0 0) 0 [] := ⟨by simp, .inl ⟨rfl, rfl⟩⟩
theorem Ow.of_own (h : Own w e s v n xs) : Ow w e s v n xs := by
  refine ⟨h.1, ?_⟩
  rcases h.2 with hn | ⟨g, cap, cur, rfl, _, hg, hnc, hcm, hcs, ht⟩
  · exact .inl hn
  · exact .inr ⟨g, 0, cap, cur, rfl, hg, hnc, by simpa [maxLen] using hcm, by omega, by simpa using ht⟩
theorem Rd.of_ow (h : Ow w e s v n xs) : Rd w s v n xs := by
  obtain ⟨h1, h2⟩ := h
  rcases h2 with ⟨rfl, rfl⟩ | ⟨g, o, cap, cur, rfl, hg, hnc, _, hcs, ht⟩
  · exact ⟨none, 0, rfl, h1, Nat.le_refl _, fun h => absurd h (by omega)⟩
  · refine ⟨some ⟨g, o, none⟩, cap, rfl, h1, hnc, fun _ => ⟨g, o, rfl, fun j u hu => ?_⟩⟩
    rw [hg.cell]
    rw [← ht, List.getElem?_take] at hu
    split at hu
    · rw [List.getElem?_drop] at hu; simpa using hu
    · cases hu
theorem Ow.kept (h : Ow w e s v n xs) (hk : Kept S w w') (hS : ∀ k, v.ownBlock = some k → k ∉ S) : Ow w' e s v n xs := by
  refine ⟨h.1, ?_⟩
  rcases h.2 with hn | ⟨g, o, cap, cur, rfl, hg, rest⟩
  · exact .inl hn
  · exact .inr ⟨g, o, cap, cur, rfl, hg.kept hk (hS g rfl), rest⟩
theorem Ow.kept0 (h : Ow w e s v n xs) (hk : Kept [] w w') : Ow w' e s v n xs := h.kept hk (by simp)
theorem Ow.drew (h : Ow w e s v n xs) : Ow w.drew e s v n xs := h
theorem Ow.drewN (h : Ow w e s v n xs) (k : Nat) : Ow (w.drewN k) e s v n xs := h
theorem Ow.alloc (h : Ow w e s v n xs) (o : Obj) : Ow (w.alloc o) e s v n xs := h.kept0 ((Kept.refl [] w).alloc o)
theorem Ow.setCell (h : Ow w e s v n xs) {p : Addr} (hp : v.ownBlock ≠ some p.block) (u : Value) : Ow (w.setCell p u) e s v n xs :=
  h.kept ((Kept.refl [p.block] w).setCell (.inl (by simp)) u) (fun k hk hm => hp (by simp at hm; rw [hk, hm]))
theorem Ow.lt (h : Ow w e s v n xs) {k : Nat} (hk : v.ownBlock = some k) : k < w.heap.size := by
  rcases h.2 with ⟨rfl, _⟩ | ⟨g, o, cap, cur, rfl, hg, _⟩
  · simp [Value.ownBlock] at hk
  · simp [Value.ownBlock] at hk; subst hk; exact hg.lt
theorem Ow.blk_ne {g : Nat} {t : TypeId} {cs : Array Value} (h : Ow w e s v n xs) (hg : Blk w g t cs) (hne : e ≠ t) : v.ownBlock ≠ some g := by
  rcases h.2 with ⟨rfl, _⟩ | ⟨g', o, cap, cur, rfl, hh, _⟩
  · simp [Value.ownBlock]
  · intro he
    have : g' = g := by simpa [Value.ownBlock] using he
    subst this
    exact Blk.ne_ hh hg hne rfl
/-- Two rows of different element types lie in different blocks. -/
theorem Ow.ne_ {e' : TypeId} {s' n' : Nat} {v' : Value} {xs' : List Value} (h : Ow w e s v n xs) (h' : Ow w e' s' v' n' xs') (hne : e ≠ e') : ∀ k, v.ownBlock = some k → v'.ownBlock ≠ some k := by
  intro k hk
  rcases h.2 with ⟨rfl, _⟩ | ⟨g, o, cap, cur, rfl, hg, _⟩
  · simp [Value.ownBlock] at hk
  · simp [Value.ownBlock] at hk
    subst hk
    exact h'.blk_ne hg (Ne.symm hne)
theorem Ow.shape (h : Ow w e s v n xs) : ∃ A c, v = .slice A n c ∧ n ≤ c := by
  obtain ⟨A, c, hv, _, hc, _⟩ := Rd.of_ow h; exact ⟨A, c, hv, hc⟩
/-- What is there to be written: the cells of its elements. -/
theorem Ow.at_ (h : Ow w e s v n xs) (hn : 0 < n) : ∃ g o c, v = .slice (some ⟨g, o, none⟩) n c ∧ n ≤ c ∧ (∀ j u, xs[j]? = some u → w.cell? ⟨g, o + j, none⟩ = some u) ∧ (∀ i, w.frozen? ⟨g, i, none⟩ = false) ∧
    (∀ j u, j < xs.length → Ow (w.setCell ⟨g, o + j, none⟩ u) e s v n (xs.set j u)) := by
  obtain ⟨b, o, c, hv, hc, hcell⟩ := (Rd.of_ow h).at_ hn
  refine ⟨b, o, c, hv, hc, hcell, ?_⟩
  rcases h.2 with ⟨rfl, rfl⟩ | ⟨g, o', cap, cur, hv', hg, hnc, hcm, hcs, ht⟩
  · omega
  · subst hv
    cases hv'
    refine ⟨fun i => hg.frozen i, fun j u hj => ⟨by rw [List.length_set]; exact h.1, .inr ⟨b, o, c, _, rfl, hg.set_ (o + j) u, hnc, hcm, by simpa using hcs, ?_⟩⟩⟩
    rw [← ht]
    apply List.ext_getElem?
    intro i
    have hj' : j < n * s := by rw [← h.1]; exact hj
    have hle : n * s ≤ c * s := Nat.mul_le_mul_right _ hnc
    simp only [Array.toList_setIfInBounds, List.getElem?_take, List.getElem?_drop, List.getElem?_set, List.length_take, List.length_drop, Array.length_toList]
    by_cases hi : i < n * s
    · by_cases hij : j = i
      · subst hij
        simp only [hi, if_true]
        rw [if_pos (by omega), if_pos (by omega)]
      · simp only [hi, if_true]
        rw [if_neg (by omega), if_neg hij]
    · simp only [hi, if_false]
      rw [if_neg (by omega)]
/-- A part: 'v[lo:hi:m]'. -/
theorem Ow.cut {A : Option Addr} {c : Nat} (h : Ow w e s (.slice A n c) n xs) {lo hi m : Nat} (hlo : lo ≤ hi) (hhi : hi ≤ n) (hm : hi ≤ m) (hmc : m ≤ c) :
    Ow w e s (.slice (if m = lo then A else A.map (·.add (lo * s))) (hi - lo) (m - lo)) (hi - lo) ((xs.drop (lo * s)).take ((hi - lo) * s)) := by
  obtain ⟨h1, h2⟩ := h
  have hle : lo * s + (hi - lo) * s ≤ n * s := by rw [← Nat.add_mul]; exact Nat.mul_le_mul_right _ (by omega)
  refine ⟨by rw [List.length_take, List.length_drop, h1]; omega, ?_⟩
  rcases h2 with ⟨hv, hn⟩ | ⟨g, o, cap, cur, hv, hg, hnc, hcm, hcs, ht⟩
  · cases hv
    have : m = lo := by omega
    rw [if_pos this]
    exact .inl ⟨by rw [show hi - lo = 0 from by omega, show m - lo = 0 from by omega], by omega⟩
  · cases hv
    have key : ∀ x : Nat, x = 0 ∨ x = lo → (m = lo → hi - lo = 0) → o + x * s + (m - lo) * s ≤ cur.size → (hi - lo ≠ 0 → x = lo) → (cur.toList.drop (o + x * s)).take ((hi - lo) * s) = (xs.drop (lo * s)).take ((hi - lo) * s) := by
      intro x _ _ _ hx
      by_cases h0 : hi - lo = 0
      · simp [h0]
      · rw [hx h0, ← ht, List.drop_take, List.drop_drop, List.take_take]
        congr 1
        omega
    have hmul : (m - lo) * s + lo * s ≤ c * s := by rw [← Nat.add_mul]; exact Nat.mul_le_mul_right _ (by omega)
    by_cases hml : m = lo
    · rw [if_pos hml]
      refine .inr ⟨g, o, m - lo, cur, rfl, hg, by omega, by omega, ?_, ?_⟩
      · rw [hml]; simp; omega
      · have := key 0 (.inl rfl) (by omega) (by rw [hml]; simp; omega) (by omega)
        simpa using this
    · rw [if_neg hml]
      refine .inr ⟨g, o + lo * s, m - lo, cur, by simp [add_none], hg, by omega, by omega, by omega, ?_⟩
      exact key lo (.inr rfl) (by omega) (by omega) (by simp)
end

section
variable {P : Program} {w : World} {ops : Array Oper} {rest : List Oper} {o : Oper} {a : Act} {Q : Exit → Act → World → Prop}

theorem Blk.setCells {g : Nat} {t : TypeId} : ∀ (vs : List Value) (o : Nat) (cs : Array Value) (w : World), Blk w g t cs → ∃ cs', Blk (w.setCells g o vs) g t cs' ∧ cs'.size = cs.size ∧
    ∀ i, cs'[i]? = if o ≤ i ∧ i < o + vs.length ∧ i < cs.size then vs[i - o]? else cs[i]?
  | [], o, cs, w, h => ⟨cs, h, rfl, fun i => by rw [if_neg (by simp; omega)]⟩
  | v :: vs, o, cs, w, h => by
    obtain ⟨cs', h1, h2, h3⟩ := Blk.setCells vs (o + 1) _ _ (h.set_ o v)
    refine ⟨cs', h1, by simpa using h2, fun i => ?_⟩
    rw [h3 i]
    simp only [Array.size_setIfInBounds, List.length_cons]
    by_cases hi : i = o
    · subst hi
      rw [if_neg (by omega)]
      by_cases hs : i < cs.size
      · rw [if_pos (by omega)]; simp [hs]
      · rw [if_neg (by omega)]; simp [hs]
    · by_cases hc : o + 1 ≤ i ∧ i < o + 1 + vs.length ∧ i < cs.size
      · rw [if_pos hc, if_pos (by omega)]
        rw [show i - o = (i - (o + 1)) + 1 from by omega, List.getElem?_cons_succ]
      · rw [if_neg hc, if_neg (by omega)]
        rw [Array.getElem?_setIfInBounds_ne (by omega)]

theorem Kept.setCells {g : Nat} : ∀ (vs : List Value) (o : Nat) (w : World), Kept [g] w (w.setCells g o vs)
  | [], _, w => Kept.refl _ w
  | v :: vs, o, w => (((Kept.refl [g] w).setCell (p := ⟨g, o, none⟩) (.inl (by simp)) v)).trans' (Kept.setCells vs (o + 1) _ |>.more (by simp))

/-- append(s, x...), the row wherever in its block. -/
theorem run_app' {t e : TypeId} {size bytes : Nat} {z : Value} (T : SliceT P t e size bytes z) (ty : TypeId) {v : Value} {n : Nat} {xs : List Value} (hown : Ow w e size v n xs)
    {x : Value} {m : Nat} {news : List Value} (hr : Rd w size x m news) (h1 : ∀ u ∈ news, u.oneCell' = true) (hbytes : (n + m) * bytes ≤ 140737488355328) (h63 : n + m ≤ 9223372036854775807) :
    ∃ v' w', (Builtin.append_ #[t, t] ty #[v, x]).run P w = .ok v' w' ∧ Ow w' e size v' (n + m) (xs ++ news) ∧ Kept v.ownBlock.toList w w' ∧ (v'.ownBlock = v.ownBlock ∨ v'.ownBlock = some w.heap.size) := by
  obtain ⟨i, hi, hz, hsz, hby⟩ := T.get
  obtain ⟨A, c, rfl, hl, _, hx⟩ := hr
  have hsrc : Src P size t (.slice A m c) m news w := by
    by_cases hm : m = 0
    · subst hm
      have hn : news = [] := List.eq_nil_of_length_eq_zero (by simpa using hl)
      subst hn
      cases A with
      | none => exact Src.ofNil w T.under c
      | some ad => exact Src.ofSlice w T.under ad 0 c [] (by simp) (by simp) (by simp)
    · obtain ⟨b, o, rfl, hcell⟩ := hx (by omega)
      exact Src.ofSlice w T.under ⟨b, o, none⟩ m c news hl (fun j u hu => by rw [add_none]; exact hcell j u hu) h1
  have hlen : (xs ++ news).length = (n + m) * size := by rw [List.length_append, hown.1, hl, Nat.add_mul]
  have hgrow : ∀ (base : Option Addr) (cap : Nat), v = .slice base n cap → cap < n + m → (Builtin.firstCells i.size n (.slice base n cap)).run P w.drew = .ok xs.toArray w.drew →
      ∃ v' w', (Builtin.append_ #[t, t] ty #[v, .slice A m c]).run P w = .ok v' w' ∧ Ow w' e size v' (n + m) (xs ++ news) ∧ Kept v.ownBlock.toList w w' ∧ (v'.ownBlock = v.ownBlock ∨ v'.ownBlock = some w.heap.size) := by
    intro base cap hv hcap hold
    subst hv
    have hrun := run_append_grow_src (P := P) w t t ty e i z T.under hi hz base n cap xs hold (.slice A m c) m news (by rw [hsz]; exact hsrc) hcap (by omega) (by rw [hby]; exact growslice_fits hcap hbytes)
    have hge := grownCap_ge w (n + m) cap e
    have hcm : grownCap w (n + m) cap e ≤ maxLen := grownCap_le_maxLen w (n + m) cap e (by simp only [maxLen]; exact h63)
    refine ⟨_, _, hrun, ⟨hlen, .inr ⟨w.heap.size, 0, _, _, rfl, heap_alloc_new w.drew _, hge, by simpa [maxLen] using hcm, ?_, ?_⟩⟩, ?_, .inr rfl⟩
    · simp only [Array.size_append, List.size_toArray, size_zeroCells, T.zs, hlen, ← Nat.add_mul]
      have : (n + m + (grownCap w (n + m) cap e - (n + m))) = grownCap w (n + m) cap e := by omega
      rw [this]; omega
    · simp only [Array.toList_append, List.drop_zero]
      rw [← hlen]
      exact List.take_left
    · exact (Kept.refl [] w).drew.alloc _ |> Kept.of0
  rcases hown.2 with ⟨hv, h0⟩ | ⟨g, o', cap, cur, hv, hg, hnc, hcm, hcs, ht⟩
  · subst h0
    have hx0 : xs = [] := List.eq_nil_of_length_eq_zero (by simpa using hown.1)
    by_cases hm : m = 0
    · subst hm
      have hn : news = [] := List.eq_nil_of_length_eq_zero (by simpa using hl)
      subst hn
      subst hv
      refine ⟨.slice none 0 0, w, ?_, by simpa using hown, Kept.refl _ _, .inl rfl⟩
      cases A <;> simp [Builtin.append_, run_underlying T.under, sizeOf, typeInfo, hi, Builtin.lenOf, Builtin.firstCells, loadCells, loadCellsFrom]
    · exact hgrow none 0 hv (by omega) (by rw [hx0]; exact run_firstCells_none w.drew _ _ _ _)
  · by_cases hroom : n + m ≤ cap
    · subst hv
      have hfit : (n + m) * size ≤ cap * size := Nat.mul_le_mul_right _ hroom
      rw [Nat.add_mul] at hfit
      have hrun := run_append_room_src (P := P) w t t ty e i T.under hi g o' n cap (.slice A m c) m news (by rw [hsz]; exact hsrc) hroom
        (fun j hj => by rw [hg.cell, hsz]; simp; omega) (fun j _ => hg.frozen _)
      obtain ⟨cs', b1, b2, b3⟩ := Blk.setCells news (o' + n * i.size) cur w hg
      refine ⟨_, _, hrun, ⟨hlen, .inr ⟨g, o', cap, cs', rfl, b1, hroom, hcm, by omega, ?_⟩⟩, (Kept.setCells _ _ _).more (by simp [Value.ownBlock]), .inl rfl⟩
      rw [hsz] at b3
      apply List.ext_getElem?
      intro j
      have hxl := hown.1
      rw [List.getElem?_take, List.getElem?_append, List.getElem?_drop]
      have b4 : cs'.toList[o' + j]? = cs'[o' + j]? := by simp
      rw [b4, b3, Nat.add_mul]
      by_cases hj : j < n * size
      · rw [if_pos (by omega), if_neg (by omega), if_pos (by omega), ← ht, List.getElem?_take, if_pos hj, List.getElem?_drop]
        simp
      · by_cases hj2 : j < n * size + m * size
        · rw [if_pos hj2, if_pos (by omega), if_neg (by omega)]
          congr 1
          omega
        · rw [if_neg hj2, if_neg (by omega), List.getElem?_eq_none (by omega)]
    · refine hgrow _ cap hv (by omega) ?_
      subst hv
      have := run_firstCells_some (P := P) w.drew i.size n ⟨g, o', none⟩ n cap xs (by rw [hsz]; exact hown.1) (fun j u hu => by
        rw [add_none]
        obtain ⟨b2, o2, c2, hv2, _, hcell⟩ := (Rd.of_ow hown).at_ (by
          rcases Nat.eq_zero_or_pos n with h | h
          · subst h
            have := hown.1
            simp at this
            subst this
            simp at hu
          · exact h)
        cases hv2
        exact hcell j u hu)
      exact this

/-- append(s, x...). -/
theorem wpl_app {t e : TypeId} {size bytes : Nat} {z : Value} (T : SliceT P t e size bytes z) (hgd : o.guard = none) (s x : Operand)
    (ho : o.op = .call { callee := .builtin .append, args := #[s, x], argTypes := #[t, t] }) {v : Value} (hs : a.eval s = v) {n : Nat} {xs : List Value} (hown : Ow w e size v n xs)
    {xv : Value} (hx : a.eval x = xv) {m : Nat} {news : List Value} (hr : Rd w size xv m news) (h1 : ∀ u ∈ news, u.oneCell' = true) (hbytes : (n + m) * bytes ≤ 140737488355328) (h63 : n + m ≤ 9223372036854775807)
    (h : ∀ v' w', Ow w' e size v' (n + m) (xs ++ news) → Kept v.ownBlock.toList w w' → (v'.ownBlock = v.ownBlock ∨ v'.ownBlock = some w.heap.size) → wpList P ops Q rest (a.put o.dst v') w') : wpList P ops Q (o :: rest) a w := by
  refine wpList_plain hgd fun K hK => ?_
  obtain ⟨v', w', hrun, h2, h3, h4⟩ := run_app' T o.type hown hr h1 hbytes h63
  unfold Oper.wp execOp
  simp only [ho, resolve, invoke, builtin, Sem.run_bind, Sem.run_pure, Result.andThen_ok, List.map_toArray, List.map_cons, List.map_nil, hs, hx, hrun]
  exact hK _ _ (h v' w' h2 h3 h4)

end
end Go.Mem
