/-
  Words for memory: rows whose elements have many cells: an element's place, copy, clear, append in place, append of make where there is no room.
-/
import Derived.Test.YthffkgnbgncfaaaText
import Derived.Test.YthffkgnbgncfaaaText5
import Derived.Great.BuildSlice
namespace Go.Mem
open Go.RowKit

theorem over_get2 {α : Type} (cur xs : List α) (off : Nat) (h : off + xs.length ≤ cur.length) (j : Nat) : (over cur off xs)[j]? = if off ≤ j ∧ j < off + xs.length then xs[j - off]? else cur[j]? := by
  unfold over
  by_cases h1 : j < off
  · rw [if_neg (by omega), List.getElem?_append_left (by rw [List.length_take]; omega), List.getElem?_take, if_pos h1]
  · rw [List.getElem?_append_right (by rw [List.length_take]; omega), List.length_take, Nat.min_eq_left (by omega)]
    by_cases h2 : j < off + xs.length
    · rw [if_pos (by omega), List.getElem?_append_left (by omega)]
    · rw [if_neg (by omega), List.getElem?_append_right (by omega), List.getElem?_drop]
      congr 1; omega
/-- One put in, the rest moved up. -/
theorem ins_first {α : Type} (cur xs x tl : List α) (o a s m : Nat) (hx : x.length = s) (ht : tl.length = m) (hs : o + a + s + m ≤ cur.length) (h0 : (cur.drop o).take a = xs) (hxs : xs.length = a) :
    ((over (over cur (o + a + s) tl) (o + a) x).drop o).take (a + s + m) = xs ++ (x ++ tl) := by
  apply List.ext_getElem?
  intro j
  have hl : (over cur (o + a + s) tl).length = cur.length := over_len _ _ _ (by omega)
  rw [List.getElem?_take, List.getElem?_drop, over_get2 _ _ _ (by omega), over_get2 _ _ _ (by omega)]
  by_cases h1 : j < a
  · rw [if_pos (by omega), if_neg (by omega), if_neg (by omega), List.getElem?_append_left (by omega), ← h0, List.getElem?_take, if_pos h1, List.getElem?_drop]
  · rw [List.getElem?_append_right (by omega), hxs]
    by_cases h2 : j < a + s
    · rw [if_pos (by omega), if_pos (by omega), List.getElem?_append_left (by omega)]
      congr 1; omega
    · rw [List.getElem?_append_right (by omega)]
      by_cases h3 : j < a + s + m
      · rw [if_pos (by omega), if_neg (by omega), if_pos (by omega)]
        congr 1; omega
      · rw [if_neg (by omega), List.getElem?_eq_none (by omega)]
theorem ins_last {α : Type} (cur xs x tl : List α) (o a s m : Nat) (hx : x.length = s) (ht : tl.length = m) (hs : o + a + s + m ≤ cur.length) (h0 : (cur.drop o).take a = xs) (hxs : xs.length = a) :
    ((over (over cur (o + a) x) (o + a + s) tl).drop o).take (a + s + m) = xs ++ (x ++ tl) := by
  apply List.ext_getElem?
  intro j
  have hl : (over cur (o + a) x).length = cur.length := over_len _ _ _ (by omega)
  rw [List.getElem?_take, List.getElem?_drop, over_get2 _ _ _ (by omega), over_get2 _ _ _ (by omega)]
  by_cases h1 : j < a
  · rw [if_pos (by omega), if_neg (by omega), if_neg (by omega), List.getElem?_append_left (by omega), ← h0, List.getElem?_take, if_pos h1, List.getElem?_drop]
  · rw [List.getElem?_append_right (by omega), hxs]
    by_cases h2 : j < a + s
    · rw [if_pos (by omega), if_neg (by omega), if_pos (by omega), List.getElem?_append_left (by omega)]
      congr 1; omega
    · rw [List.getElem?_append_right (by omega)]
      by_cases h3 : j < a + s + m
      · rw [if_pos (by omega), if_pos (by omega)]
        congr 1; omega
      · rw [if_neg (by omega), List.getElem?_eq_none (by omega)]

section
variable {P : Program} {w : World} {ops : Array Oper} {rest : List Oper} {o : Oper} {a : Act} {Q : Exit → Act → World → Prop} {C : Act → World → Prop} {R : Exit → Act → World → Prop} {t t2 e bt : TypeId} {s bytes : Nat} {z : Value} {g off n c i k m : Nat}

/-- An element's place. -/
theorem run_idxs (T : SliceT P t e s bytes z) (hi : i < n) (q : IntKind) (w : World) : (Instr.indexAt t (.slice (some ⟨g, off, none⟩) n c) (.int q (i : Int))).run P w = .ok (.pointer (some ⟨g, off + i * s, none⟩)) w := by
  obtain ⟨inf, hinf, _, hs, _⟩ := T.get
  have h1 : (0 : Int) ≤ i ∧ (i : Int) < n := by omega
  have h2 : ¬ n ≤ i := by omega
  simp [Instr.indexAt, run_underlying T.under, asIntOf, h1, h2, Go.sizeOf, typeInfo, hinf, hs, add_none]
theorem wpl_idxs (T : SliceT P t e s bytes z) (hgd : Region.wanted o (yielded ops a.tmps) = true) (x y : Operand) {q : IntKind} (ho : o.op = .indexAddr t x y) (hx : a.eval x = .slice (some ⟨g, off, none⟩) n c) (hy : a.eval y = .int q (i : Int)) (hi : i < n) (h : wpList P ops Q rest (a.put o.dst (.pointer (some ⟨g, off + i * s, none⟩))) w) : wpList P ops Q (o :: rest) a w :=
  wpl_wanted hgd fun _ hK => by
    unfold Oper.wp execOp
    simp only [ho, hx, hy, Sem.run_bind, run_idxs T hi, Sem.run_pure, Result.andThen_ok]
    exact hK _ _ h
/-- An element's cells. -/
theorem Rd.elem {l : List Value} {w : World} (h : Rd w s (.slice (some ⟨g, off, none⟩) n c) n l) {pre q post : List Value} (hl : l = pre ++ (q ++ post)) (hp : pre.length = i * s) (hn : 0 < n) : w.rangeAt g (off + i * s) q := by
  obtain ⟨b, o', c', hv, _, hc⟩ := h.at_ hn
  cases hv
  intro j v hv
  have hj : j < q.length := (List.getElem?_eq_some_iff.1 hv).1
  rw [Nat.add_assoc]
  refine hc (i * s + j) v ?_
  rw [hl, List.getElem?_append_right (by omega), hp, Nat.add_sub_cancel_left, List.getElem?_append_left hj]
  exact hv

/-- Parts of a slice whose place is known. -/
theorem run_fromS (T : SliceT P t e s bytes z) (kd : IntKind) (hk : k ≤ n) (_ : n ≤ c) (hc : k < c) (w : World) : (Instr.sliceAt t (.slice (some ⟨g, off, none⟩) n c) (some (.int kd (k : Int))) none none).run P w = .ok (.slice (some ⟨g, off + k * s, none⟩) (n - k) (c - k)) w := by
  rw [run_cutAt T (some ⟨g, off, none⟩) n c _ none none k n c w (by unfold Instr.sliceBounds; simp [run_bound kd k n _ hk w]), if_neg (by omega)]
  simp [add_none]
theorem run_uptoS (T : SliceT P t e s bytes z) (kd : IntKind) (hk : k ≤ c) (w : World) : (Instr.sliceAt t (.slice (some ⟨g, off, none⟩) n c) none (some (.int kd (k : Int))) none).run P w = .ok (.slice (some ⟨g, off, none⟩) k c) w := by
  rw [run_cutAt T (some ⟨g, off, none⟩) n c none _ none 0 k c w (by unfold Instr.sliceBounds; simp [run_bound kd k c _ hk w])]
  split
  · simp
  · simp [add_none]
theorem run_partS (T : SliceT P t e s bytes z) (kd kd' : IntKind) (hk : k ≤ m) (hm : m ≤ c) (hc : k < c) (w : World) : (Instr.sliceAt t (.slice (some ⟨g, off, none⟩) n c) (some (.int kd (k : Int))) (some (.int kd' (m : Int))) none).run P w = .ok (.slice (some ⟨g, off + k * s, none⟩) (m - k) (c - k)) w := by
  rw [run_cutAt T (some ⟨g, off, none⟩) n c _ _ none k m c w (by unfold Instr.sliceBounds; simp [run_bound kd' m c _ hm w, run_bound kd k m _ hk w]), if_neg (by omega)]
  simp [add_none]
/-- A row of one's own, its place known. -/
theorem Ow.open_ {v : Value} {xs : List Value} (h : Ow w e s v n xs) (hn : 0 < n) : ∃ g o cap cur, v = .slice (some ⟨g, o, none⟩) n cap ∧ Blk w g e cur ∧ n ≤ cap ∧ cap ≤ 9223372036854775807 ∧ o + cap * s ≤ cur.size ∧ (cur.toList.drop o).take (n * s) = xs := by
  rcases h.2 with ⟨_, h0⟩ | h
  · omega
  · exact h
theorem Ow.close {cur : Array Value} {xs : List Value} (hb : Blk w g e cur) (hn : n ≤ c) (hc : c ≤ 9223372036854775807) (hs : off + c * s ≤ cur.size) (hx : (cur.toList.drop off).take (n * s) = xs) : Ow w e s (.slice (some ⟨g, off, none⟩) n c) n xs := by
  refine ⟨?_, .inr ⟨g, off, c, cur, rfl, hb, hn, hc, hs, hx⟩⟩
  have := Nat.mul_le_mul_right s hn
  rw [← hx, List.length_take, List.length_drop, Array.length_toList]
  omega
theorem Blk.rng {cur : Array Value} (h : Blk w g bt cur) {xs : List Value} (hx : (cur.toList.drop off).take xs.length = xs) : w.rangeAt g off xs := by
  intro j v hv
  have hj : j < xs.length := (List.getElem?_eq_some_iff.1 hv).1
  rw [← hx, List.getElem?_take, if_pos hj, List.getElem?_drop] at hv
  rw [h.cell]
  simpa using hv

/-- copy(d, x): where both lie is known. -/
theorem run_cpyS (T : SliceT P t e s bytes z) (ty : TypeId) {cur : Array Value} (hb : Blk w g bt cur) {xs : List Value} (hm : xs.length = min m n * s) (hfit : off + xs.length ≤ cur.size) {b o' c' : Nat}
    (hsrc : w.rangeAt b o' xs) (h1 : ∀ u ∈ xs, u.oneCell' = true) :
    ∃ w', (Builtin.copy_ #[t, t2] ty #[.slice (some ⟨g, off, none⟩) n c, .slice (some ⟨b, o', none⟩) m c']).run P w = .ok (goInt (min m n : Nat)) w' ∧ Blk w' g bt (over cur.toList off xs).toArray ∧ Kept [g] w w' := by
  obtain ⟨inf, hinf, _, hs, _⟩ := T.get
  have hl := run_firstCells_some (P := P) w s (min m n) ⟨b, o', none⟩ m c' xs hm (fun j u hu => by rw [add_none]; exact hsrc j u hu)
  have hst := run_storeCells_at P g off bt xs 0 cur w hb (by simpa using hfit) h1
  refine ⟨w.setRow g (cur.toList.take off ++ xs ++ cur.toList.drop (off + xs.length)).toArray, ?_, ?_, (Kept.refl [g] w).setRow (g := g) (.inl (by simp)) _⟩
  · have hmin : Nat.min m n = min m n := rfl
    simp [Builtin.copy_, run_underlying T.under, Builtin.lenOf, sizeOf, typeInfo, hinf, hs, hmin, hl, hst]
  · have := hb.setRow_ (cur.toList.take off ++ xs ++ cur.toList.drop (off + xs.length)).toArray
    unfold over
    rw [← List.append_assoc]
    exact this
theorem wpl_cpyS (T : SliceT P t e s bytes z) (hgd : Region.wanted o (yielded ops a.tmps) = true) (d x : Operand)
    (ho : o.op = .call { callee := .builtin .copy, args := #[d, x], argTypes := #[t, t2] }) (hd : a.eval d = .slice (some ⟨g, off, none⟩) n c) {b o' c' : Nat} (hx : a.eval x = .slice (some ⟨b, o', none⟩) m c') {cur : Array Value} (hb : Blk w g bt cur) {xs : List Value} (hm : xs.length = min m n * s) (hfit : off + xs.length ≤ cur.size)
    (hsrc : w.rangeAt b o' xs) (h1 : ∀ u ∈ xs, u.oneCell' = true)
    (h : ∀ w', Blk w' g bt (over cur.toList off xs).toArray → Kept [g] w w' → wpList P ops Q rest (a.put o.dst (goInt (min m n : Nat))) w') : wpList P ops Q (o :: rest) a w := by
  refine wpl_wanted hgd fun K hK => ?_
  obtain ⟨w', hrun, h2, h3⟩ := run_cpyS (t2 := t2) T o.type hb (n := n) (m := m) hm hfit (c := c) (c' := c') hsrc h1
  unfold Oper.wp execOp
  simp only [ho, resolve, invoke, builtin, Sem.run_bind, Sem.run_pure, Result.andThen_ok, List.map_toArray, List.map_cons, List.map_nil, hd, hx, hrun]
  exact hK _ _ (h w' h2 h3)

/-- clear(x). -/
theorem wpl_clearS (T : SliceT P t e s bytes z) (h1 : z.cells.all (·.oneCell') = true) (hgd : Region.wanted o (yielded ops a.tmps) = true) (x : Operand)
    (ho : o.op = .call { callee := .builtin .clear, args := #[x], argTypes := #[t] }) (hx : a.eval x = .slice (some ⟨g, off, none⟩) n c) {cur : Array Value} (hb : Blk w g bt cur) (hfit : off + n * s ≤ cur.size)
    (h : ∀ w' ns, ns.length = n * s → Blk w' g bt (over cur.toList off ns).toArray → Kept [g] w w' → wpList P ops Q rest (a.put o.dst (.tuple #[])) w') : wpList P ops Q (o :: rest) a w := by
  obtain ⟨inf, hinf, hz, hs, _⟩ := T.get
  refine wpl_wanted hgd fun K hK => ?_
  have hlen : (Builtin.zeroCells z.cells n).toList.length = n * s := by rw [Array.length_toList, size_zeroCells, T.zs]
  have hone : ∀ u ∈ (Builtin.zeroCells z.cells n).toList, u.oneCell' = true := by
    intro u hu
    simp only [Builtin.zeroCells, Array.toList_map, List.mem_map, Array.mem_toList_iff, Array.mem_range] at hu
    obtain ⟨j, hj, rfl⟩ := hu
    have hp : 0 < z.cells.size := by rw [T.zs]; exact T.pos
    have hlt : j % z.cells.size < z.cells.size := Nat.mod_lt _ hp
    rw [getElem!_pos z.cells (j % z.cells.size) hlt]
    exact Array.all_eq_true_iff_forall_mem.1 h1 _ (Array.getElem_mem hlt)
  have hst := run_storeCells_at P g off bt (Builtin.zeroCells z.cells n).toList 0 cur w hb (by simpa [hlen] using hfit) hone
  have hrun : ∃ w', (Builtin.clear_ #[t] o.type #[.slice (some ⟨g, off, none⟩) n c]).run P w = .ok (.tuple #[]) w' ∧ Blk w' g bt (over cur.toList off (Builtin.zeroCells z.cells n).toList).toArray ∧ Kept [g] w w' := by
    cases n with
    | zero =>
      have e0 : (Builtin.zeroCells z.cells 0).toList = [] := List.eq_nil_of_length_eq_zero (by rw [hlen]; simp)
      refine ⟨w, by simp [Builtin.clear_, run_underlying T.under], ?_, Kept.refl _ _⟩
      rw [e0]
      simpa [over] using hb
    | succ n =>
      refine ⟨w.setRow g (cur.toList.take off ++ (Builtin.zeroCells z.cells (n + 1)).toList ++ cur.toList.drop (off + (Builtin.zeroCells z.cells (n + 1)).toList.length)).toArray, ?_, ?_, (Kept.refl [g] w).setRow (g := g) (.inl (by simp)) _⟩
      · simp only [Nat.add_zero] at hst
        simp [Builtin.clear_, run_underlying T.under, zeroValue, typeInfo, hinf, hz, hst, -List.append_assoc, -Array.length_toList]
      have := hb.setRow_ (cur.toList.take off ++ (Builtin.zeroCells z.cells (n + 1)).toList ++ cur.toList.drop (off + (Builtin.zeroCells z.cells (n + 1)).toList.length)).toArray
      unfold over
      rw [← List.append_assoc]
      simpa using this
  obtain ⟨w', hr, h2, h3⟩ := hrun
  unfold Oper.wp execOp
  simp only [ho, resolve, invoke, builtin, Sem.run_bind, Sem.run_pure, Result.andThen_ok, List.map_toArray, List.map_cons, List.map_nil, hx, hr]
  exact hK _ _ (h w' _ hlen h2 h3)

/-- append(x, y...): there is room. -/
theorem wpl_app_room (T : SliceT P t e s bytes z) (hgd : Region.wanted o (yielded ops a.tmps) = true) (x y : Operand)
    (ho : o.op = .call { callee := .builtin .append, args := #[x, y], argTypes := #[t, t] }) (hx : a.eval x = .slice (some ⟨g, off, none⟩) n c) {b o' c' : Nat} (hy : a.eval y = .slice (some ⟨b, o', none⟩) m c') {cur : Array Value} (hb : Blk w g bt cur) {xs : List Value} (hm : xs.length = m * s) (hroom : n + m ≤ c) (hfit : off + c * s ≤ cur.size)
    (hsrc : w.rangeAt b o' xs) (h1 : ∀ u ∈ xs, u.oneCell' = true)
    (h : ∀ w', Blk w' g bt (over cur.toList (off + n * s) xs).toArray → Kept [g] w w' → wpList P ops Q rest (a.put o.dst (.slice (some ⟨g, off, none⟩) (n + m) c)) w') : wpList P ops Q (o :: rest) a w := by
  obtain ⟨inf, hinf, _, hs, _⟩ := T.get
  have hf : off + n * s + xs.length ≤ cur.size := by
    have := Nat.mul_le_mul_right s hroom
    rw [Nat.add_mul] at this
    omega
  refine wpl_wanted hgd fun K hK => ?_
  have hrun := run_append_room_src (P := P) w t t o.type e inf T.under hinf g off n c (.slice (some ⟨b, o', none⟩) m c') m xs (Src.ofSlice w T.under ⟨b, o', none⟩ m c' xs (by rw [hs]; exact hm) (fun j u hu => by rw [add_none]; exact hsrc j u hu) h1) hroom
    (fun j hj => by rw [hb.cell, hs]; simp; omega) (fun j _ => hb.frozen _)
  rw [hs] at hrun
  obtain ⟨cs', b1, b2, b3⟩ := Blk.setCells xs (off + n * s) cur w hb
  have e : cs' = (over cur.toList (off + n * s) xs).toArray := by
    apply Array.ext_getElem?
    intro j
    have hl2 : off + n * s + xs.length ≤ cur.toList.length := by rw [Array.length_toList]; exact hf
    rw [b3, List.getElem?_toArray (xs := over cur.toList (off + n * s) xs), over_get2 _ _ _ hl2, Array.getElem?_toList]
    by_cases hj : off + n * s ≤ j ∧ j < off + n * s + xs.length
    · rw [if_pos (by omega), if_pos hj]
    · rw [if_neg (by omega), if_neg hj]; simp
  subst e
  unfold Oper.wp execOp
  simp only [ho, resolve, invoke, builtin, Sem.run_bind, Sem.run_pure, Result.andThen_ok, List.map_toArray, List.map_cons, List.map_nil, hx, hy, hrun]
  exact hK _ _ (h _ b1 (Kept.setCells _ _ _))

/-- append(x, make([]T, k)...): there is no room. -/
theorem wpl_made_grow {ti : TypeId} {kd : IntKind} (T : SliceT P t e s bytes z) (hti : P.underlying ti = some (.int kd)) (hgd : Region.wanted o (yielded ops a.tmps) = true) (x y : Operand)
    (ho : o.op = .call { callee := .builtin .append, args := #[x, y], argTypes := #[t, ti] }) (hx : a.eval x = .slice (some ⟨g, off, none⟩) n c) (hy : a.eval y = .int .i64 (k : Int)) {xs : List Value} (hxs : xs.length = n * s) (hsrc : w.rangeAt g off xs) (hroom : c < n + k) (hc : n ≤ c) (hbytes : (n + k) * bytes ≤ 140737488355328) (h63 : n + k ≤ 9223372036854775807)
    (h : ∀ w' g' c' cur, Blk w' g' e cur → Kept [] w w' → w.heap.size ≤ g' → n + k ≤ c' → c' ≤ 9223372036854775807 → cur.size = c' * s → cur.toList.take (n * s) = xs → wpList P ops Q rest (a.put o.dst (.slice (some ⟨g', 0, none⟩) (n + k) c')) w') : wpList P ops Q (o :: rest) a w := by
  obtain ⟨i, hi, hz, hsz, hby⟩ := T.get
  refine wpl_wanted hgd fun K hK => ?_
  have hw : IntKind.i64.wrap (k : Int) = k := by rw [IntKind.wrap_i64]; omega
  have hk0 : ¬ ((k : Int) < 0) := by omega
  have hkz : k ≠ 0 := by omega
  have hkz2 : ¬ (k * i.size = 0) := by rw [hsz]; have := T.pos; intro h0; rcases Nat.mul_eq_zero.1 h0 with h0 | h0 <;> omega
  have hkb : ¬ (281474976710656 < (k : Int) * (i.bytes : Int)) := by
    have h1 : k * bytes ≤ (n + k) * bytes := Nat.mul_le_mul_right _ (by omega)
    have : (k : Int) * (bytes : Int) = ((k * bytes : Nat) : Int) := by simp
    rw [hby, this]
    omega
  have hold : (Builtin.firstCells i.size n (.slice (some ⟨g, off, none⟩) n c)).run P w.drew = .ok xs.toArray w.drew :=
    run_firstCells_some (P := P) w.drew i.size n ⟨g, off, none⟩ n c xs (by rw [hsz]; exact hxs) (fun j u hu => by rw [add_none]; exact hsrc j u hu)
  have hn : ¬ (n + k ≤ c) := by omega
  have h63' : ¬ (9223372036854775807 < ((n : Int) + (k : Int))) := by omega
  have hfit : Builtin.nextslicecap (n + k) c * i.bytes ≤ 281474976710656 := by rw [hby]; exact growslice_fits hroom hbytes
  have h48' : ¬ (281474976710656 < Builtin.nextslicecap (n + k) c * i.bytes) := by omega
  have hge := grownCap_ge w (n + k) c e
  have hcm : grownCap w (n + k) c e ≤ maxLen := grownCap_le_maxLen w (n + k) c e (by simp only [maxLen]; exact h63)
  have hrun : (Builtin.append_ #[t, ti] o.type #[.slice (some ⟨g, off, none⟩) n c, .int .i64 k]).run P w =
      .ok (.slice (some ⟨w.heap.size, 0, none⟩) (n + k) (grownCap w (n + k) c e)) (w.drew.alloc (.cells ((xs.toArray ++ Builtin.zeroCells z.cells k) ++ Builtin.zeroCells z.cells (grownCap w (n + k) c e - (n + k))) e)) := by
    simp [Builtin.append_, run_underlying T.under, run_underlying hti, sizeOf, typeInfo, zeroValue, hi, hz, hn, h63', h48', Question.forced, hold, newRow, grownCap, asInt, asIntOf, hw, hk0, hkb, hkz2]
  unfold Oper.wp execOp
  simp only [ho, resolve, invoke, builtin, Sem.run_bind, Sem.run_pure, Result.andThen_ok, List.map_toArray, List.map_cons, List.map_nil, hx, hy, hrun]
  refine hK _ _ (h _ w.heap.size _ _ (heap_alloc_new w.drew _) ((Kept.refl [] w).drew.alloc _) (Nat.le_refl _) hge (by simpa [maxLen] using hcm) ?_ ?_)
  · simp only [Array.size_append, size_zeroCells, T.zs, List.size_toArray, hxs, ← Nat.add_mul]
    congr 1
    omega
  · rw [Array.toList_append, Array.toList_append, List.append_assoc, ← hxs]
    exact List.take_left
/-- A struct of parts. -/
theorem wpl_buildl (hgd : Region.wanted o (yielded ops a.tmps) = true) {ps : Array (Nat × Operand)} (ho : o.op = .build t ps) {vs : List (Nat × Value)} (hv : (ps.map fun (p : Nat × Operand) => (p.1, a.eval p.2)).toList = vs) {cs : Array Value} (hb : P.built t vs = some cs) (h : wpList P ops Q rest (a.put o.dst (.agg cs)) w) : wpList P ops Q (o :: rest) a w := by
  subst hv
  refine wpl_wanted hgd fun _ hK => wp_build t ps ho (by rw [hb]; rfl) (hK _ _ ?_)
  rw [hb]
  exact h
theorem wpl_build2 (hgd : Region.wanted o (yielded ops a.tmps) = true) (i j : Nat) (x y : Operand) (ho : o.op = .build t #[(i, x), (j, y)]) {v u : Value} (hx : a.eval x = v) (hy : a.eval y = u) {cs : Array Value} (hb : P.built t [(i, v), (j, u)] = some cs) (h : wpList P ops Q rest (a.put o.dst (.agg cs)) w) : wpList P ops Q (o :: rest) a w :=
  wpl_buildl hgd ho (by simp [hx, hy]) hb h
theorem wpl_build4 (hgd : Region.wanted o (yielded ops a.tmps) = true) (i j k l : Nat) (x y x2 y2 : Operand) (ho : o.op = .build t #[(i, x), (j, y), (k, x2), (l, y2)]) {v u v2 u2 : Value} (hx : a.eval x = v) (hy : a.eval y = u) (hx2 : a.eval x2 = v2) (hy2 : a.eval y2 = u2) {cs : Array Value} (hb : P.built t [(i, v), (j, u), (k, v2), (l, u2)] = some cs) (h : wpList P ops Q rest (a.put o.dst (.agg cs)) w) : wpList P ops Q (o :: rest) a w :=
  wpl_buildl hgd ho (by simp [hx, hy, hx2, hy2]) hb h
theorem fold_set : ∀ (l : List Value) (k : Nat) (cs : Array Value) (j : Nat), ((l.zipIdx k).foldl (fun cs (p : Value × Nat) => cs.setIfInBounds p.2 p.1) cs)[j]? = if k ≤ j ∧ j < k + l.length ∧ j < cs.size then l[j - k]? else cs[j]?
  | [], k, cs, j => by rw [if_neg (by simp; omega)]; rfl
  | v :: l, k, cs, j => by
    rw [List.zipIdx_cons, List.foldl_cons, fold_set l (k + 1), Array.size_setIfInBounds, List.length_cons]
    by_cases h1 : k = j
    · subst h1
      rw [if_neg (by omega)]
      by_cases h2 : k < cs.size
      · rw [if_pos (by omega)]; simp [h2]
      · rw [if_neg (by omega), Array.getElem?_eq_none (by simp; omega), Array.getElem?_eq_none (by omega)]
    · by_cases h2 : k + 1 ≤ j ∧ j < k + 1 + l.length ∧ j < cs.size
      · rw [if_pos h2, if_pos (by omega), show j - k = (j - (k + 1)) + 1 from by omega, List.getElem?_cons_succ]
      · rw [if_neg h2, if_neg (by omega), Array.getElem?_setIfInBounds_ne h1]
/-- A slice literal of one: a new block. -/
theorem wpl_bslice1 (hgd : Region.wanted o (yielded ops a.tmps) = true) (T : SliceT P t e s bytes z) {x0 : Operand} (ho : o.op = .buildSlice t 1 #[(0, x0)]) {v0 : Value} (h0 : a.eval x0 = v0)
    (hsmall : s ≤ 2 ^ 24) {cells : Array Value} (hc : v0.cells = cells) (hcs : cells.size = s)
    (h : ∀ g w', Made w w' g e cells → wpList P ops Q rest (a.put o.dst (.slice (some ⟨g, 0, none⟩) 1 1)) w') : wpList P ops Q (o :: rest) a w := by
  obtain ⟨i, hi, hz, hs, hb⟩ := info_parts T.2
  have e2 : (#[(0, x0)].map fun (p : Nat × Operand) => (p.1, a.eval p.2)).toList = [(0, v0)] := by simp [h0]
  have hf : Instr.fill (fun i => some (i * s, s)) ((Array.range (1 * s)).map (z.cells[· % z.cells.size]!)) [(0, v0)] = some cells := by
    have hzs : ((Array.range (1 * s)).map (z.cells[· % z.cells.size]!)).size = s := by simp
    subst hc
    unfold Instr.fill
    simp only [hcs, Nat.zero_mul, ne_eq, hzs, Nat.zero_add, gt_iff_lt, Nat.lt_irrefl, decide_false, Bool.or_false, decide_not, decide_true, Bool.not_true, Bool.false_eq_true, if_false, Instr.fill]
    congr 1
    rw [← Array.foldl_toList, Array.toList_zipIdx]
    apply Array.ext_getElem?
    intro j
    refine (fold_set v0.cells.toList 0 _ j).trans ?_
    rw [hzs]
    by_cases hj : j < s
    · rw [if_pos (by rw [Array.length_toList, hcs]; omega)]; simp
    · rw [if_neg (by omega), Array.getElem?_eq_none (by rw [hzs]; omega), Array.getElem?_eq_none (by omega)]
  refine wpl_wanted hgd fun _ hK => wp_buildSlice t e 1 _ ho cells i z T.1 hi hz (by rw [hs]; omega) (by rw [hs]; have := T.pos; omega) (by rw [hs]; exact (congrArg (Instr.fill _ _) e2).trans hf) (hK _ _ (h _ _ ⟨Blk.new _ _ _, (Kept.refl [] w).alloc _, Nat.le_refl _⟩))
/-- Two arrays of bytes compared. -/
theorem wpl_eql_ab {el : TypeId} (T : ArrT P t el n) (he : P.underlying el = some (.int .u8)) (hsz : (P.info? el).map (·.size) = some 1) (hge : P.eqGuardType P.depth t = false) (hgd : Region.wanted o (yielded ops a.tmps) = true) (x y : Operand) {t' : TypeId} (ho : o.op = .binOp .eql t x y t') {xs ys : List UInt8} (hx : a.eval x = ab xs) (hy : a.eval y = ab ys) (hxl : xs.length = n) (hyl : ys.length = n) {b : Bool} (hb : (xs == ys) = b)
    (h : wpList P ops Q rest (a.put o.dst (.bool b)) w) : wpList P ops Q (o :: rest) a w := by
  refine wpl_wanted hgd fun K hK => ?_
  have := exec_eql_ab (P := P) (u := w) T he hsz hge x y ho hx hy hxl hyl
  rw [hb] at this
  unfold Oper.wp
  rw [this]
  exact hK _ _ h
end
end Go.Mem
