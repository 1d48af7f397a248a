/-
  Words for memory: arrays by value: loaded whole, stored whole, handed back; copy into a block; equality of arrays.
-/
import Derived.Test.YtbhjhfemicbhaaaMem3
import Derived.Laws.Rows
import Derived.Laws.Tables
import Derived.Laws.ResultCell
import Derived.Laws.CopyOwn
import Derived.Stop.BytesEq
import Derived.WalkKit
namespace Go.Mem
open Go.RowKit

/-- An array of n cells. -/
structure ArrT (P : Program) (t e : TypeId) (n : Nat) : Prop where
  under : P.underlying t = some (.array n e)
  size : (P.info? t).map (·.size) = some n

section
variable {P : Program} {w : World} {ops : Array Oper} {rest : List Oper} {o : Oper} {a : Act} {Q : Exit → Act → World → Prop} {t e : TypeId} {n : Nat}

theorem wpl_wanted (hw : Region.wanted o (yielded ops a.tmps) = true) (h : ∀ K : Act → World → Prop, (∀ a w, wpList P ops Q rest a w → K a w) → o.wp P a w K Q) : wpList P ops Q (o :: rest) a w :=
  wpList_step fun K hK => by rw [if_pos hw]; exact h K hK

/-- The whole array out of its block. -/
theorem wpl_load_arr (T : ArrT P t e n) (hgd : Region.wanted o (yielded ops a.tmps) = true) (x : Operand) (ho : o.op = .load t x) {g : Nat} (hx : a.eval x = .pointer (some ⟨g, 0, none⟩)) {bt : TypeId} {cs : Array Value}
    (hb : Blk w g bt cs) (hn : cs.size = n) (h : wpList P ops Q rest (a.put o.dst (.agg cs)) w) : wpList P ops Q (o :: rest) a w :=
  wpl_wanted hgd fun _ hK => wp_load_row t x ho g hx bt cs (0, 0) _ hb T.under rfl (by rw [T.size, hn]) (hK _ _ h)

/-- A whole array into its block. -/
theorem wpl_store_arr (T : ArrT P t e n) (hgd : Region.wanted o (yielded ops a.tmps) = true) (x y : Operand) (ho : o.op = .store t x y) {g : Nat} {cs old : Array Value} (hx : a.eval x = .pointer (some ⟨g, 0, none⟩)) (hy : a.eval y = .agg cs)
    {bt : TypeId} (hb : Blk w g bt old) (hold : old.size = n) (hn : cs.size = n) (h1 : cs.all (·.oneCell') = true)
    (h : ∀ w', Blk w' g bt cs → Kept [g] w w' → wpList P ops Q rest (a.put o.dst undef) w') : wpList P ops Q (o :: rest) a w :=
  wpl_wanted hgd fun _ hK => wp_store_row t x y ho g cs hx hy bt old hb (by rw [T.size, hn]) (by omega) h1 (hK _ _ (h _ (hb.setRow_ cs) ((Kept.refl [g] w).setRow (.inl (by simp)) cs)))

/-- An array is handed back. -/
theorem ret_arr {fn : Func} {R : Ending → World → Prop} (T : ArrT P t e n) {p : Tmp} (hres : fn.results = #[.cell p t]) {g : Nat} (hp : a.tmps.getD p undef = .pointer (some ⟨g, 0, none⟩)) {bt : TypeId} {cs : Array Value}
    (hb : Blk w g bt cs) (hn : cs.size = n) (hd : a.defers = []) (h : R (.returned (.agg cs)) w) : bodyPost P fn R .ret a w :=
  bodyPost_ret (results_cell_row hres a.tmps w g bt cs (0, 0) _ hp hb T.under rfl (by rw [T.size, hn])) hd h

/-- A block that was made. -/
structure Made (w w' : World) (g : Nat) (t : TypeId) (cs : Array Value) : Prop where
  blk : Blk w' g t cs
  kept : Kept [] w w'
  le : w.heap.size ≤ g
theorem Made.ne {w w' : World} {g k : Nat} {t : TypeId} {cs : Array Value} (h : Made w w' g t cs) (hk : k < w.heap.size) : k ≠ g := by have := h.le; omega

/-- A new variable of nought. -/
theorem wpl_new (hgd : o.guard = none) (ho : o.op = .alloc t) {z : Value} (hz : (P.info? t).map (·.zero) = some (some z))
    (h : ∀ g w', Made w w' g t z.cells → wpList P ops Q rest (a.put o.dst (.pointer (some ⟨g, 0, none⟩))) w') : wpList P ops Q (o :: rest) a w := by
  refine wpList_plain hgd fun K hK => ?_
  cases hi : P.info? t with
  | none => simp [hi] at hz
  | some i =>
    have hz' : i.zero = some z := by simpa [hi] using hz
    unfold Oper.wp execOp
    simp [ho, Instr.alloc, zeroValue, typeInfo, hi, hz', newVar, newRow]
    exact hK _ _ (h _ _ ⟨Blk.new _ _ _, (Kept.refl [] w).alloc _, Nat.le_refl _⟩)

/-- A variable of a value. -/
theorem wpl_box (hgd : o.guard = none) (x : Operand) (ho : o.op = .box t x) {v : Value} (hx : a.eval x = v)
    (h : ∀ g w', Made w w' g t v.cells → wpList P ops Q rest (a.put o.dst (.pointer (some ⟨g, 0, none⟩))) w') : wpList P ops Q (o :: rest) a w := by
  refine wpList_plain hgd fun K hK => ?_
  unfold Oper.wp execOp
  simp [ho, hx, Instr.box, newVar, newRow]
  exact hK _ _ (h _ _ ⟨Blk.new _ _ _, (Kept.refl [] w).alloc _, Nat.le_refl _⟩)

/-- What was written is new. -/
theorem Kept.then1 {S : List Nat} {w0 w w' : World} {g : Nat} (h0 : Kept S w0 w) (h : Kept [g] w w') (hg : w0.heap.size ≤ g) : Kept S w0 w' :=
  h0.trans h (fun _ _ h => h) (fun k hk hm => by simp at hm; omega)

/-- A struct of one part. -/
theorem wpl_build1 (hgd : Region.wanted o (yielded ops a.tmps) = true) (i : Nat) (x : Operand) (ho : o.op = .build t #[(i, x)]) {v : Value} (hx : a.eval x = v) {cs : Array Value} (hb : P.built t [(i, v)] = some cs) (h : wpList P ops Q rest (a.put o.dst (.agg cs)) w) : wpList P ops Q (o :: rest) a w := by
  have e : (#[(i, x)].map fun (p : Nat × Operand) => (p.1, a.eval p.2)).toList = [(i, v)] := by simp [hx]
  refine wpl_wanted hgd fun _ hK => wp_build t #[(i, x)] ho (by rw [e, hb]; rfl) (hK _ _ ?_)
  rw [e, hb]
  exact h

/-- A struct of noughts. -/
theorem wpl_build0 (hgd : Region.wanted o (yielded ops a.tmps) = true) (ho : o.op = .build t #[]) {cs : Array Value} (hb : P.built t [] = some cs) (h : wpList P ops Q rest (a.put o.dst (.agg cs)) w) : wpList P ops Q (o :: rest) a w := by
  have e : ((#[] : Array (Nat × Operand)).map fun (p : Nat × Operand) => (p.1, a.eval p.2)).toList = [] := by simp
  refine wpl_wanted hgd fun _ hK => wp_build t #[] ho (by rw [e, hb]; rfl) (hK _ _ ?_)
  rw [e, hb]
  exact h

/-- A struct or an array of n cells. -/
structure RowT (P : Program) (t : TypeId) (n : Nat) : Prop where
  under : ∃ d, P.underlying t = some d ∧ (match d with | .struct _ | .array _ _ => true | _ => false) = true
  size : (P.info? t).map (·.size) = some n
theorem ArrT.row (T : ArrT P t e n) : RowT P t n := ⟨⟨_, T.under, rfl⟩, T.size⟩

theorem wpl_load_row (T : RowT P t n) (hgd : Region.wanted o (yielded ops a.tmps) = true) (x : Operand) (ho : o.op = .load t x) {g : Nat} (hx : a.eval x = .pointer (some ⟨g, 0, none⟩)) {bt : TypeId} {cs : Array Value}
    (hb : Blk w g bt cs) (hn : cs.size = n) (h : wpList P ops Q rest (a.put o.dst (.agg cs)) w) : wpList P ops Q (o :: rest) a w := by
  obtain ⟨⟨d, hu, hd⟩, hs⟩ := T
  exact wpl_wanted hgd fun _ hK => wp_load_row t x ho g hx bt cs (0, 0) _ hb hu (by cases d <;> simp_all) (by rw [hs, hn]) (hK _ _ h)
theorem wpl_store_row (T : RowT P t n) (hgd : Region.wanted o (yielded ops a.tmps) = true) (x y : Operand) (ho : o.op = .store t x y) {g : Nat} {cs old : Array Value} (hx : a.eval x = .pointer (some ⟨g, 0, none⟩)) (hy : a.eval y = .agg cs)
    {bt : TypeId} (hb : Blk w g bt old) (hold : old.size = n) (hn : cs.size = n) (h1 : cs.all (·.oneCell') = true)
    (h : ∀ w', Blk w' g bt cs → Kept [g] w w' → wpList P ops Q rest (a.put o.dst undef) w') : wpList P ops Q (o :: rest) a w :=
  wpl_wanted hgd fun _ hK => wp_store_row t x y ho g cs hx hy bt old hb (by rw [T.size, hn]) (by omega) h1 (hK _ _ (h _ (hb.setRow_ cs) ((Kept.refl [g] w).setRow (.inl (by simp)) cs)))
theorem ret_row {fn : Func} {R : Ending → World → Prop} (T : RowT P t n) {p : Tmp} (hres : fn.results = #[.cell p t]) {g : Nat} (hp : a.tmps.getD p undef = .pointer (some ⟨g, 0, none⟩)) {bt : TypeId} {cs : Array Value}
    (hb : Blk w g bt cs) (hn : cs.size = n) (hd : a.defers = []) (h : R (.returned (.agg cs)) w) : bodyPost P fn R .ret a w := by
  obtain ⟨⟨d, hu, hd2⟩, hs⟩ := T
  exact bodyPost_ret (results_cell_row hres a.tmps w g bt cs (0, 0) _ hp hb hu (by cases d <;> simp_all) (by rw [hs, hn])) hd h

/-- .. and a second result. -/
theorem ret_row2 {fn : Func} {R : Ending → World → Prop} (T : RowT P t n) {p u : Tmp} (hres : fn.results = #[.cell p t, .tmp u]) {g : Nat} (hp : a.tmps.getD p undef = .pointer (some ⟨g, 0, none⟩)) {bt : TypeId} {cs : Array Value}
    (hb : Blk w g bt cs) (hn : cs.size = n) (hd : a.defers = []) (h : R (.returned (.tuple #[.agg cs, a.tmps.getD u undef])) w) : bodyPost P fn R .ret a w := by
  obtain ⟨⟨d, hu, hd2⟩, hs⟩ := T
  refine bodyPost_ret ?_ hd h
  rw [results_cell_tmp hres, hp]
  simp only [asAddr, Sem.run_pure, Result.andThen_ok, run_loadVar_row (P := P) w g bt t cs (0, 0) d hb hu (by cases d <;> simp_all) (by rw [hs, hn])]

/-- What lies behind a copy. -/
def over {α : Type} (cur : List α) (off : Nat) (xs : List α) : List α := cur.take off ++ (xs ++ cur.drop (off + xs.length))
theorem over_len {α : Type} (cur : List α) (off : Nat) (xs : List α) (h : off + xs.length ≤ cur.length) : (over cur off xs).length = cur.length := by
  unfold over; simp; omega
theorem over_all {α : Type} (cur xs : List α) (h : xs.length = cur.length) : over cur 0 xs = xs := by
  unfold over; simp [h]
theorem over0 {α : Type} (cur xs : List α) : over cur 0 xs = xs ++ cur.drop xs.length := by
  unfold over; simp
theorem over_bv (cur xs : List UInt8) (off : Nat) : over (bv cur) off (bv xs) = bv (over cur off xs) := by
  unfold over; simp [bv]
theorem over_get {α : Type} (cur xs : List α) (_ : xs.length ≤ cur.length) (i : Nat) : (over cur 0 xs)[i]? = if i < xs.length then xs[i]? else cur[i]? := by
  rw [over0, List.getElem?_append, List.getElem?_drop]
  split
  · rfl
  · congr 1; omega
theorem over_step {α : Type} (cur xs : List α) (k : Nat) (h : k < xs.length) (hl : xs.length ≤ cur.length) : (over cur 0 (xs.take k)).set k xs[k] = over cur 0 (xs.take (k + 1)) := by
  apply List.ext_getElem?
  intro i
  rw [List.getElem?_set, over_get _ _ (by simp; omega), over_get _ _ (by simp; omega), over_len _ _ _ (by simp; omega)]
  simp only [List.length_take, List.getElem?_take]
  by_cases hi : k = i
  · subst hi
    rw [if_pos rfl, if_pos (by omega), if_pos (by omega), if_pos (by omega)]
    simp [h]
  · rw [if_neg hi]
    by_cases h2 : i < k
    · simp [h2, show i < xs.length from by omega, show i < k + 1 from by omega]
      rw [if_pos (by omega), if_pos (by omega)]
    · simp [h2, show ¬ i < k + 1 from by omega]
      rw [if_neg (by omega), if_neg (by omega)]
theorem over_stepM {α : Type} (f : α → Value) (cur xs : List α) (k : Nat) (h : k < xs.length) (hl : xs.length ≤ cur.length) : ((over cur 0 (xs.take k)).map f).toArray.setIfInBounds k (f xs[k]) = ((over cur 0 (xs.take (k + 1))).map f).toArray := by
  rw [← over_step cur xs k h hl]
  simp
theorem over_stepB (cur xs : List UInt8) (k : Nat) (h : k < xs.length) (hl : xs.length ≤ cur.length) : (bv (over cur 0 (xs.take k))).toArray.setIfInBounds k (byteV xs[k]) = (bv (over cur 0 (xs.take (k + 1)))).toArray := by
  rw [← over_step cur xs k h hl]
  simp [bv]

/-- copy(d, s). -/
theorem run_cpy {t t2 e : TypeId} {bytes : Nat} {z : Value} (T : SliceT P t e 1 bytes z) (ty : TypeId) {g off n c : Nat} {bt : TypeId} {cur : Array Value} (hb : Blk w g bt cur) (hfit : off + n ≤ cur.size)
    {x : Value} {m : Nat} {xs : List Value} (hr : Rd w 1 x m xs) (h1 : ∀ u ∈ xs, u.oneCell' = true) :
    ∃ w', (Builtin.copy_ #[t, t2] ty #[.slice (some ⟨g, off, none⟩) n c, x]).run P w = .ok (goInt (min m n : Nat)) w' ∧ Blk w' g bt (over cur.toList off (xs.take n)).toArray ∧ Kept [g] w w' := by
  obtain ⟨i, hi, hz, hsz, hby⟩ := T.get
  obtain ⟨A, sc, rfl, hl, _, hx⟩ := hr
  have hs : (P.info? e).map (·.size) = some 1 := by rw [hi]; simp [hsz]
  have hxl : xs.length = m := by omega
  by_cases h0 : min m n = 0
  · refine ⟨w, by rw [h0]; exact run_copy_none w t t2 ty e _ A n c m sc T.under hs (show min m n = 0 from h0), ?_, Kept.refl _ _⟩
    have : xs.take n = [] := List.eq_nil_of_length_eq_zero (by rw [List.length_take, hxl]; omega)
    rw [this]
    simpa [over] using hb
  · obtain ⟨b, o, rfl, hcell⟩ := hx (by omega)
    have hlen : (xs.take n).length = min m n := by rw [List.length_take, hxl]; omega
    have hrun := run_copy_row (P := P) w t t2 ty e g off n c ⟨b, o, none⟩ m sc cur bt (xs.take n) T.under hs hb (show _ = min m n from hlen) (fun j u hu => by
      rw [add_none]
      refine hcell j u ?_
      rw [List.getElem?_take] at hu
      split at hu
      · exact hu
      · cases hu) (by rw [hlen]; omega) (fun u hu => h1 u (List.mem_of_mem_take hu))
    rw [hlen] at hrun
    refine ⟨_, hrun, ?_, (Kept.refl [g] w).setRow (.inl (by simp)) _⟩
    have := hb.setRow_ (cur.toList.take off ++ xs.take n ++ cur.toList.drop (off + min m n)).toArray
    unfold over
    rw [hlen, ← List.append_assoc]
    exact this

theorem wpl_cpy {t t2 e : TypeId} {bytes : Nat} {z : Value} (T : SliceT P t e 1 bytes z) (hgd : Region.wanted o (yielded ops a.tmps) = true) (d s : Operand)
    (ho : o.op = .call { callee := .builtin .copy, args := #[d, s], argTypes := #[t, t2] }) {g off n c : Nat} (hd : a.eval d = .slice (some ⟨g, off, none⟩) n c) {bt : TypeId} {cur : Array Value} (hb : Blk w g bt cur) (hfit : off + n ≤ cur.size)
    {x : Value} (hs : a.eval s = x) {m : Nat} {xs : List Value} (hr : Rd w 1 x m xs) (h1 : ∀ u ∈ xs, u.oneCell' = true)
    (h : ∀ w', Blk w' g bt (over cur.toList off (xs.take n)).toArray → Kept [g] w w' → wpList P ops Q rest (a.put o.dst (goInt (min m n : Nat))) w') : wpList P ops Q (o :: rest) a w := by
  refine wpl_wanted hgd fun K hK => ?_
  obtain ⟨w', hrun, h2, h3⟩ := run_cpy (t2 := t2) T o.type hb hfit (c := c) hr h1
  unfold Oper.wp execOp
  simp only [ho, resolve, invoke, builtin, Sem.run_bind, Sem.run_pure, Result.andThen_ok, List.map_toArray, List.map_cons, List.map_nil, hd, hs, hrun]
  exact hK _ _ (h w' h2 h3)

/-- Numbers of 64 bits, and numbers with a sign. -/
abbrev uv (l : List Nat) : List Value := l.map fun (z : Nat) => Value.int .u64 (z : Int)
abbrev iv (l : List Int) : List Value := l.map fun (z : Int) => Value.int .i64 z
theorem one_uv (l : List Nat) : ∀ u ∈ uv l, u.oneCell' = true := by
  intro u hu
  obtain ⟨b, _, rfl⟩ := List.mem_map.1 hu
  rfl
theorem one_iv (l : List Int) : ∀ u ∈ iv l, u.oneCell' = true := by
  intro u hu
  obtain ⟨b, _, rfl⟩ := List.mem_map.1 hu
  rfl
theorem one_uva (l : List Nat) : (uv l).toArray.all (·.oneCell') = true := by
  rw [Array.all_eq_true_iff_forall_mem]
  intro v hv
  exact one_uv l v (by simpa using hv)
theorem Blk.mget {α : Type} {f : α → Value} {l : List α} {g : Nat} {bt : TypeId} (h : Blk w g bt (l.map f).toArray) (k : Nat) (hk : k < l.length) : w.cell? ⟨g, k, none⟩ = some (f l[k]) := by
  rw [h.cell]; simp [hk]
theorem Blk.uget {l : List Nat} {g : Nat} {bt : TypeId} (h : Blk w g bt (uv l).toArray) (k : Nat) (hk : k < l.length) : w.cell? ⟨g, k, none⟩ = some (.int .u64 (l[k] : Int)) := h.mget k hk
theorem Blk.bget {l : List UInt8} {g : Nat} {bt : TypeId} (h : Blk w g bt (bv l).toArray) (k : Nat) (hk : k < l.length) : w.cell? ⟨g, k, none⟩ = some (.int .u8 (l[k].toNat : Int)) := h.mget k hk
theorem Blk.iget {l : List Int} {g : Nat} {bt : TypeId} (h : Blk w g bt (iv l).toArray) (k : Nat) (hk : k < l.length) : w.cell? ⟨g, k, none⟩ = some (.int .i64 l[k]) := h.mget k hk

/-- An array's element by its number. -/
theorem run_index_arr (T : ArrT P t e n) {d : TypeDesc} (he : P.underlying e = some d) (hd : (match d with | .struct _ | .array _ _ => false | _ => true) = true) (hsz : (P.info? e).map (·.size) = some 1) {cs : Array Value} {v : Value} (kd : IntKind) (k : Nat) (hk : k < n) (hv : cs[k]? = some v) (w : World) :
    (Instr.index t (.agg cs) (.int kd k)).run P w = .ok v w := by
  have h1 : ∀ w, (sizeOf e).run P w = .ok 1 w := fun w => by
    cases hq : P.info? e with
    | none => simp [hq] at hsz
    | some i => simp [hq] at hsz; simp [sizeOf, typeInfo, hq, hsz]
  have h2 : (isAgg e).run P w = .ok false w := by
    unfold isAgg
    rw [Sem.run_bind, run_underlying he w]
    cases d <;> simp_all
  unfold Instr.index
  have h3 : (0 : Int) ≤ (k : Int) ∧ (k : Int) < (n : Int) := by omega
  simp [asIntOf, run_underlying T.under, h1, part, h2, hv]
  intro h; omega

/-- Bytes by value. -/
abbrev ab (l : List UInt8) : Value := .agg (bv l).toArray
abbrev noughts (n : Nat) : List UInt8 := List.replicate n 0

theorem one_ab (l : List UInt8) : (bv l).toArray.all (·.oneCell') = true := by
  rw [Array.all_eq_true_iff_forall_mem]
  intro v hv
  exact one_bv l v (by simpa using hv)

theorem run_eqIn_ab {t e : TypeId} {n : Nat} (T : ArrT P t e n) (he : P.underlying e = some (.int .u8)) (hsz : (P.info? e).map (·.size) = some 1) (xs ys : List UInt8) (hx : xs.length = n) (hy : ys.length = n) (w : World) :
    (Op.equalIn 10000 t (ab xs) (ab ys)).run P w = .ok (xs == ys) w := by
  refine run_equalIn_bytes w 9998 t e n T.under he (fun w => ?_) xs ys hx hy
  cases hq : P.info? e with
  | none => simp [hq] at hsz
  | some i => simp [hq] at hsz; simp [sizeOf, typeInfo, hq, hsz]
theorem run_eql_ab {t e : TypeId} {n : Nat} (T : ArrT P t e n) (he : P.underlying e = some (.int .u8)) (hsz : (P.info? e).map (·.size) = some 1) (xs ys : List UInt8) (hx : xs.length = n) (hy : ys.length = n) (w : World) :
    (binOp .eql t (ab xs) (ab ys)).run P w = .ok (.bool (xs == ys)) w := by
  refine run_eql_bytes w t e n T.under he (fun w => ?_) xs ys hx hy
  cases hq : P.info? e with
  | none => simp [hq] at hsz
  | some i => simp [hq] at hsz; simp [sizeOf, typeInfo, hq, hsz]

theorem all_range_beq {α : Type} [BEq α] [LawfulBEq α] (xs ys : List α) (h : xs.length = ys.length) : ((List.range' 0 xs.length 1).all fun i => xs[i]? == ys[i]?) = (xs == ys) := by
  rw [Bool.eq_iff_iff, List.all_eq_true, beq_iff_eq]
  constructor
  · intro hh
    apply List.ext_getElem?
    intro i
    by_cases hi : i < xs.length
    · exact eq_of_beq (hh i (by simp [List.mem_range'_1]; exact hi))
    · rw [List.getElem?_eq_none (by omega), List.getElem?_eq_none (by omega)]
  · rintro rfl i _
    simp

/-- Two arrays, element by element. -/
theorem run_eqIn_list {α : Type} [BEq α] [LawfulBEq α] (T : ArrT P t e n) (f : α → Value) {d : TypeDesc} (he : P.underlying e = some d) (hd : (match d with | .struct _ | .array _ _ => false | _ => true) = true) (hsz : (P.info? e).map (·.size) = some 1) (m : Nat)
    (hf : ∀ a b w, (Op.equalIn (m + 1) e (f a) (f b)).run P w = .ok (a == b) w) (xs ys : List α) (hx : xs.length = n) (hy : ys.length = n) (w : World) :
    (Op.equalIn (m + 2) t (.agg (xs.map f).toArray) (.agg (ys.map f).toArray)).run P w = .ok (xs == ys) w := by
  have h1 : ∀ w, (sizeOf e).run P w = .ok 1 w := fun w => by
    cases hq : P.info? e with
    | none => simp [hq] at hsz
    | some i => simp [hq] at hsz; simp [sizeOf, typeInfo, hq, hsz]
  have h2 : ∀ w, (isAgg e).run P w = .ok false w := fun w => by
    unfold isAgg
    rw [Sem.run_bind, run_underlying he w]
    cases d <;> simp_all
  rw [← all_range_beq xs ys (hx.trans hy.symm), hx, Op.equalIn]
  simp only [Sem.run_bind, run_underlying T.under, Result.andThen_ok, h1, Std.Legacy.Range.forIn_eq_forIn_range', Std.Legacy.Range.size, Nat.sub_zero, Nat.add_sub_cancel, Nat.div_one]
  have hl : ∀ i ∈ List.range' 0 n 1, i < n := fun i hi => by simpa using (List.mem_range'_1.1 hi).2
  generalize List.range' 0 n 1 = l at hl ⊢
  induction l with
  | nil => simp
  | cons i l ih =>
    have hi : i < n := hl i (by simp)
    have px : (part e (xs.map f).toArray (i * 1)).run P w = .ok (f (xs[i]'(by omega))) w := by
      simp [part, h2, List.getElem?_eq_getElem (show i < xs.length by omega)]
    have py : (part e (ys.map f).toArray (i * 1)).run P w = .ok (f (ys[i]'(by omega))) w := by
      simp [part, h2, List.getElem?_eq_getElem (show i < ys.length by omega)]
    have pe := hf (xs[i]'(by omega)) (ys[i]'(by omega)) w
    have pq : (xs[i]? == ys[i]?) = (xs[i]'(by omega) == ys[i]'(by omega)) := by
      rw [List.getElem?_eq_getElem (show i < xs.length by omega), List.getElem?_eq_getElem (show i < ys.length by omega)]
      rfl
    simp only [List.forIn_cons, Sem.run_bind, px, py, pe, Result.andThen_ok, List.all_cons, pq]
    cases hb : (xs[i]'(by omega) == ys[i]'(by omega))
    · simp
    · simp only [Bool.not_true, Bool.false_eq_true, if_false, Sem.run_pure, Result.andThen_ok, Bool.true_and]
      exact ih fun j hj => hl j (by simp [hj])

theorem run_eqIn_uv (T : ArrT P t e n) (he : P.underlying e = some (.int .u64)) (hsz : (P.info? e).map (·.size) = some 1) (xs ys : List Nat) (hx : xs.length = n) (hy : ys.length = n) (w : World) :
    (Op.equalIn 10000 t (.agg (uv xs).toArray) (.agg (uv ys).toArray)).run P w = .ok (xs == ys) w :=
  run_eqIn_list T (fun z : Nat => Value.int .u64 (z : Int)) he rfl hsz 9998 (fun a b w => by
    rw [run_equalIn_int w 9998 e .u64 .u64 _ _ he]
    congr 1
    rw [Bool.eq_iff_iff]
    simp
    omega) xs ys hx hy w

/-- A block's head as a slice. -/
theorem Blk.rd {g : Nat} {bt : TypeId} {cs : List Value} (h : Blk w g bt cs.toArray) {n c : Nat} (hn : cs.length = n) (hc : n ≤ c) : Rd w 1 (.slice (some ⟨g, 0, none⟩) n c) n cs :=
  ⟨_, _, rfl, by omega, hc, fun _ => ⟨g, 0, rfl, fun j u hu => by rw [h.cell, Nat.zero_add]; simpa using hu⟩⟩
end
end Go.Mem
