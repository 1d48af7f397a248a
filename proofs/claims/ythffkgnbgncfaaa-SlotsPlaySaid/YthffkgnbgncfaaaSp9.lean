/-
  Slots: what the rounds of SlotsPlay know.
-/
import Derived.Test.YthffkgnbgncfaaaSp8
namespace Go.Proofs.Ythffkgnbgncfaaa
open Go.RowKit Go.Mem Go.Txt

section
variable {P : Program} {u : World} {a : Act} {o : Oper} {C : Act → World → Prop} {R : Exit → Act → World → Prop}
theorem wp_exec {v : Value} (he : (execOp a.eval o).run P u = .ok (.value v) u) (h : C (a.put o.dst v) u) : o.wp P a u C R := by
  unfold Oper.wp
  rw [he]
  exact h
theorem wp_built1 {t : TypeId} (i : Nat) (x : Operand) (ho : o.op = .build t #[(i, x)]) {v : Value} (hx : a.eval x = v) {cs : Array Value} (hb : P.built t [(i, v)] = some cs) (h : C (a.put o.dst (.agg cs)) u) : o.wp P a u C R := by
  have e : (#[(i, x)].map fun (p : Nat × Operand) => (p.1, a.eval p.2)).toList = [(i, v)] := by simp [hx]
  refine wp_build t #[(i, x)] ho (by rw [e, hb]; rfl) ?_
  rw [e, hb]
  exact h
end
theorem wpl_sat {P : Program} {ops : Array Oper} {Q : Exit → Act → World → Prop} {rest : List Oper} {a : Act} {w : World} (x y : Operand) {ts t : TypeId} {p : String} {af : Array Edge} {g : Option (Nat × Bool)} (h : wpList P ops Q (⟨none, .store ts x y, t, p, af, g⟩ :: rest) a w) : wpList P ops Q (⟨none, .store ts x y, t, p, af, g⟩ :: rest) a w := h
theorem exec_eql_int {u : World} {a : Act} {o : Oper} (x y : Operand) {t' : TypeId} (ho : o.op = .binOp .eql 3 x y t') {i j : Int} (hx : a.eval x = .int .i64 i) (hy : a.eval y = .int .i64 j) (hn : ¬ i = j) : (execOp a.eval o).run Try.prog u = .ok (.value (.bool false)) u := by
  have h2 : (i == j) = false := by simpa using hn
  simp [execOp, ho, hx, hy, binOp, Op.intCmp, eqGuard, h2]
theorem opf (g : Nat) : (∀ W, (Instr.fieldAt 47 (.pointer (some ⟨g, 0, none⟩)) 2).run Try.prog W = .ok (.pointer (some ⟨g, 2, none⟩)) W) ∧ ∀ W, (Instr.fieldAt 47 (.pointer (some ⟨g, 0, none⟩)) 3).run Try.prog W = .ok (.pointer (some ⟨g, 3, none⟩)) W := ⟨fun W => by kernel_rfl, fun W => by kernel_rfl⟩
theorem flatB (w : World) : (isAgg 5).run Try.prog w = .ok false w := by kernel_rfl
theorem sg_info : (Try.prog.info? 31).map (·.zero) = some (some (ab (noughts 64))) := by kernel_rfl
section
variable {w0 u u' : World} {g r f g9 g10 g11 g15 : Nat} {ts rl : List Vt} {v vr : Value} {o : Ev} {hs hs' : List UInt8}
theorem PlI.kept (h : PlI w0 u g r f ts rl v vr) (hk : Kept [] u u') : PlI w0 u' g r f ts rl v vr := ⟨h.t.kept hk, h.r.kept hk, h.k.then0 hk, h.lg, h.lr, h.vg, h.vr⟩
theorem PlI.put (h : PlI w0 u g r f ts rl v vr) {k : Nat} {bt : TypeId} {cs : Array Value} (hb : Blk u k bt cs) (hl : w0.heap.size ≤ k) (n1 : 58 ≠ bt) (n2 : 63 ≠ bt) (n3 : 45 ≠ bt) (n4 : 51 ≠ bt) (hk : Kept [k] u u') : PlI w0 u' g r f ts rl v vr := by
  have e1 := h.t.b.ne_ hb n1
  have e2 := h.r.b.ne_ hb n3
  have e3 := h.t.o.blk_ne hb n2
  have e4 := h.r.o.blk_ne hb n4
  exact ⟨⟨h.t.b.kept hk (by simpa using e1), h.t.o.kept hk (fun j hj => by rintro hm; rw [List.mem_singleton.1 hm] at hj; exact e3 hj), h.t.ok, h.t.srt, h.t.n⟩, ⟨h.r.b.kept hk (by simpa using e2), h.r.o.kept hk (fun j hj => by rintro hm; rw [List.mem_singleton.1 hm] at hj; exact e4 hj), h.r.ok, h.r.n⟩, h.k.then1 hk hl, h.lg, h.lr, h.vg, h.vr⟩
/-- While shares are compared. -/
structure CmM (w0 : World) (g r f : Nat) (ts rl : List Vt) (g9 g10 g11 : Nat) (o : Ev) (vx vy : Value) (S : List Vt) (u : World) : Prop where
  p : PlM w0 u g r f ts rl
  ro : Ro3 g9 g10 g11 o u
  x : Rd u 65 vx S.length (shs S)
  y : Rd u 65 vy S.length (shs S)
theorem CmM.kept {vx vy : Value} {S : List Vt} (h : CmM w0 g r f ts rl g9 g10 g11 o vx vy S u) (hk : Kept [] u u') : CmM w0 g r f ts rl g9 g10 g11 o vx vy S u' := ⟨h.p.kept hk, h.ro.kept hk, h.x.kept0 hk, h.y.kept0 hk⟩
/-- While what was said is sought. -/
structure SdM (w0 : World) (g r f : Nat) (ts rl : List Vt) (v vr : Value) (g9 g10 g11 : Nat) (o : Ev) (g15 : Nat) (hs : List UInt8) (u : World) : Prop where
  p : PlI w0 u g r f ts rl v vr
  ro : Ro3 g9 g10 g11 o u
  b : Blk u g15 30 (bv hs).toArray
  l : w0.heap.size ≤ g15
  ne : g10 ≠ g15
theorem SdM.pm (h : SdM w0 g r f ts rl v vr g9 g10 g11 o g15 hs u) : PlM w0 u g r f ts rl := ⟨_, _, h.p⟩
theorem SdM.kept (h : SdM w0 g r f ts rl v vr g9 g10 g11 o g15 hs u) (hk : Kept [] u u') : SdM w0 g r f ts rl v vr g9 g10 g11 o g15 hs u' := ⟨h.p.kept hk, h.ro.kept hk, h.b.kept hk (by simp), h.l, h.ne⟩
theorem SdM.put (h : SdM w0 g r f ts rl v vr g9 g10 g11 o g15 hs u) (hb : Blk u' g15 30 (bv hs').toArray) (hk : Kept [g15] u u') : SdM w0 g r f ts rl v vr g9 g10 g11 o g15 hs' u' :=
  ⟨h.p.put h.b h.l (by decide) (by decide) (by decide) (by decide) hk, ⟨h.ro.b9.kept hk (by have := h.ro.b9.ne_ h.b (by decide); simpa using this), h.ro.b10.kept hk (by simpa using h.ne), h.ro.b11.kept hk (by have := h.ro.b11.ne_ h.b (by decide); simpa using this)⟩, hb, h.l, h.ne⟩
end
theorem nil_said (w : World) : Calls Try.prog 17 #[.pointer none, .int .i64 0, .int .i64 0] w fun e w' => e = .returned (.tuple #[ab (noughts 32), .bool false]) ∧ Kept [] w w' := said_any (Ofs.nil w 0) 0
theorem nil_best (w : World) : Calls Try.prog 9 #[.pointer none, .int .i64 0] w fun e w' => e = .returned (.tuple #[ab (noughts 32), .int .i64 0]) ∧ Kept [] w w' := best_any (Ofs.nil w 0)
theorem nil_count (w : World) : Calls Try.prog 11 #[.pointer none, .int .i64 0, ab (noughts 32)] w fun e w' => e = .returned (.int .i64 0) ∧ Kept [] w w' := count_any (Ofs.nil w 0) (h := noughts 32) (by simp)
theorem nil_shs (w : World) : Calls Try.prog 10 #[.pointer none, .int .i64 0, ab (noughts 32)] w fun e w' => ∃ A c, e = .returned (.slice A 0 c) ∧ Kept [] w w' := by
  refine (shares_any (Ofs.nil w 0) (h := noughts 32) (by simp)).mono ?_
  rintro e w' ⟨v, rfl, o, kk, _⟩
  obtain ⟨A, c, rfl, _⟩ := o.shape
  exact ⟨A, c, rfl, kk⟩
theorem rt_built (f : Int) : Try.prog.built 45 [(0, .int .i64 f)] = some #[.int .i64 f, .slice none 0 0] := by kernel_rfl
theorem bst_len32 {ts rl : List Vt} {f : Nat} (hs : Sim f ts rl) (hok : ∀ v ∈ rl, v.ok) (vw : Int) : (bst (ofv ts vw) (ofv ts vw).length).1.length = 32 := bst_len (fun v hv => hok v (hs.p.mem_iff.1 (List.mem_filter.1 hv).1)) _ (Nat.le_refl _)
theorem exec_build4 {a : Act} {o : Oper} {u : World} {t : TypeId} {cs : Array Value} (i j k l : Nat) (x y x2 y2 : Operand) (ho : o.op = .build t #[(i, x), (j, y), (k, x2), (l, y2)]) {v q v2 q2 : Value} (hx : a.eval x = v) (hy : a.eval y = q) (hx2 : a.eval x2 = v2) (hy2 : a.eval y2 = q2) (h : Try.prog.built t [(i, v), (j, q), (k, v2), (l, q2)] = some cs) : (execOp a.eval o).run Try.prog u = .ok (.value (.agg cs)) u := by
  unfold execOp
  simp only [ho, Sem.run_bind]
  rw [run_build u t (Array.map (fun x : Nat × Operand => (x.fst, a.eval x.snd)) #[(i, x), (j, y), (k, x2), (l, y2)]) cs (by simp [hx, hy, hx2, hy2, h])]
  simp
theorem radd_gen (fr vw : Int) (p q : Nat → UInt8) : Try.prog.built 51 [(0, .int .i64 fr), (1, .int .i64 vw), (2, ab ((List.range 32).map p)), (3, ab ((List.range 64).map q))] = some (Vt.c ⟨fr, vw, (List.range 32).map p, (List.range 64).map q⟩).toArray := by kernel_rfl
theorem radd_built' (x : Vt) (h : x.ok) : Try.prog.built 51 [(0, .int .i64 x.fr), (1, .int .i64 x.vw), (2, ab x.h), (3, ab x.s)] = some x.c.toArray := by
  obtain ⟨fr, vw, h1, s1⟩ := x
  obtain ⟨hh, hs⟩ := h
  simp only at hh hs ⊢
  rw [as_map hh, as_map hs]
  exact radd_gen _ _ _ _
theorem radd_built (o : Ev) : Try.prog.built 51 [(0, .int .i64 o.fr), (1, .int .i64 o.vw), (2, ab (hv o.h)), (3, ab (sv o.s))] = some o.x.c.toArray := radd_built' o.x o.ok
section
variable {w0 u u' : World} {g r f : Nat} {ts ts0 rl : List Vt}
theorem PlM.addE (h : PlM w0 u g r f ts rl) (hf : f ≤ 2) (o : Ev) (hn : ts.length < 1000000) : Calls Try.prog 8 #[.pointer (some ⟨g, 0, none⟩), .int .i64 o.fr, .int .i64 o.vw, ab (hv o.h), ab (sv o.s)] u fun e w' => e = .returned (.bool (okv f ts o.x)) ∧ PlM w0 w' g r f (addv f ts o.x) rl ∧ KpT u w' := h.add hf o.ok hn
theorem PlM.raddE (h : PlM w0 u g r f ts rl) (hf : f ≤ 2) (o : Ev) (hn : rl.length + 1 < 1000000) (hS : Sim f ts0 rl) : Calls Try.prog 14 #[.pointer (some ⟨r, 0, none⟩), .agg o.x.c.toArray] u fun e w' => e = .returned (.bool (okv f ts0 o.x)) ∧ PlM w0 w' g r f ts (if okv f ts0 o.x then rl ++ [o.x] else rl) ∧ KpT u w' := by
  rw [hS.okv]
  exact h.radd hf o.ok hn
end
end Go.Proofs.Ythffkgnbgncfaaa
