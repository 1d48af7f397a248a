/-
  Slots: votes compared.
-/
import Derived.Test.YthffkgnbgncfaaaSt1
import Derived.Great.BuildSlice
namespace Go.Proofs.Ythffkgnbgncfaaa
open Go.RowKit Go.Mem Go.Txt

section
variable {P : Program} {w : World} {a : Act} {ops : Array Oper} {rest : List Oper} {o : Oper} {Q : Exit → Act → World → Prop}
/-- A slice literal of two: a new block. -/
theorem wpl_bslice2 (hgd : Region.wanted o (yielded ops a.tmps) = true) {t e : TypeId} {size bytes : Nat} {z : Value} (T : SliceT P t e size bytes z) {x0 x1 : Operand} (ho : o.op = .buildSlice t 2 #[(0, x0), (1, x1)]) {v0 v1 : Value} (h0 : a.eval x0 = v0) (h1 : a.eval x1 = v1)
    (hsmall : 2 * size ≤ 2 ^ 24) (hpos : 0 < 2 * size) {cells : Array Value}
    (hf : Instr.fill (fun i => some (i * size, size)) ((Array.range (2 * size)).map (z.cells[· % z.cells.size]!)) [(0, v0), (1, v1)] = some cells)
    (h : ∀ g w', Made w w' g e cells → wpList P ops Q rest (a.put o.dst (.slice (some ⟨g, 0, none⟩) 2 2)) w') : wpList P ops Q (o :: rest) a w := by
  obtain ⟨i, hi, hz, hs, hb⟩ := info_parts T.2
  have e2 : (#[(0, x0), (1, x1)].map fun (p : Nat × Operand) => (p.1, a.eval p.2)).toList = [(0, v0), (1, v1)] := by simp [h0, h1]
  refine wpl_wanted hgd fun _ hK => wp_buildSlice t e 2 _ ho cells i z T.1 hi hz (by rw [hs]; omega) (by rw [hs]; omega) (by rw [hs]; exact (congrArg (Instr.fill _ _) e2).trans hf) (hK _ _ (h _ _ ⟨Blk.new _ _ _, (Kept.refl [] w).alloc _, Nat.le_refl _⟩))
end
theorem exec_cell {P : Program} {u : World} {a : Act} {o : Oper} {t : TypeId} (x : Operand) (ho : o.op = .load t x) (hs : ∀ w, (isAgg t).run P w = .ok false w) {p : Addr} (hx : a.eval x = .pointer (some p)) {v : Value} (hc : u.cell? p = some v) :
    (execOp a.eval o).run P u = .ok (.value v) u := by
  have h2 : (isAgg t).run P u = .ok false u := hs u
  simp [execOp, ho, hx, Instr.loadAt, Instr.sureAddr, loadVar, h2, hc]
theorem flatI (w : World) : (isAgg 3).run Try.prog w = .ok false w := by kernel_rfl
theorem intsT : SliceT Try.prog 74 3 1 8 (.int .i64 0) := ⟨Try.underlying74, by kernel_rfl, rfl, by omega⟩
/-- A vote. -/
structure Vt where
  fr : Int
  vw : Int
  h : List UInt8
  s : List UInt8
def Vt.c (v : Vt) : List Value := .int .i64 v.fr :: .int .i64 v.vw :: (bv v.h ++ bv v.s)
abbrev Vt.v (v : Vt) : Value := .agg v.c.toArray
/-- Views first, then replicas. -/
def vcmp (a b : Vt) : Int := or2 (cmpi a.vw b.vw) (cmpi a.fr b.fr)
theorem Vt.f0 {v : Vt} {w : World} {g : Nat} {bt : TypeId} (h : Blk w g bt v.c.toArray) : w.cell? ⟨g, 0, none⟩ = some (.int .i64 v.fr) := by rw [h.cell]; rfl
theorem Vt.f1 {v : Vt} {w : World} {g : Nat} {bt : TypeId} (h : Blk w g bt v.c.toArray) : w.cell? ⟨g, 1, none⟩ = some (.int .i64 v.vw) := by rw [h.cell]; rfl
theorem two_fill (a b : Int) : Instr.fill (fun i => some (i * 1, 1)) ((Array.range (2 * 1)).map ((Value.int .i64 0).cells[· % (Value.int .i64 0).cells.size]!)) [(0, .int .i64 a), (1, .int .i64 b)] = some (iv [a, b]).toArray := by kernel_rfl
/-- What lies in memory. -/
structure VcM (w0 : World) (g2 g3 : Nat) (a b : Vt) (u : World) : Prop where
  a : Blk u g2 63 a.c.toArray
  b : Blk u g3 63 b.c.toArray
  k : Kept [] w0 u
theorem VcM.kept {w0 : World} {g2 g3 : Nat} {a b : Vt} {u u' : World} (h : VcM w0 g2 g3 a b u) (hk : Kept [] u u') : VcM w0 g2 g3 a b u' := ⟨h.a.kept hk (by simp), h.b.kept hk (by simp), h.k.then0 hk⟩
abbrev VcC (a b : Vt) : Prop := ∀ W, Calls Try.prog 26 #[a.v, b.v] W fun e w' => e = .returned (.int .i64 (vcmp a b)) ∧ Kept [] W w'
set_option maxRecDepth 100000 in
set_option maxHeartbeats 1600000 in
theorem vcmp_any (a b : Vt) : VcC a b := by
  intro w
  have c1 := Lib.hid (compare_any a.vw b.vw)
  have c2 := Lib.hid (compare_any a.fr b.fr)
  have ft := Lib.hid (two_fill (cmpi a.vw b.vw) (cmpi a.fr b.fr))
  have e0 : vcmp a b = or2 (cmpi a.vw b.vw) (cmpi a.fr b.fr) := rfl
  rw [e0]
  clear e0
  generalize cmpi a.vw b.vw = x at *
  generalize cmpi a.fr b.fr = y at *
  have co := Lib.hid (fun g bt W h => or_any g bt x y W h)
  go_enter Try.func26, Try.ntmps26
  go_wp2_with (first
    | ((with_reducible refine wpl_box (o := ⟨some 2, _, _, _, _, _⟩) (v := a.v) rfl (.tmp 0) rfl rfl ?_); intro g2 w2 m2)
    | ((with_reducible refine wpl_box (o := ⟨some 3, _, _, _, _, _⟩) (v := b.v) rfl (.tmp 1) rfl rfl ?_); intro g3 w3 m3))
  have t := Lib.hid (show VcM w g2 g3 a b w3 from ⟨m2.blk.kept m3.kept (by simp), m3.blk, m2.kept.then0 m3.kept⟩)
  clear m2 m3
  refine Txt.wp_textG [1, 3, 6, 8] (VcM w g2 g3 a b) [[_, _, _, _, _], [_, _, _, _, _], [_], [_], [_]] (by kernel_rfl) (by kernel_rfl) rfl (t.out.kept (Kept.refl [] _).drew) (Txt.segs_cons ?_)
  replace t := Lib.hid (t.out.kept (Kept.refl [] _).drew)
  have q1 := Vt.f1 t.out.a
  have q2 := Vt.f1 t.out.b
  go_wp2_with (go_at_call 28; (with_reducible refine (c1.out _).mono ?_); rintro e v ⟨rfl, kk⟩; have t := Lib.hid (t.out.kept kk); clear kk q1 q2; have q3 := Vt.f0 t.out.a; have q4 := Vt.f0 t.out.b)
  refine ⟨rfl, t.out, Txt.segs_cons ?_⟩
  go_wp2_with (go_at_call 28; (with_reducible refine (c2.out _).mono ?_); rintro e v ⟨rfl, kk⟩; have t := Lib.hid (t.out.kept kk); clear kk)
  refine ⟨rfl, t.out, Txt.segs_cons ?_⟩
  go_wp2_with ((refine wpl_bslice2 (o := ⟨some 15, _, _, _, _, _⟩) rfl intsT rfl rfl rfl (by decide) (by decide) ft.out ?_); intro g5 w5 m5)
  have t := Lib.hid (t.out.kept m5.kept)
  refine ⟨rfl, t.out, Txt.segs_cons ?_⟩
  go_wp2_with (go_at_call 27; (with_reducible refine (co.out g5 _ _ m5.blk).mono ?_); rintro e v ⟨rfl, kk⟩; have t := Lib.hid (t.out.kept kk); clear kk)
  refine ⟨rfl, t.out, Txt.segs_cons ?_⟩
  go_wp2_with fail
  refine ⟨rfl, t.out, Txt.segs_nil ⟨⟨by kernel_rfl, ?_⟩, ?_⟩⟩
  · intro j hj o ho hw
    have hj2 : j = 1 ∨ j = 3 ∨ j = 6 ∨ j = 8 := by simpa using hj
    rcases hj2 with rfl | rfl | rfl | rfl <;> cases ho
    · exact ⟨6, rfl, fun u hu => exec_cell (.tmp 5) rfl flatI rfl (Vt.f1 hu.a)⟩
    · exact ⟨8, rfl, fun u hu => exec_cell (.tmp 7) rfl flatI rfl (Vt.f1 hu.b)⟩
    · exact ⟨11, rfl, fun u hu => exec_cell (.tmp 10) rfl flatI rfl (Vt.f0 hu.a)⟩
    · exact ⟨13, rfl, fun u hu => exec_cell (.tmp 12) rfl flatI rfl (Vt.f0 hu.b)⟩
  go_wp2_with fail
  go_ret
  exact ⟨rfl, t.out.k⟩
end Go.Proofs.Ythffkgnbgncfaaa
