/-
  What floats over calls: loads of whole rows, equalities of arrays.
-/
import Derived.Test.YtbhjhfemicbhaaaArr
import Derived.Test.YtbhjhfemicbhaaaText4
namespace Go.Mem
open Go.RowKit

section
variable {P : Program} {u : World} {a : Act} {o : Oper} {t e : TypeId} {n : Nat}

theorem exec_load (T : RowT P t n) (x : Operand) (ho : o.op = .load t x) {g : Nat} (hx : a.eval x = .pointer (some ⟨g, 0, none⟩)) {bt : TypeId} {cs : Array Value} (hb : Blk u g bt cs) (hn : cs.size = n) :
    (execOp a.eval o).run P u = .ok (.value (.agg cs)) u := by
  obtain ⟨⟨d, hu, hd⟩, hs⟩ := T
  have := run_loadVar_row (P := P) u g bt t cs (0, 0) d hb hu (by cases d <;> simp_all) (by rw [hs, hn])
  simp [execOp, ho, hx, Instr.loadAt, Instr.sureAddr, this]

theorem wp_loadr {w : World} {C : Act → World → Prop} {R : Exit → Act → World → Prop} (T : RowT P t n) (x : Operand) (ho : o.op = .load t x) {g : Nat} (hx : a.eval x = .pointer (some ⟨g, 0, none⟩)) {bt : TypeId} {cs : Array Value} (hb : Blk w g bt cs) (hn : cs.size = n)
    (h : C (a.put o.dst (.agg cs)) w) : o.wp P a w C R := by
  obtain ⟨⟨d, hu, hd⟩, hs⟩ := T
  exact wp_load_row t x ho g hx bt cs (0, 0) _ hb hu (by cases d <;> simp_all) (by rw [hs, hn]) h

theorem exec_eql_ab (T : ArrT P t e n) (he : P.underlying e = some (.int .u8)) (hsz : (P.info? e).map (·.size) = some 1) (hgd : P.eqGuardType P.depth t = false) (x y : Operand) {t' : TypeId} (ho : o.op = .binOp .eql t x y t') {xs ys : List UInt8} (hx : a.eval x = ab xs) (hy : a.eval y = ab ys) (hxl : xs.length = n) (hyl : ys.length = n) :
    (execOp a.eval o).run P u = .ok (.value (.bool (xs == ys))) u := by
  have h1 := run_eqIn_ab T he hsz xs ys hxl hyl u
  have h2 := run_eqGuard_agg (P := P) u .eql t x y (bv xs).toArray (bv ys).toArray hgd
  simp [execOp, ho, hx, hy, binOp, Op.equal, Op.maxDepth, h1, h2]
theorem exec_neq_ab (T : ArrT P t e n) (he : P.underlying e = some (.int .u8)) (hsz : (P.info? e).map (·.size) = some 1) (hgd : P.eqGuardType P.depth t = false) (x y : Operand) {t' : TypeId} (ho : o.op = .binOp .neq t x y t') {xs ys : List UInt8} (hx : a.eval x = ab xs) (hy : a.eval y = ab ys) (hxl : xs.length = n) (hyl : ys.length = n) :
    (execOp a.eval o).run P u = .ok (.value (.bool (!(xs == ys)))) u := by
  have h1 := run_eqIn_ab T he hsz xs ys hxl hyl u
  have h2 := run_eqGuard_agg (P := P) u .neq t x y (bv xs).toArray (bv ys).toArray hgd
  simp [execOp, ho, hx, hy, binOp, Op.equal, Op.maxDepth, h1, h2]

end
end Go.Mem
