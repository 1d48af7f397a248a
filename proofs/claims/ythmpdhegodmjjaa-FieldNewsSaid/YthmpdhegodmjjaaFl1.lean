/-
  Field's laws: words for the walks.
-/
import Derived.Test.YthmpdhegodmjjaaRf5
import Derived.Test.YthmpdhegodmjjaaFe22
import Derived.Test.YthmpdhegodmjjaaNt
namespace Go.Proofs.Ythmpdhegodmjjaa
open Go.RowKit Go.Mem Go.Txt

def adF (F G : Nat → Nat) : Nat → Nat := carL (addL F G)
def suF (F G : Nat → Nat) : Nat → Nat := carL (subL F G)
def sbM (x y : Nat) : Nat := x + (PP - y % PP)
theorem Rep.ad {F G : Nat → Nat} {x y : Nat} (h : Rep F x) (h2 : Rep G y) : Rep (adF F G) (x + y) := h.add h2
theorem sb_add (x y : Nat) : (sbM x y + y) % PP = x % PP := by
  unfold sbM
  have hp := PP_pos
  have hm := Nat.mod_lt y hp
  have hd := Nat.div_add_mod y PP
  rw [show x + (PP - y % PP) + y = x + PP * (1 + y / PP) from by rw [Nat.mul_add]; omega, Nat.add_mul_mod_self_left]
theorem Rep.su {F G : Nat → Nat} {x y : Nat} (h : Rep F x) (h2 : Rep G y) : Rep (suF F G) (sbM x y) := h.sub h2 (sb_add x y)
theorem Rep.m {F G : Nat → Nat} {x y : Nat} (h : Rep F x) (h2 : Rep G y) : Rep (mlF F G) (x * y) := ⟨(h.ml h2).lim, by rw [(h.ml h2).val]; exact Nat.mod_mod _ _⟩
theorem Rep.to {F : Nat → Nat} {x y : Nat} (h : Rep F x) (e : x % PP = y % PP) : Rep F y := ⟨h.lim, h.val.trans e⟩
abbrev InvC (F R : Nat → Nat) : Prop := ∀ W, Calls Try.prog 23 #[el F] W fun e w' => e = .returned (el R) ∧ Kept [] W w'
theorem ad_c {F G : Nat → Nat} {x y : Nat} (h : Rep F x) (h2 : Rep G y) : AdC F G (adF F G) := fun W => fadd_any F G W h.lim h2.lim
theorem su_c {F G : Nat → Nat} {x y : Nat} (h : Rep F x) (h2 : Rep G y) : SuC F G (suF F G) := fun W => fsub_any F G W h.lim h2.lim
theorem ml_c {F G : Nat → Nat} {x y : Nat} (h : Rep F x) (h2 : Rep G y) : MlC F G (mlF F G) := mlF_any F G h.lim h2.lim
theorem inv_c {F : Nat → Nat} {x : Nat} (h : Rep F x) : InvC F (invF F) := fun W => inv_any F h.lim W
/-- A number's bytes. -/
def hb (F : Nat → Nat) : List UInt8 := le (fv F % PP) 32
abbrev HbC (F : Nat → Nat) : Prop := ∀ W, Calls Try.prog 14 #[el F] W fun e w' => e = .returned (ab (hb F)) ∧ Kept [] W w'
theorem hb_c {F : Nat → Nat} {x : Nat} (h : Rep F x) : HbC F := fun W => fhash_any F W h.lim
theorem hb_len (F : Nat → Nat) : (hb F).length = 32 := le_len _ _
theorem hb_le {F : Nat → Nat} {x : Nat} (h : Rep F x) : hb F = le (x % PP) 32 := by unfold hb; rw [h.val]
theorem hb_beq {F G : Nat → Nat} {x y : Nat} (h : Rep F x) (h2 : Rep G y) : (hb F == hb G) = decide (x % PP = y % PP) := by
  rw [hb_le h, hb_le h2]
  exact le_beq _ _ (Nat.mod_lt _ PP_pos) (Nat.mod_lt _ PP_pos)
theorem hb_eq {F G : Nat → Nat} {x y : Nat} (h : Rep F x) (h2 : Rep G y) (e : x % PP = y % PP) : (hb F == hb G) = true := by
  rw [hb_beq h h2]; exact decide_eq_true e
theorem hb_ne {F G : Nat → Nat} {x y : Nat} (h : Rep F x) (h2 : Rep G y) (e : ¬ x % PP = y % PP) : (hb F == hb G) = false := by
  rw [hb_beq h h2]; exact decide_eq_false e
theorem hb_le_eq {F : Nat → Nat} {x y : Nat} (h : Rep F x) (e : x % PP = y) : (hb F == le y 32) = true := by
  rw [hb_le h, e]; exact beq_self_eq_true _
theorem le_hb_eq {F : Nat → Nat} {x y : Nat} (h : Rep F x) (e : x % PP = y) : (le y 32 == hb F) = true := by
  rw [hb_le h, e]; exact beq_self_eq_true _
theorem hb_zero {F : Nat → Nat} {x : Nat} (h : Rep F x) : (hb F == noughts 32) = decide (x % PP = 0) := by
  rw [hb_le h, ← le_zero]
  exact le_beq _ _ (Nat.mod_lt _ PP_pos) PP_pos
/-- The bytes that are nought; the bytes of 1. -/
theorem lit_zero : ∃ l : List UInt8, l.length = 32 ∧ (∀ F x, Rep F x → (hb F == l) = decide (x % PP = 0)) ∧ Try.prog.built 29 [] = some (bv l).toArray :=
  ⟨noughts 32, by simp, fun _ _ h => hb_zero h, build_b⟩
theorem lit_one : ∃ l : List UInt8, l.length = 32 ∧ (∀ F x, Rep F x → x % PP = 1 → (hb F == l) = true) ∧ Try.prog.built 29 [(0, .int .u8 1)] = some (bv l).toArray :=
  ⟨1 :: noughts 31, rfl, fun F x h e => by rw [hb_le h, e, show le 1 32 = 1 :: noughts 31 from by decide +kernel]; exact beq_self_eq_true _, by kernel_rfl⟩
theorem eql_run {l m : List UInt8} {b : Bool} (h : (l == m) = b) (h1 : l.length = 32) (h2 : m.length = 32) (W : World) : (Op.equalIn 10000 29 (ab l) (ab m)).run Try.prog W = .ok b W := by
  have := run_eqIn_ab arrB Try.underlying5 (by kernel_rfl) l m h1 h2 W
  rw [this, h]
theorem exec_eqb {a : Act} {o : Oper} {u : World} {l m : List UInt8} {b : Bool} (x y : Operand) {r : TypeId} (ho : o.op = .binOp .eql 29 x y r) (hx : a.eval x = ab l) (hy : a.eval y = ab m) (h : (l == m) = b) (h1 : l.length = 32) (h2 : m.length = 32) :
    (execOp a.eval o).run Try.prog u = .ok (.value (.bool b)) u :=
  (exec_eql_ab arrB Try.underlying5 (by kernel_rfl) (by kernel_rfl) x y ho hx hy h1 h2).trans (by rw [h])
theorem exec_neb {a : Act} {o : Oper} {u : World} {l m : List UInt8} {b : Bool} (x y : Operand) {r : TypeId} (ho : o.op = .binOp .neq 29 x y r) (hx : a.eval x = ab l) (hy : a.eval y = ab m) (h : (l == m) = b) (h1 : l.length = 32) (h2 : m.length = 32) :
    (execOp a.eval o).run Try.prog u = .ok (.value (.bool (!b))) u :=
  (exec_neq_ab arrB Try.underlying5 (by kernel_rfl) (by kernel_rfl) x y ho hx hy h1 h2).trans (by rw [h])
theorem exec_build0 {a : Act} {o : Oper} {u : World} {t : TypeId} {cs : Array Value} (ho : o.op = .build t #[]) (h : Try.prog.built t [] = some cs) : (execOp a.eval o).run Try.prog u = .ok (.value (.agg cs)) u := by
  unfold execOp
  simp only [ho, Sem.run_bind]
  rw [run_build u t (Array.map (fun x : Nat × Operand => (x.fst, a.eval x.snd)) #[]) cs (by simpa using h)]
  simp
theorem exec_build1 {a : Act} {o : Oper} {u : World} {t : TypeId} {cs : Array Value} (i : Nat) (x : Operand) (ho : o.op = .build t #[(i, x)]) {v : Value} (hx : a.eval x = v) (h : Try.prog.built t [(i, v)] = some cs) : (execOp a.eval o).run Try.prog u = .ok (.value (.agg cs)) u := by
  unfold execOp
  simp only [ho, Sem.run_bind]
  rw [run_build u t (Array.map (fun x : Nat × Operand => (x.fst, a.eval x.snd)) #[(i, x)]) cs (by simp [hx, h])]
  simp
theorem enters_in (xs : Array Value) (w : World) : (callFunc 22 xs).run Try.prog w = .ok (.enter 22 xs) w :=
  enters_of (c := _) Try.func22 (by kernel_rfl) rfl xs w

/-- What lies in memory: bytes, elements, digits. -/
structure Mm (w0 : World) (B : List (Nat × List UInt8)) (E : List (Nat × (Nat → Nat))) (D : List (Nat × (Nat → Int))) (u : World) : Prop where
  b : ∀ p ∈ B, Blk u p.1 29 (bv p.2).toArray
  e : ∀ p ∈ E, Blk u p.1 27 (uv (fam 5 p.2)).toArray
  n : ∀ p ∈ D, Nb u p.1 p.2
  k : Kept [] w0 u
theorem Mm.kept {w0 : World} {B : List (Nat × List UInt8)} {E : List (Nat × (Nat → Nat))} {D : List (Nat × (Nat → Int))} {u u' : World} (h : Mm w0 B E D u) (hk : Kept [] u u') : Mm w0 B E D u' :=
  ⟨fun p hp => (h.b p hp).kept hk (by simp), fun p hp => (h.e p hp).kept hk (by simp), fun p hp => (h.n p hp).kept hk (by simp), h.k.then0 hk⟩
theorem Mm.none (w0 : World) : Mm w0 [] [] [] w0 := ⟨fun _ h => absurd h (by simp), fun _ h => absurd h (by simp), fun _ h => absurd h (by simp), Kept.refl _ _⟩
theorem Mm.bcons {w0 : World} {B : List (Nat × List UInt8)} {E : List (Nat × (Nat → Nat))} {D : List (Nat × (Nat → Int))} {u : World} (h : Mm w0 B E D u) {g : Nat} {l : List UInt8} (b : Blk u g 29 (bv l).toArray) : Mm w0 ((g, l) :: B) E D u :=
  ⟨fun p hp => (List.mem_cons.1 hp).elim (fun e => by subst e; exact b) (fun hp => h.b p hp), h.e, h.n, h.k⟩
theorem Mm.econs {w0 : World} {B : List (Nat × List UInt8)} {E : List (Nat × (Nat → Nat))} {D : List (Nat × (Nat → Int))} {u : World} (h : Mm w0 B E D u) {g : Nat} {l : Nat → Nat} (b : Blk u g 27 (uv (fam 5 l)).toArray) : Mm w0 B ((g, l) :: E) D u :=
  ⟨h.b, fun p hp => (List.mem_cons.1 hp).elim (fun e => by subst e; exact b) (fun hp => h.e p hp), h.n, h.k⟩
theorem Mm.ncons {w0 : World} {B : List (Nat × List UInt8)} {E : List (Nat × (Nat → Nat))} {D : List (Nat × (Nat → Int))} {u : World} (h : Mm w0 B E D u) {g : Nat} {l : Nat → Int} (b : Nb u g l) : Mm w0 B E ((g, l) :: D) u :=
  ⟨h.b, h.e, fun p hp => (List.mem_cons.1 hp).elim (fun e => by subst e; exact b) (fun hp => h.n p hp), h.k⟩
theorem Mm.fresh {w0 wr : World} {B : List (Nat × List UInt8)} {E : List (Nat × (Nat → Nat))} {D : List (Nat × (Nat → Int))} (hr : Mm w0 B E D wr) (u u' : World) (T : List Nat) (h : Mm w0 B E D u) (hk : Kept T u u') (hT : ∀ k ∈ T, wr.heap.size ≤ k) : Mm w0 B E D u' :=
  ⟨fun p hp => (h.b p hp).kept hk fun hh => by have := hT _ hh; have := (hr.b p hp).lt; omega,
   fun p hp => (h.e p hp).kept hk fun hh => by have := hT _ hh; have := (hr.e p hp).lt; omega,
   fun p hp => Blk.kept (h.n p hp) hk fun hh => by have := hT _ hh; have := Blk.lt (hr.n p hp); omega,
   h.k.fresh hk fun k hh => Nat.le_trans hr.k.size (hT k hh)⟩
theorem Mm.drew {w0 : World} {B : List (Nat × List UInt8)} {E : List (Nat × (Nat → Nat))} {D : List (Nat × (Nat → Int))} {u : World} (h : Mm w0 B E D u) : Mm w0 B E D u.drew := ⟨h.b, h.e, h.n, h.k.drew⟩
end Go.Proofs.Ythmpdhegodmjjaa
