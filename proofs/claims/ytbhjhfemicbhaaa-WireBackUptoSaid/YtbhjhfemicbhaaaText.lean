/-
  A region that draws its order, walked once in the order of the text: a general theorem (no program in sight).
  Every operation is of a class: free (its value hangs on its operands alone), plain (free where its operands are no aggregates, interface values or non-nil pointers), reading, or acting.
  Two operations that no edge orders must be apart, and one of them free, or both reading.
-/
import Derived.Orders
import Derived.Still
import Derived.Tactics2
import Derived.Laws.Sem
namespace Go.Txt

/-- Comes back ok with the same value in every world, and leaves the world alone. -/
def Steady {α : Type} (P : Program) (s : Sem α) : Prop := ∀ w r w', s.run P w = .ok r w' → w' = w ∧ ∀ w2, s.run P w2 = .ok r w2

/-- Leaves the world alone. -/
def Reads {α : Type} (P : Program) (s : Sem α) : Prop := ∀ w r w', s.run P w = .ok r w' → w' = w

section
variable {α β : Type} {P : Program}

theorem Steady.reads {s : Sem α} (h : Steady P s) : Reads P s := fun w r w' e => (h w r w' e).1

theorem Steady.pure (a : α) : Steady P (Pure.pure a : Sem α) := by
  intro w r w' h
  simp only [Sem.run_pure, Result.ok.injEq] at h
  obtain ⟨rfl, rfl⟩ := h
  exact ⟨rfl, fun _ => rfl⟩

theorem Steady.bind {s : Sem α} {f : α → Sem β} (h : Steady P s) (hf : ∀ a, Steady P (f a)) : Steady P (s >>= f) := by
  intro w r w' e
  simp only [Sem.run_bind] at e
  cases hs : s.run P w with
  | halt x w1 => rw [hs] at e; simp at e
  | ok a w1 =>
    rw [hs] at e
    simp only [Result.andThen_ok] at e
    obtain ⟨rfl, h2⟩ := h _ _ _ hs
    obtain ⟨rfl, h3⟩ := hf _ _ _ _ e
    exact ⟨rfl, fun w2 => by simp only [Sem.run_bind, h2 w2, Result.andThen_ok]; exact h3 w2⟩

theorem Steady.map {s : Sem α} {f : α → β} (h : Steady P s) : Steady P (f <$> s) := by
  have := Steady.bind (f := fun a => (Pure.pure (f a) : Sem β)) h (fun a => Steady.pure _)
  intro w r w' e
  have hh := this w r w'
  simp only [Sem.run_map, Sem.run_bind, Sem.run_pure] at *
  exact hh e

theorem Reads.bind {s : Sem α} {f : α → Sem β} (h : Reads P s) (hf : ∀ a, Reads P (f a)) : Reads P (s >>= f) := by
  intro w r w' e
  simp only [Sem.run_bind] at e
  cases hs : s.run P w with
  | halt x w1 => rw [hs] at e; simp at e
  | ok a w1 =>
    rw [hs] at e
    simp only [Result.andThen_ok] at e
    exact (hf _ _ _ _ e).trans (h _ _ _ hs)

/-- Never comes back ok. -/
def Never (P : Program) (s : Sem α) : Prop := ∀ w r w', s.run P w ≠ .ok r w'

theorem Never.steady {s : Sem α} (h : Never P s) : Steady P s := fun w r w' e => (h w r w' e).elim
theorem Never.stuck (why : String) : Never P (stuck why : Sem α) := fun w r w' e => by simp at e
theorem Never.unsupported (u : Unsupported) : Never P (unsupported u : Sem α) := fun w r w' e => by simp at e
theorem Never.bind {s : Sem α} {f : α → Sem β} (hf : ∀ a, Never P (f a)) : Never P (s >>= f) := by
  intro w r w' e
  simp only [Sem.run_bind] at e
  cases hs : s.run P w with
  | halt x w1 => rw [hs] at e; simp at e
  | ok a w1 => rw [hs] at e; simp only [Result.andThen_ok] at e; exact hf _ _ _ _ e
theorem Never.bind_left {s : Sem α} {f : α → Sem β} (hs : Never P s) : Never P (s >>= f) := by
  intro w r w' e
  simp only [Sem.run_bind] at e
  cases h : s.run P w with
  | halt x w1 => rw [h] at e; simp at e
  | ok a w1 => exact hs _ _ _ h
theorem Never.runtimePanic (e : RuntimeError) : Never P (runtimePanic e : Sem α) := by
  intro w r w' h
  unfold Go.runtimePanic at h
  cases e <;> simp at h
  all_goals (revert h; generalize (elemOf _).run P w = x; intro h; cases x <;> simp at h; revert h; generalize Sem.run P (newVar _ _) _ = y; intro h; cases y <;> simp at h)
theorem Never.boundsPanic (k : IntKind) (x y : Int) (c : BoundsCode) : Never P (boundsPanic k x y c : Sem α) := by
  unfold Go.boundsPanic
  dsimp only
  split <;> exact Never.bind fun _ => Never.runtimePanic _

theorem Steady.program : Steady P Go.program := by
  intro w r w' h
  simp at h
  obtain ⟨rfl, rfl⟩ := h
  exact ⟨rfl, fun _ => by simp⟩
theorem Steady.ite {c : Prop} [Decidable c] {x y : Sem α} (hx : Steady P x) (hy : Steady P y) : Steady P (if c then x else y) := by split <;> assumption

theorem Steady.typeInfo (t : TypeId) : Steady P (typeInfo t) := by
  unfold Go.typeInfo
  refine Steady.program.bind fun p => ?_
  split
  · exact Steady.pure _
  · exact (Never.stuck _).steady
theorem Steady.underlying (t : TypeId) : Steady P (underlying t) := by
  unfold Go.underlying
  refine Steady.program.bind fun p => ?_
  split
  · exact Steady.pure _
  · exact (Never.stuck _).steady
theorem Steady.sizeOf (t : TypeId) : Steady P (Go.sizeOf t) := by
  unfold Go.sizeOf
  exact (Steady.typeInfo t).bind fun i => Steady.pure _
theorem Steady.isAgg (t : TypeId) : Steady P (isAgg t) := by
  unfold Go.isAgg
  refine (Steady.underlying t).bind fun d => ?_
  split <;> exact Steady.pure _
theorem Steady.asIntOf (v : Value) : Steady P (Go.asIntOf v) := by
  unfold Go.asIntOf
  repeat' (first | exact Steady.pure _ | exact (Never.stuck _).steady | exact (Never.unsupported _).steady | exact (Never.runtimePanic _).steady | exact (Never.boundsPanic _ _ _ _).steady | exact (Never.stuck _).bind_left.steady | exact Steady.program | exact Steady.typeInfo _ | exact Steady.underlying _ | exact Steady.sizeOf _ | exact Steady.isAgg _  | (refine Steady.bind ?_ fun _ => ?_) | (dsimp only; split) | split | dsimp only)
theorem Steady.asBool (v : Value) : Steady P (Go.asBool v) := by
  unfold Go.asBool
  repeat' (first | exact Steady.pure _ | exact (Never.stuck _).steady | exact (Never.unsupported _).steady | exact (Never.runtimePanic _).steady | exact (Never.boundsPanic _ _ _ _).steady | exact (Never.stuck _).bind_left.steady | exact Steady.program | exact Steady.typeInfo _ | exact Steady.underlying _ | exact Steady.sizeOf _ | exact Steady.isAgg _  | exact Steady.asIntOf _ | (refine Steady.bind ?_ fun _ => ?_) | (dsimp only; split) | split | dsimp only)
theorem Steady.asAgg (v : Value) : Steady P (Go.asAgg v) := by
  unfold Go.asAgg
  repeat' (first | exact Steady.pure _ | exact (Never.stuck _).steady | exact (Never.unsupported _).steady | exact (Never.runtimePanic _).steady | exact (Never.boundsPanic _ _ _ _).steady | exact (Never.stuck _).bind_left.steady | exact Steady.program | exact Steady.typeInfo _ | exact Steady.underlying _ | exact Steady.sizeOf _ | exact Steady.isAgg _  | exact Steady.asIntOf _ | exact Steady.asBool _ | (refine Steady.bind ?_ fun _ => ?_) | (dsimp only; split) | split | dsimp only)
theorem Steady.asAddr (v : Value) : Steady P (Go.asAddr v) := by
  unfold Go.asAddr
  repeat' (first | exact Steady.pure _ | exact (Never.stuck _).steady | exact (Never.unsupported _).steady | exact (Never.runtimePanic _).steady | exact (Never.boundsPanic _ _ _ _).steady | exact (Never.stuck _).bind_left.steady | exact Steady.program | exact Steady.typeInfo _ | exact Steady.underlying _ | exact Steady.sizeOf _ | exact Steady.isAgg _  | exact Steady.asIntOf _ | exact Steady.asBool _ | exact Steady.asAgg _ | (refine Steady.bind ?_ fun _ => ?_) | (dsimp only; split) | split | dsimp only)
theorem Steady.sureAddr (v : Value) : Steady P (Instr.sureAddr v) := by
  unfold Instr.sureAddr
  repeat' (first | exact Steady.pure _ | exact (Never.stuck _).steady | exact (Never.unsupported _).steady | exact (Never.runtimePanic _).steady | exact (Never.boundsPanic _ _ _ _).steady | exact (Never.stuck _).bind_left.steady | exact Steady.program | exact Steady.typeInfo _ | exact Steady.underlying _ | exact Steady.sizeOf _ | exact Steady.isAgg _  | exact Steady.asIntOf _ | exact Steady.asBool _ | exact Steady.asAgg _ | exact Steady.asAddr _ | (refine Steady.bind ?_ fun _ => ?_) | (dsimp only; split) | split | dsimp only)
theorem Steady.part (t : TypeId) (cs : Array Value) (off : Nat) : Steady P (Go.part t cs off) := by
  unfold Go.part
  repeat' (first | exact Steady.pure _ | exact (Never.stuck _).steady | exact (Never.unsupported _).steady | exact (Never.runtimePanic _).steady | exact (Never.boundsPanic _ _ _ _).steady | exact (Never.stuck _).bind_left.steady | exact Steady.program | exact Steady.typeInfo _ | exact Steady.underlying _ | exact Steady.sizeOf _ | exact Steady.isAgg _  | exact Steady.asIntOf _ | exact Steady.asBool _ | exact Steady.asAgg _ | exact Steady.asAddr _ | exact Steady.sureAddr _ | (refine Steady.bind ?_ fun _ => ?_) | (dsimp only; split) | split | dsimp only)
theorem Steady.extract (v : Value) (i : Nat) : Steady P (Instr.extract v i) := by
  unfold Instr.extract
  repeat' (first | exact Steady.pure _ | exact (Never.stuck _).steady | exact (Never.unsupported _).steady | exact (Never.runtimePanic _).steady | exact (Never.boundsPanic _ _ _ _).steady | exact (Never.stuck _).bind_left.steady | exact Steady.program | exact Steady.typeInfo _ | exact Steady.underlying _ | exact Steady.sizeOf _ | exact Steady.isAgg _  | exact Steady.asIntOf _ | exact Steady.asBool _ | exact Steady.asAgg _ | exact Steady.asAddr _ | exact Steady.sureAddr _ | exact Steady.part _ _ _ | (refine Steady.bind ?_ fun _ => ?_) | (dsimp only; split) | split | dsimp only)
theorem Steady.field (t : TypeId) (v : Value) (i : Nat) : Steady P (Instr.field t v i) := by
  unfold Instr.field
  repeat' (first | exact Steady.pure _ | exact (Never.stuck _).steady | exact (Never.unsupported _).steady | exact (Never.runtimePanic _).steady | exact (Never.boundsPanic _ _ _ _).steady | exact (Never.stuck _).bind_left.steady | exact Steady.program | exact Steady.typeInfo _ | exact Steady.underlying _ | exact Steady.sizeOf _ | exact Steady.isAgg _  | exact Steady.asIntOf _ | exact Steady.asBool _ | exact Steady.asAgg _ | exact Steady.asAddr _ | exact Steady.sureAddr _ | exact Steady.part _ _ _ | exact Steady.extract _ _ | (refine Steady.bind ?_ fun _ => ?_) | (dsimp only; split) | split | dsimp only)
theorem Steady.index (t : TypeId) (v i : Value) : Steady P (Instr.index t v i) := by
  unfold Instr.index
  repeat' (first | exact Steady.pure _ | exact (Never.stuck _).steady | exact (Never.unsupported _).steady | exact (Never.runtimePanic _).steady | exact (Never.boundsPanic _ _ _ _).steady | exact (Never.stuck _).bind_left.steady | exact Steady.program | exact Steady.typeInfo _ | exact Steady.underlying _ | exact Steady.sizeOf _ | exact Steady.isAgg _  | exact Steady.asIntOf _ | exact Steady.asBool _ | exact Steady.asAgg _ | exact Steady.asAddr _ | exact Steady.sureAddr _ | exact Steady.part _ _ _ | exact Steady.extract _ _ | exact Steady.field _ _ _ | (refine Steady.bind ?_ fun _ => ?_) | (dsimp only; split) | split | dsimp only)
theorem Steady.indexAt (t : TypeId) (v i : Value) : Steady P (Instr.indexAt t v i) := by
  unfold Instr.indexAt
  repeat' (first | exact Steady.pure _ | exact (Never.stuck _).steady | exact (Never.unsupported _).steady | exact (Never.runtimePanic _).steady | exact (Never.boundsPanic _ _ _ _).steady | exact (Never.stuck _).bind_left.steady | exact Steady.program | exact Steady.typeInfo _ | exact Steady.underlying _ | exact Steady.sizeOf _ | exact Steady.isAgg _  | exact Steady.asIntOf _ | exact Steady.asBool _ | exact Steady.asAgg _ | exact Steady.asAddr _ | exact Steady.sureAddr _ | exact Steady.part _ _ _ | exact Steady.extract _ _ | exact Steady.field _ _ _ | exact Steady.index _ _ _ | (refine Steady.bind ?_ fun _ => ?_) | (dsimp only; split) | split | dsimp only)
theorem Steady.sliceBound (v : Value) (y : Nat) (c : BoundsCode) : Steady P (Instr.sliceBound v y c) := by
  unfold Instr.sliceBound
  repeat' (first | exact Steady.pure _ | exact (Never.stuck _).steady | exact (Never.unsupported _).steady | exact (Never.runtimePanic _).steady | exact (Never.boundsPanic _ _ _ _).steady | exact (Never.stuck _).bind_left.steady | exact Steady.program | exact Steady.typeInfo _ | exact Steady.underlying _ | exact Steady.sizeOf _ | exact Steady.isAgg _  | exact Steady.asIntOf _ | exact Steady.asBool _ | exact Steady.asAgg _ | exact Steady.asAddr _ | exact Steady.sureAddr _ | exact Steady.part _ _ _ | exact Steady.extract _ _ | exact Steady.field _ _ _ | exact Steady.index _ _ _ | exact Steady.indexAt _ _ _ | (refine Steady.bind ?_ fun _ => ?_) | (dsimp only; split) | split | dsimp only)
theorem Steady.sliceBounds (b : Bool) (l c : Nat) (lo hi mx : Option Value) : Steady P (Instr.sliceBounds b l c lo hi mx) := by
  unfold Instr.sliceBounds
  repeat' (first | exact Steady.pure _ | exact (Never.stuck _).steady | exact (Never.unsupported _).steady | exact (Never.runtimePanic _).steady | exact (Never.boundsPanic _ _ _ _).steady | exact (Never.stuck _).bind_left.steady | exact Steady.program | exact Steady.typeInfo _ | exact Steady.underlying _ | exact Steady.sizeOf _ | exact Steady.isAgg _  | exact Steady.asIntOf _ | exact Steady.asBool _ | exact Steady.asAgg _ | exact Steady.asAddr _ | exact Steady.sureAddr _ | exact Steady.part _ _ _ | exact Steady.extract _ _ | exact Steady.field _ _ _ | exact Steady.index _ _ _ | exact Steady.indexAt _ _ _ | exact Steady.sliceBound _ _ _ | (refine Steady.bind ?_ fun _ => ?_) | (dsimp only; split) | split | dsimp only)
theorem Steady.slice (t : TypeId) (x : Value) (lo hi mx : Option Value) : Steady P (Instr.slice t x lo hi mx) := by
  unfold Instr.slice
  repeat' (first | exact Steady.pure _ | exact (Never.stuck _).steady | exact (Never.unsupported _).steady | exact (Never.runtimePanic _).steady | exact (Never.boundsPanic _ _ _ _).steady | exact (Never.stuck _).bind_left.steady | exact Steady.program | exact Steady.typeInfo _ | exact Steady.underlying _ | exact Steady.sizeOf _ | exact Steady.isAgg _  | exact Steady.asIntOf _ | exact Steady.asBool _ | exact Steady.asAgg _ | exact Steady.asAddr _ | exact Steady.sureAddr _ | exact Steady.part _ _ _ | exact Steady.extract _ _ | exact Steady.field _ _ _ | exact Steady.index _ _ _ | exact Steady.indexAt _ _ _ | exact Steady.sliceBound _ _ _ | exact Steady.sliceBounds _ _ _ _ _ _ | (refine Steady.bind ?_ fun _ => ?_) | (dsimp only; split) | split | dsimp only)
theorem Steady.sliceAt (t : TypeId) (x : Value) (lo hi mx : Option Value) : Steady P (Instr.sliceAt t x lo hi mx) := by
  unfold Instr.sliceAt
  repeat' (first | exact Steady.pure _ | exact (Never.stuck _).steady | exact (Never.unsupported _).steady | exact (Never.runtimePanic _).steady | exact (Never.boundsPanic _ _ _ _).steady | exact (Never.stuck _).bind_left.steady | exact Steady.program | exact Steady.typeInfo _ | exact Steady.underlying _ | exact Steady.sizeOf _ | exact Steady.isAgg _  | exact Steady.asIntOf _ | exact Steady.asBool _ | exact Steady.asAgg _ | exact Steady.asAddr _ | exact Steady.sureAddr _ | exact Steady.part _ _ _ | exact Steady.extract _ _ | exact Steady.field _ _ _ | exact Steady.index _ _ _ | exact Steady.indexAt _ _ _ | exact Steady.sliceBound _ _ _ | exact Steady.sliceBounds _ _ _ _ _ _ | exact Steady.slice _ _ _ _ _ | (refine Steady.bind ?_ fun _ => ?_) | (dsimp only; split) | split | dsimp only)
theorem Steady.makeInterface (t : TypeId) (x : Value) : Steady P (Instr.makeInterface t x) := by
  unfold Instr.makeInterface
  repeat' (first | exact Steady.pure _ | exact (Never.stuck _).steady | exact (Never.unsupported _).steady | exact (Never.runtimePanic _).steady | exact (Never.boundsPanic _ _ _ _).steady | exact (Never.stuck _).bind_left.steady | exact Steady.program | exact Steady.typeInfo _ | exact Steady.underlying _ | exact Steady.sizeOf _ | exact Steady.isAgg _  | exact Steady.asIntOf _ | exact Steady.asBool _ | exact Steady.asAgg _ | exact Steady.asAddr _ | exact Steady.sureAddr _ | exact Steady.part _ _ _ | exact Steady.extract _ _ | exact Steady.field _ _ _ | exact Steady.index _ _ _ | exact Steady.indexAt _ _ _ | exact Steady.sliceBound _ _ _ | exact Steady.sliceBounds _ _ _ _ _ _ | exact Steady.slice _ _ _ _ _ | exact Steady.sliceAt _ _ _ _ _ | (refine Steady.bind ?_ fun _ => ?_) | (dsimp only; split) | split | dsimp only)
theorem Steady.arrayAt (t : TypeId) (x : Value) : Steady P (Instr.arrayAt t x) := by
  unfold Instr.arrayAt
  repeat' (first | exact Steady.pure _ | exact (Never.stuck _).steady | exact (Never.unsupported _).steady | exact (Never.runtimePanic _).steady | exact (Never.boundsPanic _ _ _ _).steady | exact (Never.stuck _).bind_left.steady | exact Steady.program | exact Steady.typeInfo _ | exact Steady.underlying _ | exact Steady.sizeOf _ | exact Steady.isAgg _  | exact Steady.asIntOf _ | exact Steady.asBool _ | exact Steady.asAgg _ | exact Steady.asAddr _ | exact Steady.sureAddr _ | exact Steady.part _ _ _ | exact Steady.extract _ _ | exact Steady.field _ _ _ | exact Steady.index _ _ _ | exact Steady.indexAt _ _ _ | exact Steady.sliceBound _ _ _ | exact Steady.sliceBounds _ _ _ _ _ _ | exact Steady.slice _ _ _ _ _ | exact Steady.sliceAt _ _ _ _ _ | exact Steady.makeInterface _ _ | (refine Steady.bind ?_ fun _ => ?_) | (dsimp only; split) | split | dsimp only)
theorem Steady.unary (o : UnOp) (x : Value) : Steady P (Op.unary o x) := by
  unfold Op.unary Op.intArith Op.intBits
  repeat' (first | exact Steady.pure _ | exact (Never.stuck _).steady | exact (Never.unsupported _).steady | exact (Never.runtimePanic _).steady | exact (Never.boundsPanic _ _ _ _).steady | exact (Never.stuck _).bind_left.steady | exact Steady.program | exact Steady.typeInfo _ | exact Steady.underlying _ | exact Steady.sizeOf _ | exact Steady.isAgg _  | exact Steady.asIntOf _ | exact Steady.asBool _ | exact Steady.asAgg _ | exact Steady.asAddr _ | exact Steady.sureAddr _ | exact Steady.part _ _ _ | exact Steady.extract _ _ | exact Steady.field _ _ _ | exact Steady.index _ _ _ | exact Steady.indexAt _ _ _ | exact Steady.sliceBound _ _ _ | exact Steady.sliceBounds _ _ _ _ _ _ | exact Steady.slice _ _ _ _ _ | exact Steady.sliceAt _ _ _ _ _ | exact Steady.makeInterface _ _ | exact Steady.arrayAt _ _ | (refine Steady.bind ?_ fun _ => ?_) | (dsimp only; split) | split | dsimp only)
theorem Steady.intArith (o : BinOp) (k : IntKind) (x y : Int) : Steady P (Op.intArith o k x y) := by
  unfold Op.intArith
  repeat' (first | exact Steady.pure _ | exact (Never.stuck _).steady | exact (Never.unsupported _).steady | exact (Never.runtimePanic _).steady | exact (Never.boundsPanic _ _ _ _).steady | exact (Never.stuck _).bind_left.steady | exact Steady.program | exact Steady.typeInfo _ | exact Steady.underlying _ | exact Steady.sizeOf _ | exact Steady.isAgg _  | exact Steady.asIntOf _ | exact Steady.asBool _ | exact Steady.asAgg _ | exact Steady.asAddr _ | exact Steady.sureAddr _ | exact Steady.part _ _ _ | exact Steady.extract _ _ | exact Steady.field _ _ _ | exact Steady.index _ _ _ | exact Steady.indexAt _ _ _ | exact Steady.sliceBound _ _ _ | exact Steady.sliceBounds _ _ _ _ _ _ | exact Steady.slice _ _ _ _ _ | exact Steady.sliceAt _ _ _ _ _ | exact Steady.makeInterface _ _ | exact Steady.arrayAt _ _ | exact Steady.unary _ _ | (refine Steady.bind ?_ fun _ => ?_) | (dsimp only; split) | split | dsimp only)
theorem Steady.intBits (o : BinOp) (k : IntKind) (x y : Int) : Steady P (Op.intBits o k x y) := by
  unfold Op.intBits
  repeat' (first | exact Steady.pure _ | exact (Never.stuck _).steady | exact (Never.unsupported _).steady | exact (Never.runtimePanic _).steady | exact (Never.boundsPanic _ _ _ _).steady | exact (Never.stuck _).bind_left.steady | exact Steady.program | exact Steady.typeInfo _ | exact Steady.underlying _ | exact Steady.sizeOf _ | exact Steady.isAgg _  | exact Steady.asIntOf _ | exact Steady.asBool _ | exact Steady.asAgg _ | exact Steady.asAddr _ | exact Steady.sureAddr _ | exact Steady.part _ _ _ | exact Steady.extract _ _ | exact Steady.field _ _ _ | exact Steady.index _ _ _ | exact Steady.indexAt _ _ _ | exact Steady.sliceBound _ _ _ | exact Steady.sliceBounds _ _ _ _ _ _ | exact Steady.slice _ _ _ _ _ | exact Steady.sliceAt _ _ _ _ _ | exact Steady.makeInterface _ _ | exact Steady.arrayAt _ _ | exact Steady.unary _ _ | exact Steady.intArith _ _ _ _ | (refine Steady.bind ?_ fun _ => ?_) | (dsimp only; split) | split | dsimp only)
theorem Steady.intCmp (o : BinOp) (x y : Int) : Steady P (Op.intCmp o x y) := by
  unfold Op.intCmp
  repeat' (first | exact Steady.pure _ | exact (Never.stuck _).steady | exact (Never.unsupported _).steady | exact (Never.runtimePanic _).steady | exact (Never.boundsPanic _ _ _ _).steady | exact (Never.stuck _).bind_left.steady | exact Steady.program | exact Steady.typeInfo _ | exact Steady.underlying _ | exact Steady.sizeOf _ | exact Steady.isAgg _  | exact Steady.asIntOf _ | exact Steady.asBool _ | exact Steady.asAgg _ | exact Steady.asAddr _ | exact Steady.sureAddr _ | exact Steady.part _ _ _ | exact Steady.extract _ _ | exact Steady.field _ _ _ | exact Steady.index _ _ _ | exact Steady.indexAt _ _ _ | exact Steady.sliceBound _ _ _ | exact Steady.sliceBounds _ _ _ _ _ _ | exact Steady.slice _ _ _ _ _ | exact Steady.sliceAt _ _ _ _ _ | exact Steady.makeInterface _ _ | exact Steady.arrayAt _ _ | exact Steady.unary _ _ | exact Steady.intArith _ _ _ _ | exact Steady.intBits _ _ _ _ | (refine Steady.bind ?_ fun _ => ?_) | (dsimp only; split) | split | dsimp only)
theorem Steady.intDiv (o : BinOp) (k : IntKind) (x y : Int) : Steady P (Op.intDiv o k x y) := by
  unfold Op.intDiv
  repeat' (first | exact Steady.pure _ | exact (Never.stuck _).steady | exact (Never.unsupported _).steady | exact (Never.runtimePanic _).steady | exact (Never.boundsPanic _ _ _ _).steady | exact (Never.stuck _).bind_left.steady | exact Steady.program | exact Steady.typeInfo _ | exact Steady.underlying _ | exact Steady.sizeOf _ | exact Steady.isAgg _  | exact Steady.asIntOf _ | exact Steady.asBool _ | exact Steady.asAgg _ | exact Steady.asAddr _ | exact Steady.sureAddr _ | exact Steady.part _ _ _ | exact Steady.extract _ _ | exact Steady.field _ _ _ | exact Steady.index _ _ _ | exact Steady.indexAt _ _ _ | exact Steady.sliceBound _ _ _ | exact Steady.sliceBounds _ _ _ _ _ _ | exact Steady.slice _ _ _ _ _ | exact Steady.sliceAt _ _ _ _ _ | exact Steady.makeInterface _ _ | exact Steady.arrayAt _ _ | exact Steady.unary _ _ | exact Steady.intArith _ _ _ _ | exact Steady.intBits _ _ _ _ | exact Steady.intCmp _ _ _ | (refine Steady.bind ?_ fun _ => ?_) | (dsimp only; split) | split | dsimp only)
theorem Steady.shift (o : BinOp) (k : IntKind) (x : Int) (j : IntKind) (y : Int) : Steady P (Op.shift o k x j y) := by
  unfold Op.shift
  repeat' (first | exact Steady.pure _ | exact (Never.stuck _).steady | exact (Never.unsupported _).steady | exact (Never.runtimePanic _).steady | exact (Never.boundsPanic _ _ _ _).steady | exact (Never.stuck _).bind_left.steady | exact Steady.program | exact Steady.typeInfo _ | exact Steady.underlying _ | exact Steady.sizeOf _ | exact Steady.isAgg _  | exact Steady.asIntOf _ | exact Steady.asBool _ | exact Steady.asAgg _ | exact Steady.asAddr _ | exact Steady.sureAddr _ | exact Steady.part _ _ _ | exact Steady.extract _ _ | exact Steady.field _ _ _ | exact Steady.index _ _ _ | exact Steady.indexAt _ _ _ | exact Steady.sliceBound _ _ _ | exact Steady.sliceBounds _ _ _ _ _ _ | exact Steady.slice _ _ _ _ _ | exact Steady.sliceAt _ _ _ _ _ | exact Steady.makeInterface _ _ | exact Steady.arrayAt _ _ | exact Steady.unary _ _ | exact Steady.intArith _ _ _ _ | exact Steady.intBits _ _ _ _ | exact Steady.intCmp _ _ _ | exact Steady.intDiv _ _ _ _ | (refine Steady.bind ?_ fun _ => ?_) | (dsimp only; split) | split | dsimp only)
theorem Steady.stringOp (o : BinOp) (x y : ByteArray) : Steady P (Op.stringOp o x y) := by
  unfold Op.stringOp
  repeat' (first | exact Steady.pure _ | exact (Never.stuck _).steady | exact (Never.unsupported _).steady | exact (Never.runtimePanic _).steady | exact (Never.boundsPanic _ _ _ _).steady | exact (Never.stuck _).bind_left.steady | exact Steady.program | exact Steady.typeInfo _ | exact Steady.underlying _ | exact Steady.sizeOf _ | exact Steady.isAgg _  | exact Steady.asIntOf _ | exact Steady.asBool _ | exact Steady.asAgg _ | exact Steady.asAddr _ | exact Steady.sureAddr _ | exact Steady.part _ _ _ | exact Steady.extract _ _ | exact Steady.field _ _ _ | exact Steady.index _ _ _ | exact Steady.indexAt _ _ _ | exact Steady.sliceBound _ _ _ | exact Steady.sliceBounds _ _ _ _ _ _ | exact Steady.slice _ _ _ _ _ | exact Steady.sliceAt _ _ _ _ _ | exact Steady.makeInterface _ _ | exact Steady.arrayAt _ _ | exact Steady.unary _ _ | exact Steady.intArith _ _ _ _ | exact Steady.intBits _ _ _ _ | exact Steady.intCmp _ _ _ | exact Steady.intDiv _ _ _ _ | exact Steady.shift _ _ _ _ _ | (refine Steady.bind ?_ fun _ => ?_) | (dsimp only; split) | split | dsimp only)

end

/-! ### The classes -/

/-- No pointer, no aggregate, no interface value, no floating number, no map. -/
def dry : Value → Bool
  | .int .. | .bool _ | .string _ | .slice .. => true
  | _ => false

def fldSized (P : Program) (s f : Nat) : Bool :=
  match P.underlying s with
  | some (.struct fs) => match fs[f]? with
    | some fd => match P.info? fd.type with
      | some i => i.size != 0
      | none => false
    | none => false
  | _ => false

def isIntT (P : Program) (t : TypeId) : Bool := match P.underlying t with | some (.int _) => true | _ => false
def isStrT (P : Program) (t : TypeId) : Bool := match P.underlying t with | some .string => true | _ => false
def isSliceT (P : Program) (t : TypeId) : Bool := match P.underlying t with | some (.slice _) => true | _ => false

/-- 0: free whatever the operands · 1: free where the operands fit ('fitsOp') · 2: reads · 3: acts. -/
def opCls (P : Program) : Op → Nat
  | .move _ | .assign _ | .pick .. | .extract .. | .field .. | .index .. | .indexAddr .. | .slice .. | .makeInterface .. | .sliceToArrayPointer .. | .unOp .. => 0
  | .fieldAddr s _ f => if fldSized P s f then 0 else 3
  | .nilCheck _ => 1
  | .binOp .. => 1
  | .convert s d _ => if isIntT P s && isIntT P d then 1 else if isSliceT P s && isStrT P d then 2 else 3
  | .load .. => 2
  | .call { callee := .builtin b, args, .. } =>
    match b with
    | .len => 1
    | .min | .max => if args.size = 2 then 1 else 3
    | _ => 3
  | _ => 3

/-- Do the operands of an operation of class 1 fit? -/
def fitsOp (ρ : Operand → Value) : Op → Bool
  | .nilCheck x => match ρ x with | .pointer _ => true | v => dry v
  | .binOp op _ x y _ =>
    (match op, ρ x, ρ y with
    | .eql, .pointer none, .pointer _ | .neq, .pointer none, .pointer _ | .eql, .pointer _, .pointer none | .neq, .pointer _, .pointer none => true
    | _, a, b => dry a && dry b)
  | .convert _ _ x => dry (ρ x)
  | .call c => c.args.toList.all fun x => dry (ρ x)
  | _ => true

section
variable {P : Program}

theorem st_lift {s : Sem Value} (h : Steady P s) : Steady P (do pure (Next.value (← s)) : Sem Next) := h.bind fun _ => Steady.pure _

theorem st_fieldAt {s f : Nat} (hs : fldSized P s f = true) (v : Value) : Steady P (Instr.fieldAt s v f) := by
  unfold fldSized at hs
  intro w r w' e
  unfold Instr.fieldAt at e ⊢
  cases hu : P.underlying s with
  | none => simp [hu] at hs
  | some d =>
    simp only [hu] at hs
    cases d <;> simp only [Bool.false_eq_true] at hs
    case struct fs =>
    cases hf : fs[f]? with
    | none => simp [hf] at hs
    | some fd =>
      simp only [hf] at hs
      cases hi : P.info? fd.type with
      | none => simp [hi] at hs
      | some i =>
        simp only [hi, bne_iff_ne, ne_eq] at hs
        have key : Steady P (do
            let a ← Instr.sureAddr v
            pure (Value.pointer (some (← fieldPlace a fd))) : Sem Value) := by
          refine (Steady.sureAddr v).bind fun a => ?_
          refine Steady.bind ?_ fun _ => Steady.pure _
          have e2 : ∀ w, (fieldPlace a fd).run P w = .ok (a.add fd.offset) w := by
            intro w
            simp [fieldPlace, Go.sizeOf, typeInfo, hi, hs]
          intro w r w' h
          rw [e2] at h
          simp only [Result.ok.injEq] at h
          obtain ⟨rfl, rfl⟩ := h
          exact ⟨rfl, fun w2 => e2 w2⟩
        have hun : ∀ w, (underlying s).run P w = .ok (.struct fs) w := by intro w; simp [underlying, hu]
        simp only [Sem.run_bind, hun, Result.andThen_ok, hf] at e ⊢
        have := key w r w' (by simpa only [Sem.run_bind] using e)
        refine ⟨this.1, fun w2 => ?_⟩
        simpa only [Sem.run_bind] using this.2 w2

theorem st_equal_dry (t : TypeId) {x y : Value} (hx : dry x = true) (hy : dry y = true) : Steady P (Op.equal t x y) := by
  unfold Op.equal Op.maxDepth
  unfold Op.equalIn
  refine (Steady.underlying t).bind fun d => ?_
  cases x <;> simp only [dry, Bool.false_eq_true] at hx <;> cases y <;> simp only [dry, Bool.false_eq_true] at hy <;>
    (cases d <;> (dsimp only; repeat' (first | exact Steady.pure _ | exact (Never.stuck _).steady | exact (Never.unsupported _).steady | contradiction | split)))

theorem st_equal_nil (t : TypeId) (a : Option Addr) : Steady P (Op.equal t (.pointer none) (.pointer a)) := by
  unfold Op.equal Op.maxDepth
  unfold Op.equalIn
  refine (Steady.underlying t).bind fun d => ?_
  cases d <;> (dsimp only [samePointer]; repeat' (first | exact Steady.pure _ | exact (Never.stuck _).steady | exact (Never.unsupported _).steady | contradiction | split))

theorem st_equal_nil' (t : TypeId) (a : Option Addr) : Steady P (Op.equal t (.pointer a) (.pointer none)) := by
  unfold Op.equal Op.maxDepth
  unfold Op.equalIn
  refine (Steady.underlying t).bind fun d => ?_
  cases a <;> cases d <;> (dsimp only [samePointer]; repeat' (first | exact Steady.pure _ | exact (Never.stuck _).steady | exact (Never.unsupported _).steady | contradiction | split))

theorem st_eqGuard_dry (op : BinOp) (t : TypeId) (x y : Operand) {a b : Value} (ha : dry a = true) : Steady P (eqGuard op t x y a b) := by
  unfold eqGuard
  cases a <;> simp only [dry, Bool.false_eq_true] at ha <;>
    (dsimp only; repeat' (first | exact Steady.pure _ | split))

theorem st_eqGuard_ptr (op : BinOp) (t : TypeId) (x y : Operand) (a : Option Addr) (b : Value) : Steady P (eqGuard op t x y (.pointer a) b) := by
  unfold eqGuard
  dsimp only
  repeat' (first | exact Steady.pure _ | split)

theorem st_binOp_dry (op : BinOp) (t : TypeId) {a b : Value} (ha : dry a = true) (hb : dry b = true) : Steady P (binOp op t a b) := by
  cases a <;> simp only [dry, Bool.false_eq_true] at ha <;> cases b <;> simp only [dry, Bool.false_eq_true] at hb <;> cases op <;>
    (dsimp only [binOp]
     repeat' (first
       | exact Steady.pure _ | exact (Never.stuck _).steady | exact (Never.unsupported _).steady
       | exact Steady.shift _ _ _ _ _ | exact Steady.intArith _ _ _ _ | exact Steady.intBits _ _ _ _ | exact Steady.intCmp _ _ _ | exact Steady.intDiv _ _ _ _ | exact Steady.stringOp _ _ _
       | exact (st_equal_dry _ rfl rfl).bind fun _ => Steady.pure _
       | split))

theorem st_len {args : Array Value} (h : args.toList.all dry = true) (ts : Array TypeId) (t : TypeId) : Steady P (Builtin.len_ ts t args) := by
  unfold Builtin.len_
  cases h0 : ts[0]? <;> cases h1 : args[0]? <;> dsimp only
  case some.some t x =>
    have hx : dry x = true := by
      have := List.all_eq_true.1 h x (by
        have : args.toList[0]? = some x := by simpa using h1
        exact List.mem_of_getElem? this)
      exact this
    refine (Steady.underlying t).bind fun d => ?_
    cases x <;> simp only [dry, Bool.false_eq_true] at hx <;> cases d <;> dsimp only <;>
      repeat' (first | exact Steady.pure _ | exact (Never.stuck _).steady | exact Steady.underlying _ | contradiction | (refine Steady.bind ?_ fun _ => ?_) | split)
  all_goals exact (Never.stuck _).steady

theorem st_min2 {x y : Value} (hx : dry x = true) (hy : dry y = true) : Steady P (Builtin.min2 x y) := by
  cases x <;> simp only [dry, Bool.false_eq_true] at hx <;> cases y <;> simp only [dry, Bool.false_eq_true] at hy <;> dsimp only [Builtin.min2]
  all_goals repeat' (first | exact Steady.pure _ | exact (Never.stuck _).steady | exact Steady.stringOp _ _ _ | exact Steady.asBool _ | (refine Steady.bind ?_ fun _ => ?_))

theorem st_max2 {x y : Value} (hx : dry x = true) (hy : dry y = true) : Steady P (Builtin.max2 x y) := by
  cases x <;> simp only [dry, Bool.false_eq_true] at hx <;> cases y <;> simp only [dry, Bool.false_eq_true] at hy <;> dsimp only [Builtin.max2]
  all_goals repeat' (first | exact Steady.pure _ | exact (Never.stuck _).steady | exact Steady.stringOp _ _ _ | exact Steady.asBool _ | (refine Steady.bind ?_ fun _ => ?_))

theorem two_of_size {α : Type} {a : Array α} (h : a.size = 2) : ∃ x y, a = #[x, y] := by
  obtain ⟨l⟩ := a
  match l, h with
  | [x, y], _ => exact ⟨x, y, rfl⟩

theorem st_convert_int {s d : TypeId} (hs : isIntT P s = true) (hd : isIntT P d = true) {x : Value} (hx : dry x = true) : Steady P (convert s d x) := by
  unfold isIntT at hs hd
  cases h1 : P.underlying s with
  | none => simp [h1] at hs
  | some ds =>
    cases h2 : P.underlying d with
    | none => simp [h2] at hd
    | some dd =>
      rw [h1] at hs
      rw [h2] at hd
      cases ds <;> simp only [Bool.false_eq_true] at hs
      cases dd <;> simp only [Bool.false_eq_true] at hd
      have e1 : ∀ w, (underlying s).run P w = .ok (.int _) w := fun w => by simp [underlying, h1]; rfl
      have e2 : ∀ w, (underlying d).run P w = .ok (.int _) w := fun w => by simp [underlying, h2]; rfl
      intro w r w' e
      unfold convert at e ⊢
      simp only [Sem.run_bind, e1, e2, Result.andThen_ok] at e ⊢
      cases x <;> simp only [dry, Bool.false_eq_true] at hx <;> simp [Conv.intToInt] at e ⊢
      obtain ⟨rfl, rfl⟩ := e
      exact ⟨rfl, rfl⟩

/-- Comes back ok with the same value in every world, and leaves the world alone; nothing but a value comes. -/
def Free (P : Program) (s : Sem Next) : Prop := ∀ w r w', s.run P w = .ok r w' → w' = w ∧ ∃ v, r = .value v ∧ ∀ w2, s.run P w2 = .ok (.value v) w2

theorem free_pure (v : Value) : Free P (pure (Next.value v)) := by
  intro w r w' h
  simp only [Sem.run_pure, Result.ok.injEq] at h
  obtain ⟨rfl, rfl⟩ := h
  exact ⟨rfl, _, rfl, fun _ => rfl⟩

theorem free_lift {s : Sem Value} (h : Steady P s) : Free P (do pure (Next.value (← s))) := by
  intro w r w' e
  simp only [Sem.run_bind] at e
  cases hs : s.run P w with
  | halt x w1 => rw [hs] at e; simp at e
  | ok a w1 =>
    rw [hs] at e
    simp only [Result.andThen_ok, Sem.run_pure, Result.ok.injEq] at e
    obtain ⟨rfl, rfl⟩ := e
    obtain ⟨rfl, h2⟩ := h _ _ _ hs
    exact ⟨rfl, a, rfl, fun w2 => by simp only [Sem.run_bind, h2 w2, Result.andThen_ok, Sem.run_pure]⟩

theorem free_bind {α : Type} {s : Sem α} {f : α → Sem Next} (h : Steady P s) (hf : ∀ a, Free P (f a)) : Free P (s >>= f) := by
  intro w r w' e
  simp only [Sem.run_bind] at e
  cases hs : s.run P w with
  | halt x w1 => rw [hs] at e; simp at e
  | ok a w1 =>
    rw [hs] at e
    simp only [Result.andThen_ok] at e
    obtain ⟨rfl, h2⟩ := h _ _ _ hs
    obtain ⟨rfl, v, rfl, h3⟩ := hf _ _ _ _ e
    exact ⟨rfl, v, rfl, fun w2 => by simp only [Sem.run_bind, h2 w2, Result.andThen_ok]; exact h3 w2⟩

theorem Never.free {s : Sem Next} (h : Never P s) : Free P s := fun w r w' e => (h w r w' e).elim

/-- Class 0. -/
theorem steady0 {op : Op} (h : opCls P op = 0) (ρ : Operand → Value) (dst : Option Tmp) (t : TypeId) (pos : String) (af : Array Edge) (g : Option (Nat × Bool)) :
    Free P (execOp ρ ⟨dst, op, t, pos, af, g⟩) := by
  cases op <;> simp only [opCls] at h <;> first
    | exact absurd h (by decide)
    | (exfalso; revert h; repeat' split
       all_goals (simp; done))
    | skip
  case fieldAddr s x f =>
    by_cases hs : fldSized P s f = true
    · exact free_lift (st_fieldAt hs _)
    · simp [hs] at h
  case move => exact free_pure _
  case assign => exact free_pure _
  case extract => exact free_lift (Steady.extract _ _)
  case field => exact free_lift (Steady.field _ _ _)
  case index => exact free_lift (Steady.index _ _ _)
  case indexAddr => exact free_lift (Steady.indexAt _ _ _)
  case slice => exact free_lift (Steady.sliceAt _ _ _ _ _)
  case makeInterface => exact free_lift (Steady.makeInterface _ _)
  case sliceToArrayPointer => exact free_lift (Steady.arrayAt _ _)
  case unOp => exact free_lift (Steady.unary _ _)
  case pick c x y => exact free_bind (Steady.asBool _) fun b => free_pure _
  case call c =>
    exfalso
    obtain ⟨callee, args, ts⟩ := c
    cases callee with
    | value f => simp at h
    | invoke r m => simp at h
    | builtin b =>
      cases b <;> simp only at h <;> first
        | exact absurd h (by decide)
        | (revert h; split <;> simp)

theorem st_resolve (ρ : Operand → Value) (b : Builtin) (args : Array Operand) (ts : Array TypeId) (t : TypeId) :
    resolve ρ { callee := .builtin b, args, argTypes := ts } t = pure { target := .builtin b ts t (args.map fun | .const _ => true | _ => false), args := args.map ρ } := rfl

/-- Class 1. -/
theorem steady1 {op : Op} (h : opCls P op = 1) {ρ : Operand → Value} (hf : fitsOp ρ op = true) (dst : Option Tmp) (t : TypeId) (pos : String) (af : Array Edge) (g : Option (Nat × Bool)) :
    Free P (execOp ρ ⟨dst, op, t, pos, af, g⟩) := by
  cases op <;> simp only [opCls] at h <;> first
    | exact absurd h (by decide)
    | skip
  case fieldAddr s x f => exfalso; revert h; split <;> simp
  case nilCheck x =>
    simp only [fitsOp] at hf
    unfold execOp
    dsimp only
    cases hx : ρ x <;> simp only [hx, dry, Bool.false_eq_true] at hf
    case pointer a => cases a <;> first | exact free_pure _ | exact (Never.runtimePanic _).free
    all_goals exact free_pure _
  case binOp o t x y t2 =>
    refine free_lift ?_
    simp only [fitsOp] at hf
    split at hf
    · rename_i h1 h2; rw [h1, h2]; exact (st_eqGuard_ptr _ _ _ _ _ _).bind fun _ => (st_equal_nil _ _).bind fun _ => Steady.pure _
    · rename_i h1 h2; rw [h1, h2]; exact (st_eqGuard_ptr _ _ _ _ _ _).bind fun _ => (st_equal_nil _ _).bind fun _ => Steady.pure _
    · rename_i h1 h2; rw [h1, h2]; exact (st_eqGuard_ptr _ _ _ _ _ _).bind fun _ => (st_equal_nil' _ _).bind fun _ => Steady.pure _
    · rename_i h1 h2; rw [h1, h2]; exact (st_eqGuard_ptr _ _ _ _ _ _).bind fun _ => (st_equal_nil' _ _).bind fun _ => Steady.pure _
    · simp only [Bool.and_eq_true] at hf
      exact (st_eqGuard_dry _ _ _ _ hf.1).bind fun _ => st_binOp_dry _ _ hf.1 hf.2
  case convert s d x =>
    refine free_lift ?_
    simp only [fitsOp] at hf
    by_cases hs : (isIntT P s && isIntT P d) = true
    · simp only [Bool.and_eq_true] at hs
      exact st_convert_int hs.1 hs.2 hf
    · exfalso; revert h; rw [if_neg hs]; split <;> simp
  case call c =>
    obtain ⟨callee, args, ts⟩ := c
    cases callee with
    | value f => simp at h
    | invoke r m => simp at h
    | builtin b =>
      simp only [fitsOp] at hf
      have hall : (args.map ρ).toList.all dry = true := by
        rw [Array.toList_map, List.all_map]
        exact hf
      unfold execOp
      simp only [st_resolve, pure_bind]
      unfold invoke
      dsimp only
      cases b <;> simp only at h <;> first
        | exact absurd h (by decide)
        | exact free_lift (st_len hall _ _)
        | skip
      all_goals
        have hsz : args.size = 2 := by
          by_cases hsz : args.size = 2
          · exact hsz
          · simp [hsz] at h
        obtain ⟨x, y, rfl⟩ := two_of_size hsz
        simp only [List.map_toArray, List.map_cons, List.map_nil, List.all_cons, List.all_nil, Bool.and_true, Bool.and_eq_true] at hall
        refine free_lift ?_
        first
          | (unfold Builtin.max_
             simp only [List.map_toArray, List.map_cons, List.map_nil, List.foldlM_cons, List.foldlM_nil]
             exact (st_max2 hall.1 hall.2).bind fun _ => Steady.pure _)
          | (unfold Builtin.min_
             simp only [List.map_toArray, List.map_cons, List.map_nil, List.foldlM_cons, List.foldlM_nil]
             exact (st_min2 hall.1 hall.2).bind fun _ => Steady.pure _)

/-! ### Class 2: it reads -/

theorem Reads.load (a : Addr) (m : Go.Mode) : Reads P (Go.load a m) := by
  intro w r w' h
  simp only [run_load] at h
  repeat' split at h
  all_goals simp at h
  all_goals exact h.2.symm

theorem Reads.loadCellsFrom (a : Addr) : ∀ (n i : Nat) (acc : Array Value), Reads P (Go.loadCellsFrom a i n acc)
  | 0, _, _ => (Steady.pure _).reads
  | n + 1, i, acc => by
    unfold Go.loadCellsFrom
    exact (Reads.load _ _).bind fun _ => Reads.loadCellsFrom a n _ _

theorem Reads.loadCells (a : Addr) (n : Nat) : Reads P (Go.loadCells a n) := Reads.loadCellsFrom a n 0 #[]

theorem Reads.loadVar (t : TypeId) (a : Addr) : Reads P (Go.loadVar t a) := by
  unfold Go.loadVar
  refine (Steady.isAgg t).reads.bind fun b => ?_
  split
  · exact (Steady.sizeOf t).reads.bind fun n => (Reads.loadCells _ _).bind fun _ => (Steady.pure _).reads
  · exact Reads.load _ _

theorem Reads.list_forIn {α β : Type} (l : List α) (f : α → β → Sem (ForInStep β)) (hf : ∀ a b, Reads P (f a b)) : ∀ b, Reads P (forIn l b f) := by
  induction l with
  | nil => intro b; simp only [List.forIn_nil]; exact (Steady.pure _).reads
  | cons x l ih =>
    intro b
    simp only [List.forIn_cons]
    refine (hf _ _).bind fun s => ?_
    cases s with
    | done b => exact (Steady.pure _).reads
    | yield b => exact ih b

theorem Reads.bytesToString (v : Value) : Reads P (Conv.bytesToString v) := by
  unfold Conv.bytesToString
  cases v <;> dsimp only <;> try exact (Never.stuck _).steady.reads
  case slice a len cap =>
    cases a with
    | none => exact (Steady.pure _).reads
    | some a =>
      dsimp only
      refine (Reads.loadCells _ _).bind fun cs => ?_
      refine Reads.bind ?_ fun _ => (Steady.pure _).reads
      rw [← Array.forIn_toList]
      refine Reads.list_forIn _ _ (fun c b => ?_) _
      split
      · exact (Steady.pure _).reads
      · exact (Never.stuck _).steady.reads

theorem Reads.runesToString (v : Value) : Reads P (Conv.runesToString v) := by
  unfold Conv.runesToString
  cases v <;> dsimp only <;> try exact (Never.stuck _).steady.reads
  case slice a len cap =>
    cases a with
    | none => exact (Steady.pure _).reads
    | some a =>
      dsimp only
      refine (Reads.loadCells _ _).bind fun cs => ?_
      refine Reads.bind ?_ fun _ => (Steady.pure _).reads
      rw [← Array.forIn_toList]
      refine Reads.list_forIn _ _ (fun c b => ?_) _
      split
      · exact (Steady.pure _).reads
      · exact (Never.stuck _).steady.reads

/-- It reads, and nothing but a value comes. -/
def Peeks (P : Program) (s : Sem Next) : Prop := ∀ w r w', s.run P w = .ok r w' → w' = w ∧ ∃ v, r = .value v

theorem peeks_lift {s : Sem Value} (h : Reads P s) : Peeks P (do pure (Next.value (← s))) := by
  intro w r w' e
  simp only [Sem.run_bind] at e
  cases hs : s.run P w with
  | halt x w1 => rw [hs] at e; simp at e
  | ok a w1 =>
    rw [hs] at e
    simp only [Result.andThen_ok, Sem.run_pure, Result.ok.injEq] at e
    obtain ⟨rfl, rfl⟩ := e
    exact ⟨h _ _ _ hs, a, rfl⟩

theorem Reads.convert_str {s d : TypeId} (hs : isSliceT P s = true) (hd : isStrT P d = true) (x : Value) : Reads P (convert s d x) := by
  unfold isSliceT at hs
  unfold isStrT at hd
  cases h1 : P.underlying s with
  | none => simp [h1] at hs
  | some ds =>
    cases h2 : P.underlying d with
    | none => simp [h2] at hd
    | some dd =>
      rw [h1] at hs
      rw [h2] at hd
      cases ds <;> simp only [Bool.false_eq_true] at hs
      cases dd <;> simp only [Bool.false_eq_true] at hd
      have e1 : ∀ w, (underlying s).run P w = .ok (.slice _) w := fun w => by simp [underlying, h1]; rfl
      have e2 : ∀ w, (underlying d).run P w = .ok .string w := fun w => by simp [underlying, h2]
      intro w r w' e
      unfold convert at e
      simp only [Sem.run_bind, e1, e2, Result.andThen_ok] at e
      revert e
      have key : ∀ (y : Sem Value), Reads P y → (y.run P w = .ok r w' → w' = w) := fun y hy => hy w r w'
      cases x <;> dsimp only
      case int k n => exact key _ (by unfold Conv.intToString; exact (Steady.pure _).reads)
      case string => exact key _ (Steady.pure _).reads
      all_goals
        refine key _ ((Steady.underlying _).reads.bind fun d => ?_)
        split
        · exact Reads.bytesToString _
        · exact Reads.runesToString _
        · exact (Never.stuck _).steady.reads

/-- Class 2. -/
theorem peeks2 {op : Op} (h : opCls P op = 2) (ρ : Operand → Value) (dst : Option Tmp) (t : TypeId) (pos : String) (af : Array Edge) (g : Option (Nat × Bool)) :
    Peeks P (execOp ρ ⟨dst, op, t, pos, af, g⟩) := by
  cases op <;> simp only [opCls] at h <;> first
    | exact absurd h (by decide)
    | skip
  case fieldAddr s x f => exfalso; revert h; split <;> simp
  case load t x => exact peeks_lift ((Steady.sureAddr _).reads.bind fun a => Reads.loadVar _ _)
  case convert s d x =>
    by_cases hs : (isIntT P s && isIntT P d) = true
    · exfalso; revert h; rw [if_pos hs]; simp
    · rw [if_neg hs] at h
      by_cases hs2 : (isSliceT P s && isStrT P d) = true
      · simp only [Bool.and_eq_true] at hs2
        exact peeks_lift (Reads.convert_str hs2.1 hs2.2 _)
      · exfalso; revert h; rw [if_neg hs2]; simp
  case call c =>
    exfalso
    obtain ⟨callee, args, ts⟩ := c
    cases callee with
    | value f => simp at h
    | invoke r m => simp at h
    | builtin b =>
      cases b <;> simp only at h <;> first
        | exact absurd h (by decide)
        | (revert h; split <;> simp)


/-! ### The order -/

def pairOk (P : Program) (ops : Array Oper) (x y : Oper) : Bool :=
  x.apart ops y && (opCls P x.op ≤ 1 || opCls P y.op ≤ 1 || (opCls P x.op == 2 && opCls P y.op == 2))

/-- Every slot that an operation of class 1 looks at is written by operations that it waits for, alone. -/
def settled (P : Program) (ops : Array Oper) : Bool :=
  ops.toList.all fun o => opCls P o.op != 1 || (List.range ops.size).all fun k =>
    match (ops[k]?).bind (·.dst) with
    | some t => !(o.looksAt ops).contains t || o.after.toList.any fun e => Region.binds .any e && e.on == k
    | none => true

/-- Which operations wait for operation i, by way of others too. -/
def behind (i : Nat) : List Oper → Array Bool → Array Bool
  | [], acc => acc
  | o :: l, acc => behind i l (acc.push (o.after.toList.any fun e => Region.binds .any e && (e.on == i || acc.getD e.on false)))

/-- What waits for no unlisted operation. -/
def Closed (ops : Array Oper) (listed : Array Bool) : Prop :=
  ∀ k ok, ops[k]? = some ok → listed.getD k true = true → ∀ e ∈ ok.after, Region.binds .any e = true → listed.getD e.on true = true

/-- Waits for i, by way of others too. -/
def Late (ops : Array Oper) (i : Nat) (o : Oper) : Prop :=
  ∀ listed, Closed ops listed → listed.getD i true = false → ∃ e ∈ o.after, Region.binds .any e = true ∧ listed.getD e.on true = false

theorem behind_spec {ops : Array Oper} {i : Nat} : ∀ (l : List Oper) (acc : Array Bool), (∀ j, l[j]? = ops[acc.size + j]?) → (∀ j oj, ops[j]? = some oj → acc.getD j false = true → Late ops i oj) →
    ∀ j oj, ops[j]? = some oj → (behind i l acc).getD j false = true → Late ops i oj
  | [], _, _, h => h
  | o :: l, acc, hl, h => by
    unfold behind
    refine behind_spec l _ (fun j => by have := hl (j + 1); simpa [Nat.add_assoc, Nat.add_comm 1 j] using this) ?_
    intro j oj hj hg
    rcases Nat.lt_trichotomy j acc.size with hlt | rfl | hgt
    · refine h j oj hj ?_
      simp [Array.getElem_push, hlt, Nat.lt_succ_of_lt hlt] at hg ⊢
      exact hg
    · have ho : ops[acc.size]? = some o := by have := hl 0; simpa using this.symm
      rw [hj] at ho
      cases ho
      simp only [Array.getD_eq_getD_getElem?, Array.getElem?_push_size, Option.getD_some] at hg
      obtain ⟨e, he, hb⟩ := List.any_eq_true.1 hg
      simp only [Bool.and_eq_true, Bool.or_eq_true, beq_iff_eq] at hb
      intro listed hc hi
      refine ⟨e, by simpa using he, hb.1, ?_⟩
      rcases hb.2 with hb2 | hb2
      · rw [hb2]; exact hi
      · have hlt : e.on < acc.size := by
          rcases Nat.lt_or_ge e.on acc.size with h' | h'
          · exact h'
          · simp [Array.getElem?_eq_none h'] at hb2
        have hle : acc.size < ops.size := (Array.getElem?_eq_some_iff.1 hj).1
        have hoe : ops[e.on]? = some ops[e.on] := Array.getElem?_eq_getElem (by omega)
        obtain ⟨e2, he2, hb3, hg2⟩ := h e.on _ hoe (by simpa using hb2) listed hc hi
        cases hx : listed.getD e.on true with
        | false => rfl
        | true => rw [hc e.on _ hoe hx e2 he2 hb3] at hg2; cases hg2
    · rw [Array.getD_eq_getD_getElem?, Array.getElem?_eq_none (by rw [Array.size_push]; omega)] at hg
      cases hg

theorem getD_up {listed : Array Bool} {k : Nat} (h : listed.getD k false = true) : listed.getD k true = true := by
  rcases Nat.lt_or_ge k listed.size with h' | h'
  · simp [h'] at h ⊢; exact h
  · simp [Array.getElem?_eq_none h'] at h

theorem Closed.set {ops : Array Oper} {listed : Array Bool} (h : Closed ops listed) {j : Nat} (hj : j ∈ Region.ready .any ops listed) : Closed ops (listed.setIfInBounds j true) := by
  intro k ok hk hl e he hb
  have up : listed.getD e.on true = true → (listed.setIfInBounds j true).getD e.on true = true := by
    intro hx
    by_cases hje : j = e.on
    · subst hje
      rcases Nat.lt_or_ge e.on listed.size with h' | h' <;> simp [h']
    · rw [getD_set_ne true hje]; exact hx
  by_cases hjk : j = k
  · subst hjk
    obtain ⟨_, o, ho, hall⟩ := mem_ready.1 hj
    rw [hk] at ho
    cases ho
    exact up (getD_up (hall e he hb))
  · rw [getD_set_ne true hjk] at hl
    exact up (h k ok hk hl e he hb)

theorem Closed.start (ops : Array Oper) : Closed ops (Array.replicate ops.size false) := by
  intro k ok hk hl
  have hlt : k < ops.size := (Array.getElem?_eq_some_iff.1 hk).1
  simp [hlt] at hl

theorem not_late {ops : Array Oper} {listed : Array Bool} (h : Closed ops listed) {i j : Nat} {oj : Oper} (hoj : ops[j]? = some oj) (hj : j ∈ Region.ready .any ops listed) (hi : listed.getD i true = false) : ¬ Late ops i oj := by
  intro hl
  obtain ⟨e, he, hb, hg⟩ := hl listed h hi
  obtain ⟨_, o, ho, hall⟩ := mem_ready.1 hj
  rw [hoj] at ho
  cases ho
  rw [getD_up (hall e he hb)] at hg
  cases hg

def freeHere (P : Program) (ops : Array Oper) (listed : Array Bool) (i : Nat) : Bool :=
  match ops[i]? with
  | none => false
  | some oi => (List.range ops.size).all fun j => j == i || listed.getD j true ||
    match ops[j]? with
    | none => true
    | some oj => (behind i ops.toList #[]).getD j false || pairOk P ops oi oj

def textFrom (P : Program) (ops : Array Oper) : Nat → Nat → Array Bool → Bool
  | 0, _, listed => (Region.ready .any ops listed).isEmpty
  | fuel + 1, k, listed => (Region.ready .any ops listed).contains k && freeHere P ops listed k && textFrom P ops fuel (k + 1) (listed.setIfInBounds k true)

def textB (P : Program) (ops : Array Oper) : Bool :=
  Region.noSelect ops && settled P ops && textFrom P ops ops.size 0 (Array.replicate ops.size false)

/-- At a region's end: the operands of all operations of class 1 fit. -/
def plainAt (P : Program) (ops : Array Oper) (a : Act) : Bool :=
  ops.toList.all fun o => opCls P o.op != 1 || !Region.wanted o (yielded ops a.tmps) || fitsOp a.eval o.op

section
variable {ops : Array Oper} {T : Exit → Act → World → Prop}

theorem free_of_cls {o : Oper} {a : Act} (h : opCls P o.op ≤ 1) (hf : opCls P o.op = 1 → fitsOp a.eval o.op = true) : Free P (execOp a.eval o) := by
  obtain ⟨dst, op, t, pos, af, g⟩ := o
  dsimp only at h hf
  by_cases h0 : opCls P op = 0
  · exact steady0 h0 _ _ _ _ _ _
  · have h1 : opCls P op = 1 := by omega
    exact steady1 h1 (hf h1) _ _ _ _ _

theorem not_lets (hT : ∀ e a w, T e a w → e = .normal) : ¬ LetsOut T := by
  rintro ⟨a, w, h⟩
  have := hT _ _ _ h
  cases this

/-- What an operation that goes through leaves. -/
theorem wpOp_some (hT : ∀ e a w, T e a w → e = .normal) {i : Nat} {o : Oper} (ho : ops[i]? = some o) {K : Act → World → Prop} {a : Act} {w : World} (h : wpOp P ops T i K a w) :
    ∃ a1 w1, K a1 w1 ∧ ∀ t, o.dst ≠ some t → a1.tmps[t]? = a.tmps[t]? := by
  have keep : ∀ (d : List Deferred) (v : Value) (t : Nat), o.dst ≠ some t → (({ a with defers := d } : Act).put o.dst v).tmps[t]? = a.tmps[t]? := by
    intro d v t ht
    cases hd : o.dst with
    | none => rfl
    | some x =>
      have hne : x ≠ t := fun e => ht (by rw [hd, e])
      simp [Act.put, Array.getElem?_setIfInBounds_ne hne]
  unfold wpOp at h
  simp only [ho] at h
  split at h
  · rcases h with h | ⟨_, hl⟩
    case inr => exact (not_lets hT hl).elim
    unfold Oper.wp at h
    generalize (execOp a.eval o).run P w = r at h
    cases r with
    | ok n w' =>
      cases n <;> simp only [Oper.upon] at h
      case value u => exact ⟨_, _, h, keep a.defers u⟩
      case skip => exact ⟨_, _, h, keep a.defers _⟩
      case defer d => exact ⟨_, _, h, keep _ _⟩
      case enter f args =>
        obtain ⟨e, w'', fr, hR, _⟩ := h []
        cases e with
        | returned v => exact ⟨_, _, hR, keep a.defers v⟩
        | panicked c => have := hT _ _ _ hR; cases this
        | outgrown => exact (not_lets hT hR).elim
      case row row args =>
        obtain ⟨v, w'', hR, _⟩ := h default []
        exact ⟨_, _, hR, keep a.defers v⟩
    | halt x w' =>
      cases x <;> simp only [Oper.upon] at h
      case panic u => have := hT _ _ _ h; cases this
  · exact ⟨_, _, h, keep a.defers _⟩

theorem wpAny_some (hT : ∀ e a w, T e a w → e = .normal) : ∀ (fuel : Nat) (listed : Array Bool) (a : Act) (w : World), wpAny P .any ops T fuel listed a w →
    ∃ a' w', T .normal a' w' ∧ ∀ t, (∀ j o, ops[j]? = some o → listed.getD j true = false → o.dst ≠ some t) → a'.tmps[t]? = a.tmps[t]?
  | 0, _, a, w, h => ⟨a, w, h.2, fun _ _ => rfl⟩
  | fuel + 1, listed, a, w, h => by
    cases hr : Region.ready .any ops listed with
    | nil => exact ⟨a, w, h.1 hr, fun _ _ => rfl⟩
    | cons i rs =>
      have hi : i ∈ Region.ready .any ops listed := by rw [hr]; simp
      obtain ⟨hun, oi, hoi, _⟩ := mem_ready.1 hi
      obtain ⟨a1, w1, h1, k1⟩ := wpOp_some hT hoi (h.2 i hi)
      obtain ⟨a2, w2, h2, k2⟩ := wpAny_some hT fuel _ a1 w1 h1
      refine ⟨a2, w2, h2, fun t ht => ?_⟩
      rw [k2 t fun j o hj hu => ?_, k1 t (ht i oi hoi hun)]
      refine ht j o hj ?_
      by_cases hij : i = j
      · subst hij; exact hun
      · rw [getD_set_ne true hij] at hu; exact hu

theorem yields_of {oj : Oper} {j : Nat} (hoj : ops[j]? = some oj) (hT : ∀ e a w, T e a w → e = .normal) {a : Act} {w : World} {K : Act → World → Prop} (hf : Region.wanted oj (yielded ops a.tmps) = true → Free P (execOp a.eval oj))
    (h : wpOp P ops T j K a w) : ∃ v, Yields P ops oj v a ∧ K (a.put oj.dst v) w := by
  unfold wpOp at h
  simp only [hoj] at h
  split at h
  · rename_i hw
    rcases h with h | ⟨_, hl⟩
    case inr => exact (not_lets hT hl).elim
    unfold Oper.wp at h
    cases hr : (execOp a.eval oj).run P w with
    | ok n w' =>
      obtain ⟨rfl, v, rfl, h2⟩ := hf hw _ _ _ hr
      rw [hr] at h
      exact ⟨v, .inl ⟨hw, h2⟩, h⟩
    | halt x w' =>
      rw [hr] at h
      cases x <;> simp only [Oper.upon] at h
      case panic u => have := hT _ _ _ h; cases this
  · rename_i hw
    exact ⟨undef, .inr ⟨by simpa using hw, rfl⟩, h⟩

/-- An operation that yields its value whatever the world, met: it goes on with that value. -/
theorem of_yields {oj : Oper} {j : Nat} (hoj : ops[j]? = some oj) (hT : ∀ e a w, T e a w → e = .normal) {a : Act} {w : World} {K : Act → World → Prop} {v : Value} (hy : Yields P ops oj v a)
    (h : wpOp P ops T j K a w) : K (a.put oj.dst v) w := by
  unfold wpOp at h
  simp only [hoj] at h
  rcases hy with ⟨hw, hv⟩ | ⟨hw, rfl⟩
  · rw [if_pos hw] at h
    rcases h with h | ⟨_, hl⟩
    case inr => exact (not_lets hT hl).elim
    unfold Oper.wp at h
    rw [hv w] at h
    exact h
  · rw [if_neg (by simp [hw])] at h
    exact h

/-- A free operation behind another, taken first. -/
theorem wpOp_shift {i j : Nat} {oi oj : Oper} {v : Value} (hoi : ops[i]? = some oi) (hoj : ops[j]? = some oj) (hap : oi.apart ops oj = true)
    (hsi : ∀ cs b, oi.op ≠ .select cs b) (hsj : ∀ cs b, oj.op ≠ .select cs b) (hT : ∀ e a w, T e a w → e = .normal) {K : Act → World → Prop} {a : Act} {w : World}
    (hy : Yields P ops oj v a) (h : wpOp P ops T i (fun a' w' => wpOp P ops T j K a' w') a w) : wpOp P ops T i K (a.put oj.dst v) w := by
  obtain ⟨h1, h2, h3⟩ := Oper.apart_spec hap
  have keep : ∀ (d : List Deferred) (u : Value), Yields P ops oj v (({ a with defers := d } : Act).put oi.dst u) := fun d u =>
    hy.of_same (execOp_put oj hsj { a with defers := d } oi.dst u h1) (wanted_put oj { a with defers := d } oi.dst u h1)
  have comm : ∀ (d : List Deferred) (u : Value), (({ a with defers := d } : Act).put oi.dst u).put oj.dst v = ({ a.put oj.dst v with defers := d } : Act).put oi.dst u := fun d u => by
    rw [Act.put_comm _ u v h2]
    cases oj.dst <;> rfl
  have go : ∀ (d : List Deferred) (u : Value) (w' : World), wpOp P ops T j K (({ a with defers := d } : Act).put oi.dst u) w' → K (({ a.put oj.dst v with defers := d } : Act).put oi.dst u) w' := fun d u w' hh => by
    rw [← comm d u]; exact of_yields hoj hT (keep d u) hh
  have hdef : (a.put oj.dst v).defers = a.defers := by cases oj.dst <;> rfl
  have same : ∀ u, ({ a.put oj.dst v with defers := a.defers } : Act).put oi.dst u = (a.put oj.dst v).put oi.dst u := fun u => by
    cases hd : oj.dst <;> rfl
  unfold wpOp at h
  unfold wpOp
  simp only [hoi] at h ⊢
  rw [wanted_put oi a oj.dst v h3]
  split
  · rename_i hw
    rw [if_pos hw] at h
    rcases h with h | ⟨_, hl⟩
    case inr => exact (not_lets hT hl).elim
    refine .inl ?_
    unfold Oper.wp at *
    rw [execOp_put oi hsi a oj.dst v h3]
    generalize (execOp a.eval oi).run P w = r at *
    cases r with
    | ok n w' =>
      cases n <;> simp only [Oper.upon] at h ⊢
      case value u => have := go a.defers u w' h; rwa [same] at this
      case skip => have := go a.defers undef w' h; rwa [same] at this
      case defer d => have := go (d :: a.defers) undef w' h; rw [hdef]; exact this
      case enter f args =>
        refine Calls.mono h fun e w'' he => ?_
        cases e with
        | returned u => have := go a.defers u w'' he; rwa [same] at this
        | panicked c => have := hT _ _ _ he; cases this
        | outgrown => exact he
      case row row args =>
        refine Rows.mono h fun u w'' he => ?_
        have := go a.defers u w'' he; rwa [same] at this
    | halt x w' =>
      cases x <;> simp only [Oper.upon] at h ⊢
      case panic u => have := hT _ _ _ h; cases this
  · rename_i hw
    rw [if_neg hw] at h
    have := go a.defers undef w h; rwa [same] at this

/-- Two that read. -/
theorem wpOp_reads {i j : Nat} {oi oj : Oper} (hoi : ops[i]? = some oi) (hoj : ops[j]? = some oj) (hap : oi.apart ops oj = true)
    (hsi : ∀ cs b, oi.op ≠ .select cs b) (hsj : ∀ cs b, oj.op ≠ .select cs b) (hT : ∀ e a w, T e a w → e = .normal) {K : Act → World → Prop} {a : Act} {w : World}
    (hi : opCls P oi.op = 2) (hj : opCls P oj.op = 2) (h : wpOp P ops T i (fun a' w' => wpOp P ops T j K a' w') a w) : wpOp P ops T j (fun a' w' => wpOp P ops T i K a' w') a w := by
  obtain ⟨h1, h2, h3⟩ := Oper.apart_spec hap
  have look : ∀ (k : Nat) (o : Oper) (b : Act) (u : World) (K : Act → World → Prop), ops[k]? = some o → opCls P o.op = 2 → wpOp P ops T k K b u →
      ∃ v, K (b.put o.dst v) u ∧ ((Region.wanted o (yielded ops b.tmps) = true ∧ (execOp b.eval o).run P u = .ok (.value v) u) ∨ (Region.wanted o (yielded ops b.tmps) = false ∧ v = undef)) := by
    intro k o b u K hk hc h
    obtain ⟨dst, op, t, pos, af, g⟩ := o
    unfold wpOp at h
    simp only [hk] at h
    split at h
    · rename_i hw
      rcases h with h | ⟨_, hl⟩
      case inr => exact (not_lets hT hl).elim
      unfold Oper.wp at h
      cases hr : (execOp b.eval ⟨dst, op, t, pos, af, g⟩).run P u with
      | ok n w' =>
        obtain ⟨rfl, v, rfl⟩ := peeks2 hc b.eval dst t pos af g _ _ _ hr
        rw [hr] at h
        exact ⟨v, h, .inl ⟨hw, rfl⟩⟩
      | halt x w' =>
        rw [hr] at h
        cases x <;> simp only [Oper.upon] at h
        case panic u => have := hT _ _ _ h; cases this
    · rename_i hw
      exact ⟨undef, h, .inr ⟨by simpa using hw, rfl⟩⟩
  have back : ∀ (k : Nat) (o : Oper) (b : Act) (u : World) (K : Act → World → Prop) (v : Value), ops[k]? = some o → K (b.put o.dst v) u →
      ((Region.wanted o (yielded ops b.tmps) = true ∧ (execOp b.eval o).run P u = .ok (.value v) u) ∨ (Region.wanted o (yielded ops b.tmps) = false ∧ v = undef)) → wpOp P ops T k K b u := by
    intro k o b u K v hk hK hh
    unfold wpOp
    simp only [hk]
    rcases hh with ⟨hw, hv⟩ | ⟨hw, rfl⟩
    · simp only [hw, if_true, Oper.wp, hv, Oper.upon]; exact .inl hK
    · simp only [hw, Bool.false_eq_true, if_false]; exact hK
  obtain ⟨u, hu, ru⟩ := look i oi a w _ hoi hi h
  obtain ⟨v, hv, rv⟩ := look j oj _ w _ hoj hj hu
  rw [wanted_put oj a oi.dst u h1, execOp_put oj hsj a oi.dst u h1] at rv
  refine back j oj a w _ v hoj (back i oi _ w _ u hoi ?_ ?_) rv
  · rw [← Act.put_comm a u v h2]; exact hv
  · rw [wanted_put oi a oj.dst v h3, execOp_put oi hsi a oj.dst v h3]; exact ru

theorem look_same {o : Oper} {a a' : Act} (hs : ∀ t ∈ o.looksAt ops, a'.tmps[t]? = a.tmps[t]?) :
    Region.wanted o (yielded ops a'.tmps) = Region.wanted o (yielded ops a.tmps) ∧ ∀ x ∈ o.op.operands, a'.eval x = a.eval x := by
  constructor
  · unfold Region.wanted
    cases hg : o.guard with
    | none => rfl
    | some gw =>
      obtain ⟨g, want⟩ := gw
      have hy : yielded ops a'.tmps g = yielded ops a.tmps g := by
        unfold yielded
        cases ht : (ops[g]?).bind (·.dst) with
        | none => rfl
        | some t =>
          have := hs t (by simp [Oper.looksAt, hg, ht])
          simp [this]
      simp only [hy]
  · intro x hx
    cases x with
    | tmp t =>
      have := hs t (List.mem_append_left _ (List.mem_filterMap.2 ⟨.tmp t, by simpa using hx, rfl⟩))
      simp [Act.eval, this]
    | _ => rfl

theorem fitsOp_congr {ρ ρ' : Operand → Value} {op : Op} (h : ∀ x ∈ op.operands, ρ x = ρ' x) : fitsOp ρ op = fitsOp ρ' op := by
  cases op <;> simp only [Op.operands] at h <;> simp only [fitsOp]
  case nilCheck x => rw [h x (by simp)]
  case binOp o t x y t2 => rw [h x (by simp), h y (by simp)]
  case convert s d x => rw [h x (by simp)]
  case call c =>
    rw [Bool.eq_iff_iff]
    simp only [List.all_eq_true]
    have hc : ∀ x ∈ c.args.toList, ρ x = ρ' x := fun x hx => h x (by simp only [Call.operands]; exact Array.mem_append.2 (.inr (by simpa using hx)))
    exact ⟨fun hh x hx => by rw [← hc x hx]; exact hh x hx, fun hh x hx => by rw [hc x hx]; exact hh x hx⟩

end

end
end Go.Txt
