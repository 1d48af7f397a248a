/-
  Field: words for rows of numbers in memory; two rows given back.
-/
import Derived.Test.YthmpdhegodmjjaaFe13
import Derived.Test.YthmpdhegodmjjaaInv
import Derived.Test.YthmpdhegodmjjaaText5
import Derived.Shelf.Abstract
namespace Go.Mem
open Go.RowKit
variable {P : Program} {w : World} {a : Act} {t : TypeId} {n : Nat}
theorem results_two {fn : Func} {p u : Tmp} {ty t2 : TypeId} (h : fn.results = #[.cell p ty, .cell u t2]) (tmps : Array Value) (P : Program) (w : World) :
    (results fn tmps).run P w =
      ((asAddr (tmps.getD p undef)).run P w).andThen fun a w₁ => ((loadVar ty a).run P w₁).andThen fun v w₂ => ((asAddr (tmps.getD u undef)).run P w₂).andThen fun a w₁ => ((loadVar t2 a).run P w₁).andThen fun v2 w₂ => .ok (.tuple #[v, v2]) w₂ := by
  simp only [results, h]
  simp [Sem.run_bind]
theorem ret_rows {fn : Func} {R : Ending → World → Prop} (T : RowT P t n) {p u : Tmp} (hres : fn.results = #[.cell p t, .cell u t]) {g g2 : Nat} (hp : a.tmps.getD p undef = .pointer (some ⟨g, 0, none⟩)) (hp2 : a.tmps.getD u undef = .pointer (some ⟨g2, 0, none⟩)) {bt bt2 : TypeId} {cs cs2 : Array Value}
    (hb : Blk w g bt cs) (hn : cs.size = n) (hb2 : Blk w g2 bt2 cs2) (hn2 : cs2.size = n) (hd : a.defers = []) (h : R (.returned (.tuple #[.agg cs, .agg cs2])) w) : bodyPost P fn R .ret a w := by
  obtain ⟨⟨d, hu, hd2⟩, hs⟩ := T
  refine bodyPost_ret ?_ hd h
  rw [results_two hres, hp, hp2]
  simp only [asAddr, Sem.run_pure, Result.andThen_ok, run_loadVar_row (P := P) w g bt t cs (0, 0) d hb hu (by cases d <;> simp_all) (by rw [hs, hn]), run_loadVar_row (P := P) w g2 bt2 t cs2 (0, 0) d hb2 hu (by cases d <;> simp_all) (by rw [hs, hn2])]
end Go.Mem
namespace Go.Proofs.Ythmpdhegodmjjaa
open Go.RowKit Go.Mem

/-- Rows that lie in memory, made since w0. -/
structure Els (w0 : World) (L : List (Nat × (Nat → Nat))) (u : World) : Prop where
  s : ∀ p ∈ L, Blk u p.1 27 (uv (fam 5 p.2)).toArray
  f : ∀ p ∈ L, w0.heap.size ≤ p.1
  k : Kept [] w0 u
theorem Els.none (w0 : World) : Els w0 [] w0 := ⟨fun _ h => absurd h (by simp), fun _ h => absurd h (by simp), Kept.refl _ _⟩
theorem Els.kept {w0 : World} {L : List (Nat × (Nat → Nat))} {u u' : World} (h : Els w0 L u) (hk : Kept [] u u') : Els w0 L u' :=
  ⟨fun p hp => (h.s p hp).kept hk (by simp), h.f, h.k.then0 hk⟩
theorem Els.cons {w0 : World} {g : Nat} {X : Nat → Nat} {L : List (Nat × (Nat → Nat))} {u : World} (h : Els w0 L u) (b : Blk u g 27 (uv (fam 5 X)).toArray) (hl : w0.heap.size ≤ g) : Els w0 ((g, X) :: L) u := by
  refine ⟨fun p hp => ?_, fun p hp => ?_, h.k⟩
  · rcases List.mem_cons.1 hp with rfl | hp
    · exact b
    · exact h.s p hp
  · rcases List.mem_cons.1 hp with rfl | hp
    · exact hl
    · exact h.f p hp
theorem Els.put {w0 : World} {g : Nat} {X : Nat → Nat} {L : List (Nat × (Nat → Nat))} {u u1 u2 : World} {t : TypeId} {cs : Array Value} (h : Els w0 L u) (m : Made u u1 g t cs) (b : Blk u2 g 27 (uv (fam 5 X)).toArray) (k : Kept [g] u1 u2) : Els w0 ((g, X) :: L) u2 := by
  have h1 := h.kept m.kept
  have hl := Nat.le_trans h.k.size m.le
  refine Els.cons ⟨fun p hp => ?_, h.f, h1.k.then1 k hl⟩ b hl
  exact (h1.s p hp).kept k (by simpa using m.ne (h.s p hp).lt)
theorem Els.fresh {w0 wr : World} {L : List (Nat × (Nat → Nat))} (hr : Els w0 L wr) (u u' : World) (T : List Nat) (h : Els w0 L u) (hk : Kept T u u') (hT : ∀ k ∈ T, wr.heap.size ≤ k) : Els w0 L u' :=
  ⟨fun p hp => (h.s p hp).kept hk fun hh => by have := hT _ hh; have := (hr.s p hp).lt; omega, h.f, h.k.fresh hk fun k hh => Nat.le_trans hr.k.size (hT k hh)⟩
theorem Els.drew {w0 : World} {L : List (Nat × (Nat → Nat))} {u : World} (h : Els w0 L u) : Els w0 L u.drew := ⟨h.s, h.f, h.k.drew⟩
/-- .. and two rows that change. -/
structure Fin (w0 : World) (g2 g3 : Nat) (L : List (Nat × (Nat → Nat))) (u : World) : Prop where
  s : ∀ p ∈ L, Blk u p.1 27 (uv (fam 5 p.2)).toArray
  f : ∀ p ∈ L, w0.heap.size ≤ p.1
  k : Kept [g2, g3] w0 u
  b2 : ∃ f : Nat → Nat, Blk u g2 27 (uv (fam 5 f)).toArray
  b3 : ∃ f : Nat → Nat, Blk u g3 27 (uv (fam 5 f)).toArray
  l2 : g2 < w0.heap.size
  l3 : g3 < w0.heap.size
  ne : g2 ≠ g3
theorem Els.fin {w0 : World} {g2 g3 : Nat} {f2 f3 : Nat → Nat} {L : List (Nat × (Nat → Nat))} {u : World} (h : Els w0 L u) (b2 : Blk w0 g2 27 (uv (fam 5 f2)).toArray) (b3 : Blk w0 g3 27 (uv (fam 5 f3)).toArray) (ne : g2 ≠ g3) : Fin w0 g2 g3 L u :=
  ⟨h.s, h.f, h.k.of0, ⟨_, b2.kept h.k (by simp)⟩, ⟨_, b3.kept h.k (by simp)⟩, b2.lt, b3.lt, ne⟩
theorem Fin.kept {w0 : World} {g2 g3 : Nat} {L : List (Nat × (Nat → Nat))} {u u' : World} (h : Fin w0 g2 g3 L u) (hk : Kept [] u u') : Fin w0 g2 g3 L u' :=
  ⟨fun p hp => (h.s p hp).kept hk (by simp), h.f, h.k.then0 hk, h.b2.elim fun f b => ⟨f, b.kept hk (by simp)⟩, h.b3.elim fun f b => ⟨f, b.kept hk (by simp)⟩, h.l2, h.l3, h.ne⟩
theorem Fin.put2 {w0 : World} {g2 g3 : Nat} {L : List (Nat × (Nat → Nat))} {u u' : World} {X : Nat → Nat} (h : Fin w0 g2 g3 L u) (b : Blk u' g2 27 (uv (fam 5 X)).toArray) (k : Kept [g2] u u') : Fin w0 g2 g3 L u' :=
  ⟨fun p hp => (h.s p hp).kept k (by have := h.f p hp; have := h.l2; simp; omega), h.f, h.k.trans' (k.more fun x _ hx => by simp at hx; simp [hx]), ⟨X, b⟩, h.b3.elim fun f b => ⟨f, b.kept k (by simpa using Ne.symm h.ne)⟩, h.l2, h.l3, h.ne⟩
theorem Fin.put3 {w0 : World} {g2 g3 : Nat} {L : List (Nat × (Nat → Nat))} {u u' : World} {X : Nat → Nat} (h : Fin w0 g2 g3 L u) (b : Blk u' g3 27 (uv (fam 5 X)).toArray) (k : Kept [g3] u u') : Fin w0 g2 g3 L u' :=
  ⟨fun p hp => (h.s p hp).kept k (by have := h.f p hp; have := h.l3; simp; omega), h.f, h.k.trans' (k.more fun x _ hx => by simp at hx; simp [hx]), h.b2.elim fun f b => ⟨f, b.kept k (by simpa using h.ne)⟩, ⟨X, b⟩, h.l2, h.l3, h.ne⟩
theorem enters_square (xs : Array Value) (w : World) : (callFunc 39 xs).run Try.prog w = .ok (.enter 39 xs) w := enters_of (c := _) Try.func39 (by kernel_rfl) rfl xs w
theorem enters_squared (xs : Array Value) (w : World) : (callFunc 37 xs).run Try.prog w = .ok (.enter 37 xs) w := enters_of (c := _) Try.func37 (by kernel_rfl) rfl xs w
theorem enters_mul (xs : Array Value) (w : World) : (callFunc 15 xs).run Try.prog w = .ok (.enter 15 xs) w := enters_of (c := _) Try.func15 (by kernel_rfl) rfl xs w
end Go.Proofs.Ythmpdhegodmjjaa
