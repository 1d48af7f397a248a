/-
  Field: words for products: sums of products in a row, and where they lie.
-/
import Derived.Test.YthmpdhegodmjjaaFe8
namespace Go.Proofs.Ythmpdhegodmjjaa
open Go.RowKit Go.Mem

/-- What a product, a sum answers. -/
abbrev PrC (a b s : Nat) : Prop := ∀ W, Calls Try.prog 32 #[.int .u64 a, .int .u64 b] W fun e w' => e = .returned (pr s) ∧ Kept [] W w'
abbrev PlC (x a b s : Nat) : Prop := ∀ W, Calls Try.prog 33 #[pr x, .int .u64 a, .int .u64 b] W fun e w' => e = .returned (pr s) ∧ Kept [] W w'
theorem pr_flat (x : Nat) : pr x = Value.agg #[.int .u64 (h64 x : Nat), .int .u64 (l64 x : Nat)] := rfl
abbrev GaC (T0 T1 T2 T3 T4 : Nat) (R : Nat → Nat) : Prop := ∀ W, Calls Try.prog 34 #[.agg #[.int .u64 (h64 T0 : Nat), .int .u64 (l64 T0 : Nat)], .agg #[.int .u64 (h64 T1 : Nat), .int .u64 (l64 T1 : Nat)], .agg #[.int .u64 (h64 T2 : Nat), .int .u64 (l64 T2 : Nat)], .agg #[.int .u64 (h64 T3 : Nat), .int .u64 (l64 T3 : Nat)], .agg #[.int .u64 (h64 T4 : Nat), .int .u64 (l64 T4 : Nat)]] W fun e w' => e = .returned (el R) ∧ Kept [] W w'
theorem word_lt {a b : Nat} (ha : a < 144115188075855872) (hb : b < 144115188075855872) : a * b < 20769187434139310514121985316880384 :=
  Nat.lt_of_le_of_lt (Nat.mul_le_mul (Nat.le_sub_one_of_lt ha) (Nat.le_sub_one_of_lt hb)) (by decide)
theorem chain3 {a0 b0 a1 b1 a2 b2 : Nat} (h0 : a0 < 144115188075855872 ∧ b0 < 144115188075855872) (h1 : a1 < 144115188075855872 ∧ b1 < 144115188075855872) (h2 : a2 < 144115188075855872 ∧ b2 < 144115188075855872) :
    ∃ s0 s1 s2, PrC a0 b0 s0 ∧ PlC s0 a1 b1 s1 ∧ PlC s1 a2 b2 s2 ∧ s2 = a0 * b0 + a1 * b1 + a2 * b2 := by
  have p0 := word_lt h0.1 h0.2
  have p1 := word_lt h1.1 h1.2
  have p2 := word_lt h2.1 h2.2
  exact ⟨_, _, _, fun W => product_any a0 b0 (by omega) (by omega) W, fun W => plus_any _ a1 b1 (by omega) (by omega) (by omega) W, fun W => plus_any _ a2 b2 (by omega) (by omega) (by omega) W, rfl⟩
theorem chain5 {a0 b0 a1 b1 a2 b2 a3 b3 a4 b4 : Nat} (h0 : a0 < 144115188075855872 ∧ b0 < 144115188075855872) (h1 : a1 < 144115188075855872 ∧ b1 < 144115188075855872) (h2 : a2 < 144115188075855872 ∧ b2 < 144115188075855872)
    (h3 : a3 < 144115188075855872 ∧ b3 < 144115188075855872) (h4 : a4 < 144115188075855872 ∧ b4 < 144115188075855872) :
    ∃ s0 s1 s2 s3 s4, PrC a0 b0 s0 ∧ PlC s0 a1 b1 s1 ∧ PlC s1 a2 b2 s2 ∧ PlC s2 a3 b3 s3 ∧ PlC s3 a4 b4 s4 ∧ s4 = a0 * b0 + a1 * b1 + a2 * b2 + a3 * b3 + a4 * b4 := by
  have p0 := word_lt h0.1 h0.2
  have p1 := word_lt h1.1 h1.2
  have p2 := word_lt h2.1 h2.2
  have p3 := word_lt h3.1 h3.2
  have p4 := word_lt h4.1 h4.2
  exact ⟨_, _, _, _, _, fun W => product_any a0 b0 (by omega) (by omega) W, fun W => plus_any _ a1 b1 (by omega) (by omega) (by omega) W, fun W => plus_any _ a2 b2 (by omega) (by omega) (by omega) W, fun W => plus_any _ a3 b3 (by omega) (by omega) (by omega) W, fun W => plus_any _ a4 b4 (by omega) (by omega) (by omega) W, rfl⟩

/-- Sums that lie in memory. -/
structure Sums (w0 : World) (g4 : Nat) (L : List (Nat × Nat)) (u : World) : Prop where
  r : Blk u g4 27 (uv (fam 5 nought)).toArray
  s : ∀ p ∈ L, Blk u p.1 55 (uv (prs p.2)).toArray
  k : Kept [] w0 u
  le : w0.heap.size ≤ g4
theorem Sums.kept {w0 : World} {g4 : Nat} {L : List (Nat × Nat)} {u u' : World} (h : Sums w0 g4 L u) (hk : Kept [] u u') : Sums w0 g4 L u' :=
  ⟨h.r.kept hk (by simp), fun p hp => (h.s p hp).kept hk (by simp), h.k.then0 hk, h.le⟩
theorem Sums.put {w0 : World} {g4 g T : Nat} {L : List (Nat × Nat)} {u u1 u2 : World} {t : TypeId} {cs : Array Value} (h : Sums w0 g4 L u) (m : Made u u1 g t cs) (b : Blk u2 g 55 (uv (prs T)).toArray) (k : Kept [g] u1 u2) : Sums w0 g4 ((g, T) :: L) u2 := by
  have h1 := h.kept m.kept
  have nr := m.ne h.r.lt
  refine ⟨h1.r.kept k (by simpa using nr), fun p hp => ?_, h1.k.then1 k (Nat.le_trans h.k.size m.le), h.le⟩
  rcases List.mem_cons.1 hp with rfl | hp
  · exact b
  · exact (h1.s p hp).kept k (by simpa using m.ne (h.s p hp).lt)
theorem Sums.at0 {w0 : World} {g4 g T : Nat} {L : List (Nat × Nat)} {u : World} (h : Sums w0 g4 ((g, T) :: L) u) : Blk u g 55 (uv (prs T)).toArray := h.s (g, T) (by simp)
theorem Sums.tl {w0 : World} {g4 : Nat} {p : Nat × Nat} {L : List (Nat × Nat)} {u : World} (h : Sums w0 g4 (p :: L) u) : Sums w0 g4 L u := ⟨h.r, fun q hq => h.s q (by simp [hq]), h.k, h.le⟩
end Go.Proofs.Ythmpdhegodmjjaa
