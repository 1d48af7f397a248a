/-
  Digests: Sum512 of known bytes, so that the kernel can reckon it.
-/
import Derived.Test.YtdbngnlpafcogaaSq4
namespace Go.Proofs.Ytdbngnlpafcogaa.Q
open Go.RowKit Go.Mem Go.Txt

/-- A word, reckoned first. -/
def fcN {α : Type} (n : Nat) (f : Nat → α) : α := match n with
  | 0 => f 0
  | k + 1 => f (k + 1)
theorem fcN_eq {α : Type} (n : Nat) (f : Nat → α) : fcN n f = f n := by cases n <;> rfl
def fcB {α : Type} (x : B64) (f : B64 → α) : α := fcN x.toNat fun n => f (BitVec.ofNat 64 n)
theorem fcB_eq {α : Type} (x : B64) (f : B64 → α) : fcB x f = f x := by unfold fcB; rw [fcN_eq, BitVec.ofNat_toNat, BitVec.setWidth_eq]
/-- The schedule's next word. -/
def nxtB (w : List B64) : B64 := ls1 (w.getD 14 0) + w.getD 9 0 + ls0 (w.getD 1 0) + w.getD 0 0
/-- The rounds. -/
def goB : List Nat → List B64 → B64 → B64 → B64 → B64 → B64 → B64 → B64 → B64 → List B64
  | [], _, a, b, c, d, e, f, g, h => [a, b, c, d, e, f, g, h]
  | k :: ks, w, a, b, c, d, e, f, g, h =>
    fcB (h + us1 e + chB e f g + n64 k + w.getD 0 0) fun t =>
    fcB (t + (us0 a + mjB a b c)) fun x =>
    fcB (d + t) fun y =>
    fcB (nxtB w) fun z => goB ks (w.tail ++ [z]) x a b c y e f g
theorem goB_eq (p : Nat → UInt8) (h0 : Nat → B64) : ∀ (ks : List Nat) (t : Nat) (w : List B64) (a b c d e f g h : B64), (∀ j, j < ks.length → ks.getD j 0 = cubesL.getD (t + j) 0) → w.length = 16 → (∀ i, i < 16 → w.getD i 0 = sch p (t + i)) →
    rnds p h0 t 0 = a → rnds p h0 t 1 = b → rnds p h0 t 2 = c → rnds p h0 t 3 = d → rnds p h0 t 4 = e → rnds p h0 t 5 = f → rnds p h0 t 6 = g → rnds p h0 t 7 = h →
    goB ks w a b c d e f g h = (List.range 8).map (rnds p h0 (t + ks.length))
  | [], t, w, _, _, _, _, _, _, _, _, _, _, _, e0, e1, e2, e3, e4, e5, e6, e7 => by
    subst e0 e1 e2 e3 e4 e5 e6 e7
    rfl
  | k :: ks, t, w, _, _, _, _, _, _, _, _, hk, hl, hw, e0, e1, e2, e3, e4, e5, e6, e7 => by
    unfold goB
    rw [fcB_eq, fcB_eq, fcB_eq, fcB_eq]
    have ek : k = cubesL.getD t 0 := by have := hk 0 (by simp); simpa using this
    have ew : w.getD 0 0 = sch p t := hw 0 (by decide)
    have en : nxtB w = sch p (t + 16) := by
      unfold nxtB
      rw [hw 14 (by decide), hw 9 (by decide), hw 1 (by decide), hw 0 (by decide), sch_hi p (t := t + 16) (by omega)]
      rfl
    have hk2 : ∀ j, j < ks.length → ks.getD j 0 = cubesL.getD (t + 1 + j) 0 := fun j hj => by
      have := hk (j + 1) (by simp; omega)
      rw [show t + 1 + j = t + (j + 1) from by omega, ← this]
      simp
    have hw2 : ∀ i, i < 16 → (w.tail ++ [nxtB w]).getD i 0 = sch p (t + 1 + i) := fun i hi => by
      by_cases h15 : i = 15
      · subst h15
        rw [List.getD_eq_getElem?_getD, List.getElem?_append_right (by simp [hl]), show t + 1 + 15 = t + 16 from by omega, ← en]
        simp [hl]
      · have hi2 : i + 1 < 16 := by omega
        have := hw (i + 1) hi2
        rw [show t + 1 + i = t + (i + 1) from by omega, ← this, List.getD_eq_getElem?_getD, List.getElem?_append_left (by simp [hl]; omega), List.getD_eq_getElem?_getD]
        simp
    have r0 : rnds p h0 (t + 1) 0 = rnds p h0 t 7 + us1 (rnds p h0 t 4) + chB (rnds p h0 t 4) (rnds p h0 t 5) (rnds p h0 t 6) + n64 k + w.getD 0 0 + (us0 (rnds p h0 t 0) + mjB (rnds p h0 t 0) (rnds p h0 t 1) (rnds p h0 t 2)) := by
      rw [ek, ew]; rfl
    have r4 : rnds p h0 (t + 1) 4 = rnds p h0 t 3 + (rnds p h0 t 7 + us1 (rnds p h0 t 4) + chB (rnds p h0 t 4) (rnds p h0 t 5) (rnds p h0 t 6) + n64 k + w.getD 0 0) := by
      rw [ek, ew]; rfl
    subst e0 e1 e2 e3 e4 e5 e6 e7
    refine (goB_eq p h0 ks (t + 1) _ _ _ _ _ _ _ _ _ hk2 (by simp [hl]) hw2 r0 rfl rfl rfl r4 rfl rfl rfl).trans ?_
    rw [List.length_cons, show t + 1 + ks.length = t + (ks.length + 1) from by omega]
theorem cubes_len : cubesL.length = 80 := by decide +kernel
/-- Words of a block's bytes. -/
def wrB (p : Nat → UInt8) (t : Nat) : B64 := wrd p t
/-- A block, of a row of words. -/
def blkB (p : Nat → UInt8) (h : List B64) : List B64 :=
  (List.zipWith (· + ·) h (goB cubesL ((List.range 16).map (wrd p)) (h.getD 0 0) (h.getD 1 0) (h.getD 2 0) (h.getD 3 0) (h.getD 4 0) (h.getD 5 0) (h.getD 6 0) (h.getD 7 0)))
theorem blkB_eq (p : Nat → UInt8) (h : Nat → B64) : blkB p ((List.range 8).map h) = (List.range 8).map (blk p h) := by
  unfold blkB
  have hz : ∀ i, i < 8 → ((List.range 8).map h).getD i 0 = h i := fun i hi => by simp [List.getD_eq_getElem?_getD, hi]
  rw [hz 0 (by decide), hz 1 (by decide), hz 2 (by decide), hz 3 (by decide), hz 4 (by decide), hz 5 (by decide), hz 6 (by decide), hz 7 (by decide)]
  have q := goB_eq p h cubesL 0 ((List.range 16).map (wrd p)) (h 0) (h 1) (h 2) (h 3) (h 4) (h 5) (h 6) (h 7) (fun j _ => by rw [Nat.zero_add]) (by simp) (fun i hi => by
    rw [Nat.zero_add, sch_lo p hi]
    simp [List.getD_eq_getElem?_getD, hi]) rfl rfl rfl rfl rfl rfl rfl rfl
  rw [q, cubes_len]
  rfl
/-- So many blocks. -/
def blksB (b : List UInt8) : Nat → List B64
  | 0 => rootsL.map n64
  | n + 1 => blkB (fun j => b.getD (128 * n + j) 0) (blksB b n)
theorem blksB_eq (b : List UInt8) : ∀ n, blksB b n = (List.range 8).map (blks b n)
  | 0 => rfl
  | n + 1 => by unfold blksB; rw [blksB_eq b n, blkB_eq]; rfl
/-- The digest's bytes. -/
def shaB (m : List UInt8) : List UInt8 := (List.range 64).map fun j => UInt8.ofNat (((blksB (pad m) ((pad m).length / 128)).getD (j / 8) 0).toNat / 2 ^ (56 - 8 * (j % 8)))
theorem sha_shaB (m : List UInt8) : sha m = shaB m := by
  unfold sha shaB digB
  apply List.map_congr_left
  intro j hj
  have hj2 : j < 64 := List.mem_range.1 hj
  have h8 : j / 8 < 8 := by omega
  rw [blksB_eq]
  simp [List.getD_eq_getElem?_getD, h8]
end Go.Proofs.Ytdbngnlpafcogaa.Q
