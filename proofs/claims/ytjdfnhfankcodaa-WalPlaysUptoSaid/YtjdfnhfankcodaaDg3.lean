/-
  The document's digests: words for the walk (32 bits).
-/
import Derived.Test.YtjdfnhfankcodaaDg2
import Derived.Test.YtjdfnhfankcodaaLit
namespace Go.Mem
open Go.RowKit Go.Txt
section
variable {P : Program} {w : World} {a : Act} {ops : Array Oper} {rest : List Oper} {o : Oper} {Q : Exit → Act → World → Prop} {t e : TypeId} {bytes : Nat} {z : Value}
/-- A slice literal of eight. -/
theorem wpl_bslice8 (hgd : Region.wanted o (yielded ops a.tmps) = true) (T : SliceT P t e 1 bytes z) {x0 x1 x2 x3 x4 x5 x6 x7 : Operand} (ho : o.op = .buildSlice t 8 #[(0, x0), (1, x1), (2, x2), (3, x3), (4, x4), (5, x5), (6, x6), (7, x7)]) {v0 v1 v2 v3 v4 v5 v6 v7 : Value} (h0 : a.eval x0 = v0) (h1 : a.eval x1 = v1) (h2 : a.eval x2 = v2) (h3 : a.eval x3 = v3) (h4 : a.eval x4 = v4) (h5 : a.eval x5 = v5) (h6 : a.eval x6 = v6) (h7 : a.eval x7 = v7)
    (c0 : v0.cells = #[v0]) (c1 : v1.cells = #[v1]) (c2 : v2.cells = #[v2]) (c3 : v3.cells = #[v3]) (c4 : v4.cells = #[v4]) (c5 : v5.cells = #[v5]) (c6 : v6.cells = #[v6]) (c7 : v7.cells = #[v7])
    (h : ∀ g w', Made w w' g e #[v0, v1, v2, v3, v4, v5, v6, v7] → wpList P ops Q rest (a.put o.dst (.slice (some ⟨g, 0, none⟩) 8 8)) w') : wpList P ops Q (o :: rest) a w := by
  obtain ⟨i, hi, hz, hs, hb⟩ := info_parts T.2
  have e2 : (#[(0, x0), (1, x1), (2, x2), (3, x3), (4, x4), (5, x5), (6, x6), (7, x7)].map fun (p : Nat × Operand) => (p.1, a.eval p.2)).toList = [(0, v0), (1, v1), (2, v2), (3, v3), (4, v4), (5, v5), (6, v6), (7, v7)] := by simp [h0, h1, h2, h3, h4, h5, h6, h7]
  have hf : Instr.fill (fun i => some (i * 1, 1)) ((Array.range (8 * 1)).map (z.cells[· % z.cells.size]!)) [(0, v0), (1, v1), (2, v2), (3, v3), (4, v4), (5, v5), (6, v6), (7, v7)] = some #[v0, v1, v2, v3, v4, v5, v6, v7] := by
    have hr : ∀ f : Nat → Value, (Array.range (8 * 1)).map f = #[f 0, f 1, f 2, f 3, f 4, f 5, f 6, f 7] := fun f => Array.toList_inj.1 (by rw [Array.toList_map, Array.toList_range]; rfl)
    rw [hr]
    simp [Instr.fill, c0, c1, c2, c3, c4, c5, c6, c7]
  refine wpl_wanted hgd fun _ hK => wp_buildSlice t e 8 _ ho #[v0, v1, v2, v3, v4, v5, v6, v7] i z T.1 hi hz (by rw [hs]; omega) (by rw [hs]; omega) (by rw [hs]; exact (congrArg (Instr.fill _ _) e2).trans hf) (hK _ _ (h _ _ ⟨Blk.new _ _ _, (Kept.refl [] w).alloc _, Nat.le_refl _⟩))
end
end Go.Mem
namespace Go.Proofs.Ytjdfnhfankcodaa
open Go.RowKit Go.Mem Go.Txt

/-- A number of 64 bits. -/
abbrev N64 (n : Nat) : Value := .int .u64 (n : Int)
def nL : List Nat := [2, 13, 22, 6, 11, 25, 7, 18, 3, 17, 19, 10]
theorem rep_fam {α : Type} (v : α → Value) (z : α) (N : Nat) : List.replicate N (v z) = ((fam N (fun _ => z)).map v).toArray.toList := by
  apply List.ext_getElem (by simp [fam])
  intro i h1 h2
  simp [fam]
theorem mk_words (N : Nat) (h : N ≤ 2000) : ∃ Z : Array Value, Z = ((fam N (fun _ => 0)).map N64).toArray ∧ ∀ W : World, (Instr.makeSlice 82 (.int .i64 N) (.int .i64 N)).run Try.prog W = .ok (.slice (some ⟨W.heap.size, 0, none⟩) N N) (W.alloc (.cells Z 56)) := by
  refine ⟨_, ?_, fun W => run_mk wordsT N (by omega) (by omega) W⟩
  apply Array.toList_inj.1
  rw [show (Value.int IntKind.u64 0).cells = #[N64 0] from rfl, made_list]
  exact rep_fam N64 0 N
theorem mk_bytes (N : Nat) (h : N ≤ 2000) : ∃ Z : Array Value, Z = ((fam N (fun _ => (0 : UInt8))).map byteV).toArray ∧ ∀ W : World, (Instr.makeSlice 22 (.int .i64 N) (.int .i64 N)).run Try.prog W = .ok (.slice (some ⟨W.heap.size, 0, none⟩) N N) (W.alloc (.cells Z 5)) := by
  refine ⟨_, ?_, fun W => run_mk bytesT N (by omega) (by omega) W⟩
  apply Array.toList_inj.1
  rw [show (Value.int IntKind.u8 0).cells = #[byteV 0] from rfl, made_list]
  exact rep_fam byteV 0 N
/-- The first bytes of a word. -/
def wp (p : Nat → UInt8) (t : Nat) : Nat → Nat
  | 0 => 0
  | k + 1 => wp p t k * 256 + (p (4 * t + k)).toNat
theorem or_add {a b i : Nat} (h : b < 2 ^ i) : a * 2 ^ i ||| b = a * 2 ^ i + b := by
  rw [Nat.mul_comm]
  exact (Nat.two_pow_add_eq_or_of_lt h a).symm
theorem wp_four (p : Nat → UInt8) (t : Nat) : wp p t 4 = (wrd p t).toNat := by
  have h0 := UInt8.toNat_lt (p (4 * t))
  have h1 := UInt8.toNat_lt (p (4 * t + 1))
  have h2 := UInt8.toNat_lt (p (4 * t + 2))
  have h3 := UInt8.toNat_lt (p (4 * t + 3))
  unfold wrd
  simp only [wp, Nat.add_zero, Nat.zero_mul, Nat.zero_add]
  generalize (p (4 * t)).toNat = a at *
  generalize (p (4 * t + 1)).toNat = b at *
  generalize (p (4 * t + 2)).toNat = c at *
  generalize (p (4 * t + 3)).toNat = d at *
  simp only [BitVec.toNat_or, BitVec.toNat_shiftLeft, BitVec.toNat_ofNat, Nat.shiftLeft_eq]
  rw [Nat.mod_eq_of_lt (show a < 2 ^ 32 by omega), Nat.mod_eq_of_lt (show b < 2 ^ 32 by omega), Nat.mod_eq_of_lt (show c < 2 ^ 32 by omega), Nat.mod_eq_of_lt (show d < 2 ^ 32 by omega)]
  rw [Nat.mod_eq_of_lt (show a * 2 ^ 24 < 2 ^ 32 by omega), Nat.mod_eq_of_lt (show b * 2 ^ 16 < 2 ^ 32 by omega), Nat.mod_eq_of_lt (show c * 2 ^ 8 < 2 ^ 32 by omega)]
  rw [show a * 2 ^ 24 ||| b * 2 ^ 16 = (a * 2 ^ 8 + b) * 2 ^ 16 from by rw [or_add (a := a) (i := 24) (by omega)]; omega]
  rw [show (a * 2 ^ 8 + b) * 2 ^ 16 ||| c * 2 ^ 8 = ((a * 2 ^ 8 + b) * 2 ^ 8 + c) * 2 ^ 8 from by rw [or_add (i := 16) (by omega)]; omega]
  rw [or_add (i := 8) (by omega)]
theorem wp_lt (p : Nat → UInt8) (t : Nat) : ∀ k, wp p t k < 256 ^ k
  | 0 => by simp [wp]
  | k + 1 => by
    have := wp_lt p t k
    have h := UInt8.toNat_lt (p (4 * t + k))
    simp only [wp, Nat.pow_succ]
    omega
/-- The words while they are read. -/
def rdX (p : Nat → UInt8) (t k i : Nat) : Nat := if i < t then (wrd p i).toNat else if i = t then wp p t k else 0
theorem rdX_next (p : Nat → UInt8) (t : Nat) : rdX p t 4 = rdX p (t + 1) 0 := by
  funext i
  unfold rdX
  by_cases h1 : i < t
  · rw [if_pos h1, if_pos (by omega)]
  · rw [if_neg h1]
    by_cases h2 : i = t
    · subst h2; rw [if_pos rfl, if_pos (by omega), wp_four]
    · rw [if_neg h2, if_neg (by omega)]
      split <;> rfl
theorem rdX_set (p : Nat → UInt8) (t k : Nat) : (fun j => if j = t then wp p t (k + 1) else rdX p t k j) = rdX p t (k + 1) := by
  funext i
  unfold rdX
  by_cases h2 : i = t
  · subst h2; rw [if_pos rfl, if_neg (Nat.lt_irrefl _), if_pos rfl]
  · rw [if_neg h2, if_neg h2, if_neg h2]
theorem rdX_at (p : Nat → UInt8) (t k : Nat) : rdX p t k t = wp p t k := by unfold rdX; rw [if_neg (Nat.lt_irrefl _), if_pos rfl]
theorem rdX_all (p : Nat → UInt8) : rdX p 16 0 = mix (fun _ => 0) (fun i => (sch p i).toNat) 16 := by
  funext i
  unfold rdX mix
  by_cases h1 : i < 16
  · rw [if_pos h1, if_pos h1]
    show (wrd p i).toNat = (sch p i).toNat
    rw [sch_lo p h1]
  · rw [if_neg h1, if_neg h1]
    split <;> rfl
theorem unot (x : BitVec 32) : ∃ n : Nat, bits .xor .u64 IntKind.u64.max (x.toNat : Int) = (n : Int) ∧ n % 4294967296 = (~~~x).toNat := by
  have hx := x.isLt
  refine ⟨18446744073709551615 - x.toNat, ?_, ?_⟩
  · have e : BitVec.ofInt 64 IntKind.u64.max = BitVec.allOnes 64 := by decide
    show IntKind.u64.wrap (((BitVec.ofInt 64 IntKind.u64.max) ^^^ (BitVec.ofInt 64 (x.toNat : Int))).toNat : Nat) = _
    rw [e, ofInt64 _ (by omega), BitVec.allOnes_xor, wrap64n, BitVec.toNat_not, BitVec.toNat_ofNat]
    omega
  · rw [BitVec.toNat_not]
    omega
/-- The eight words of a round in memory. -/
def VR (u : World) (g o : Nat) (v : Nat → BitVec 32) : Prop := ∀ j, j < 8 → u.cell? ⟨g, o + j, none⟩ = some (U32 (v j))
def VC (u : World) (g o a0 a1 a2 a3 a4 a5 a6 a7 : Nat) : Prop :=
  u.cell? ⟨g, o, none⟩ = some (N64 a0) ∧ u.cell? ⟨g, o + 1, none⟩ = some (N64 a1) ∧ u.cell? ⟨g, o + 2, none⟩ = some (N64 a2) ∧ u.cell? ⟨g, o + 3, none⟩ = some (N64 a3) ∧ u.cell? ⟨g, o + 4, none⟩ = some (N64 a4) ∧ u.cell? ⟨g, o + 5, none⟩ = some (N64 a5) ∧ u.cell? ⟨g, o + 6, none⟩ = some (N64 a6) ∧ u.cell? ⟨g, o + 7, none⟩ = some (N64 a7)
theorem VC.of {u : World} {g o : Nat} {v : Nat → BitVec 32} (h : VR u g o v) : VC u g o (v 0).toNat (v 1).toNat (v 2).toNat (v 3).toNat (v 4).toNat (v 5).toNat (v 6).toNat (v 7).toNat :=
  ⟨h 0 (by decide), h 1 (by decide), h 2 (by decide), h 3 (by decide), h 4 (by decide), h 5 (by decide), h 6 (by decide), h 7 (by decide)⟩
theorem VC.kept0 {u u' : World} {g o a0 a1 a2 a3 a4 a5 a6 a7 : Nat} (h : VC u g o a0 a1 a2 a3 a4 a5 a6 a7) (k : Kept [] u u') : VC u' g o a0 a1 a2 a3 a4 a5 a6 a7 := by
  obtain ⟨h0, h1, h2, h3, h4, h5, h6, h7⟩ := h
  exact ⟨k.cell h0 (by simp), k.cell h1 (by simp), k.cell h2 (by simp), k.cell h3 (by simp), k.cell h4 (by simp), k.cell h5 (by simp), k.cell h6 (by simp), k.cell h7 (by simp)⟩
theorem VR.kept0 {u u' : World} {g o : Nat} {v : Nat → BitVec 32} (h : VR u g o v) (k : Kept [] u u') : VR u' g o v := fun j hj => k.cell (h j hj) (by simp)
theorem VR.keptS {u u' : World} {S : List Nat} {g o : Nat} {v : Nat → BitVec 32} (h : VR u g o v) (k : Kept S u u') (hg : g ∉ S) : VR u' g o v := fun j hj => k.cell (h j hj) hg
theorem fam_succ {α : Type} (n : Nat) (f : Nat → α) : fam (n + 1) f = fam n f ++ [f n] := by unfold fam; rw [List.range_succ, List.map_append]; rfl
theorem VC.vr {u : World} {g : Nat} {v : Nat → BitVec 32} {cs : Array Value} {t : TypeId} (hb : Blk u g t cs) (he : (fam 8 fun j => (v j).toNat).map N64 = cs.toList) : VR u g 0 v := by
  intro j hj
  rw [Nat.zero_add, hb.cell, ← Array.getElem?_toList, ← he]
  simp [fam, hj]
theorem ch_val (e f g : BitVec 32) : bits .or .u64 (bits .and .u64 (e.toNat : Int) (f.toNat : Int)) (bits .and .u64 ((~~~e).toNat : Int) (g.toNat : Int)) = ((chB e f g).toNat : Int) := by rw [uand, uand, uor, ch_or]
theorem mj_val (a b c : BitVec 32) : bits .or .u64 (bits .or .u64 (bits .and .u64 (a.toNat : Int) (b.toNat : Int)) (bits .and .u64 (a.toNat : Int) (c.toNat : Int))) (bits .and .u64 (b.toNat : Int) (c.toNat : Int)) = ((mjB a b c).toNat : Int) := by rw [uand, uand, uand, uor, uor, mj_or]
theorem rnd_vals (k m : BitVec 32) (v : Nat → BitVec 32) : ∃ z0 z4 : Nat, z0 = ((v 7).toNat + (us1 (v 4)).toNat + (chB (v 4) (v 5) (v 6)).toNat + k.toNat + m.toNat + ((us0 (v 0)).toNat + (mjB (v 0) (v 1) (v 2)).toNat)) % 4294967296 ∧
    z4 = ((v 3).toNat + ((v 7).toNat + (us1 (v 4)).toNat + (chB (v 4) (v 5) (v 6)).toNat + k.toNat + m.toNat)) % 4294967296 ∧
    (fam 8 fun j => (rnd k m v j).toNat).map N64 = #[N64 z0, N64 (v 0).toNat, N64 (v 1).toNat, N64 (v 2).toNat, N64 z4, N64 (v 4).toNat, N64 (v 5).toNat, N64 (v 6).toNat].toList := by
  refine ⟨(rnd k m v 0).toNat, (rnd k m v 4).toNat, ?_, ?_, rfl⟩
  · show (v 7 + us1 (v 4) + chB (v 4) (v 5) (v 6) + k + m + (us0 (v 0) + mjB (v 0) (v 1) (v 2))).toNat = _
    simp only [BitVec.toNat_add]
    omega
  · show (v 3 + (v 7 + us1 (v 4) + chB (v 4) (v 5) (v 6) + k + m)).toNat = _
    simp only [BitVec.toNat_add]
    omega
theorem cubes_lt : ∀ k, k < 80 → cubesL.getD k 0 < 18446744073709551616 := by decide
end Go.Proofs.Ytjdfnhfankcodaa
