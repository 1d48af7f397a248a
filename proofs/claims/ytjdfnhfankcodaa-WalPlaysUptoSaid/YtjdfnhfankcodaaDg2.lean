/-
  The document's digests: its tables, its words (32 bits).
-/
import Derived.Test.YtjdfnhfankcodaaDg1
import Derived.Test.YtjdfnhfankcodaaFam
namespace Go.Mem
open Go.RowKit Go.Txt
section
variable {P : Program} {w : World} {a : Act} {ops : Array Oper} {rest : List Oper} {o : Oper} {Q : Exit → Act → World → Prop} {t e : TypeId} {bytes : Nat} {z : Value}
/-- A slice literal: a new block. -/
theorem wpl_bsliceC (hgd : Region.wanted o (yielded ops a.tmps) = true) (T : SliceT P t e 1 bytes z) {n : Nat} {ps : Array (Nat × Operand)} (ho : o.op = .buildSlice t n ps) {vs : List (Nat × Value)} (hv : (ps.map fun (p : Nat × Operand) => (p.1, a.eval p.2)).toList = vs)
    (h0 : 0 < n) (hsmall : n ≤ 2 ^ 24) {cells : Array Value} (hf : Instr.fill (fun i => some (i * 1, 1)) ((Array.range (n * 1)).map (z.cells[· % z.cells.size]!)) vs = some cells)
    (h : ∀ g w', Made w w' g e cells → wpList P ops Q rest (a.put o.dst (.slice (some ⟨g, 0, none⟩) n n)) w') : wpList P ops Q (o :: rest) a w := by
  obtain ⟨i, hi, hz, hs, hb⟩ := info_parts T.2
  refine wpl_wanted hgd fun _ hK => wp_buildSlice t e n _ ho cells i z T.1 hi hz (by rw [hs]; omega) (by rw [hs]; omega) (by rw [hs]; exact (congrArg (Instr.fill _ _) hv).trans hf) (hK _ _ (h _ _ ⟨Blk.new _ _ _, (Kept.refl [] w).alloc _, Nat.le_refl _⟩))
end
end Go.Mem
namespace Go.Proofs.Ytjdfnhfankcodaa
open Go.RowKit Go.Mem Go.Txt

theorem wordsT : SliceT Try.prog 82 56 1 8 (.int .u64 0) := ⟨Try.underlying82, by kernel_rfl, rfl, by omega⟩
theorem uintsT : SliceT Try.prog 81 41 1 8 (.int .u64 0) := ⟨Try.underlying81, by kernel_rfl, rfl, by omega⟩
theorem cut_any (n : Nat) (w : World) : Calls Try.prog 44 #[.int .u64 (n : Int), .int .u64 32] w fun e w' => e = .returned (.int .u64 ((n % 4294967296 : Nat) : Int)) ∧ Kept [] w w' := by
  have K := Lib.hid (Kept.refl [] w)
  have e1 : (n : Int) % 4294967296 = ((n % 4294967296 : Nat) : Int) := rfl
  have e2 : (n : Int).tmod 4294967296 = ((n % 4294967296 : Nat) : Int) := by rw [Int.tmod_eq_emod_of_nonneg (by omega)]; rfl
  generalize n % 4294967296 = m at *
  go_enter Try.func44, Try.ntmps44
  go_wp2_with fail
  go_ret
  exact ⟨rfl, K.out⟩
set_option maxHeartbeats 800000 in
theorem three_shift (x : BitVec 32) (a b c : Nat) (ha1 : 1 ≤ a) (ha : a ≤ 31) (hb1 : 1 ≤ b) (hb : b ≤ 31) (hc1 : 1 ≤ c) (hc : c ≤ 31) (w : World) :
    Calls Try.prog 45 #[U32 x, .int .u64 32, .int .u64 (a : Int), .int .u64 (b : Int), .int .u64 (c : Int), .bool true] w fun e w' => e = .returned (U32 ((rl x (32 - a) ^^^ rl x (32 - b)) ^^^ x >>> c)) ∧ Kept [] w w' := by
  have ca := Lib.hid (turn_any x a ha1 ha)
  have cb := Lib.hid (turn_any x b hb1 hb)
  have e3 : ∀ t : Nat, ((t : Int)).toNat = t := fun t => rfl
  go_enter Try.func45, Try.ntmps45
  go_wp2_with (first
    | (go_at_call 48; (with_reducible refine (ca.out _).mono ?_); rintro e w1 ⟨rfl, k1⟩; have K := Lib.hid k1; clear k1 ca)
    | (go_at_call 48; (with_reducible refine (cb.out _).mono ?_); rintro e w1 ⟨rfl, k1⟩; replace K := Lib.hid (K.out.then0 k1); clear k1 cb))
  go_ret
  refine ⟨?_, K.out⟩
  show Ending.returned (.int .u64 (bits .xor .u64 (bits .xor .u64 ((rl x (32 - a)).toNat : Int) ((rl x (32 - b)).toNat : Int)) ((x.toNat : Int) / 2 ^ c))) = _
  rw [bshr, uxor, uxor]
set_option maxHeartbeats 800000 in
theorem three_turn (x : BitVec 32) (a b c : Nat) (ha1 : 1 ≤ a) (ha : a ≤ 31) (hb1 : 1 ≤ b) (hb : b ≤ 31) (hc1 : 1 ≤ c) (hc : c ≤ 31) (w : World) :
    Calls Try.prog 45 #[U32 x, .int .u64 32, .int .u64 (a : Int), .int .u64 (b : Int), .int .u64 (c : Int), .bool false] w fun e w' => e = .returned (U32 ((rl x (32 - a) ^^^ rl x (32 - b)) ^^^ rl x (32 - c))) ∧ Kept [] w w' := by
  have ca := Lib.hid (turn_any x a ha1 ha)
  have cb := Lib.hid (turn_any x b hb1 hb)
  have cc := Lib.hid (turn_any x c hc1 hc)
  go_enter Try.func45, Try.ntmps45
  go_wp2_with (first
    | (go_at_call 48; (with_reducible refine (ca.out _).mono ?_); rintro e w1 ⟨rfl, k1⟩; have K := Lib.hid k1; clear k1 ca)
    | (go_at_call 48; (with_reducible refine (cb.out _).mono ?_); rintro e w1 ⟨rfl, k1⟩; replace K := Lib.hid (K.out.then0 k1); clear k1 cb)
    | (go_at_call 48; (with_reducible refine (cc.out _).mono ?_); rintro e w1 ⟨rfl, k1⟩; replace K := Lib.hid (K.out.then0 k1); clear k1 cc))
  go_ret
  refine ⟨?_, K.out⟩
  show Ending.returned (.int .u64 (bits .xor .u64 (bits .xor .u64 ((rl x (32 - a)).toNat : Int) ((rl x (32 - b)).toNat : Int)) ((rl x (32 - c)).toNat : Int))) = _
  rw [uxor, uxor]
set_option maxRecDepth 100000 in
theorem square_any (t : Nat) (ht : t < 8) (w : World) : Calls Try.prog 43 #[.int .i64 (t : Int)] w fun e w' => e = .returned (.int .u64 ((rootsL.getD t 0 : Nat) : Int)) ∧ Kept [] w w' := by
  have hg := Lib.hid (show ∀ (u : World) (g : Nat), Blk u g 56 (uv rootsL).toArray → u.cell? ⟨g, t, none⟩ = some (.int .u64 ((rootsL.getD t 0 : Nat) : Int)) from fun u g hb => by
    have hl : t < rootsL.length := ht
    rw [hb.uget t hl, List.getD_eq_getElem?_getD, List.getElem?_eq_getElem hl]; rfl)
  generalize rootsL.getD t 0 = r at *
  go_enter Try.func43, Try.ntmps43
  go_wp2_with (first
    | ((with_reducible refine wpl_at 3 ?_); (refine wpl_bsliceC (o := ⟨some 3, _, _, _, _, _⟩) (cells := (uv rootsL).toArray) (vs := (uv rootsL).zipIdx.map fun p => (p.2, p.1)) rfl wordsT rfl (by kernel_rfl) (by decide) (by decide) (by kernel_rfl) ?_); intro g3 w3 m3
       have q := hg.out w3 g3 m3.blk
       have K := Lib.hid m3.kept
       clear m3))
  go_ret
  exact ⟨rfl, K.out⟩
set_option maxRecDepth 100000 in
set_option maxHeartbeats 800000 in
theorem cube_any (t : Nat) (ht : t < 80) (w : World) : Calls Try.prog 46 #[.int .i64 (t : Int)] w fun e w' => e = .returned (.int .u64 ((cubesL.getD t 0 : Nat) : Int)) ∧ Kept [] w w' := by
  have hg := Lib.hid (show ∀ (u : World) (g : Nat), Blk u g 56 (uv cubesL).toArray → u.cell? ⟨g, t, none⟩ = some (.int .u64 ((cubesL.getD t 0 : Nat) : Int)) from fun u g hb => by
    have hl : t < cubesL.length := ht
    rw [hb.uget t hl, List.getD_eq_getElem?_getD, List.getElem?_eq_getElem hl]; rfl)
  generalize cubesL.getD t 0 = r at *
  go_enter Try.func46, Try.ntmps46
  go_wp2_with (first
    | ((with_reducible refine wpl_at 3 ?_); (refine wpl_bsliceC (o := ⟨some 3, _, _, _, _, _⟩) (cells := (uv cubesL).toArray) (vs := (uv cubesL).zipIdx.map fun p => (p.2, p.1)) rfl wordsT rfl (by kernel_rfl) (by decide) (by decide) (by kernel_rfl) ?_); intro g3 w3 m3
       have q := hg.out w3 g3 m3.blk
       have K := Lib.hid m3.kept
       clear m3))
  go_ret
  exact ⟨rfl, K.out⟩
end Go.Proofs.Ytjdfnhfankcodaa
