/-
  Digests: words for the walk of Sum512.
-/
import Derived.Test.YtdbngnlpafcogaaSq4
import Derived.Test.YtdbngnlpafcogaaFam
import Derived.Test.YtdbngnlpafcogaaText6
namespace Go.Proofs.Ytdbngnlpafcogaa.Q
open Go.RowKit Go.Mem Go.Txt

theorem ex_cell {P : Program} {u : World} {a : Act} {o : Oper} {t : TypeId} (x : Operand) (ho : o.op = .load t x) (hs : ∀ w, (isAgg t).run P w = .ok false w) {p : Addr} (hx : a.eval x = .pointer (some p)) {v : Value} (hc : u.cell? p = some v) :
    (execOp a.eval o).run P u = .ok (.value v) u := by
  have h2 : (isAgg t).run P u = .ok false u := hs u
  simp [execOp, ho, hx, Instr.loadAt, Instr.sureAddr, loadVar, h2, hc]
theorem w8z : (Try.prog.info? 140).map (·.zero) = some (some (.agg ((fam 8 fun _ => (0 : B64)).map W64).toArray)) := by kernel_rfl
theorem sig_z : (Try.prog.info? 24).map (·.zero) = some (some (ab (noughts 64))) := by kernel_rfl
theorem m80z : (Try.prog.info? 142).map (·.zero) = some (some (.agg ((fam 80 fun _ => (0 : B64)).map W64).toArray)) := by kernel_rfl
theorem u64n (w : World) : (isAgg 80).run Try.prog w = .ok false w := by kernel_rfl
theorem u64s (w : World) : (sizeOf 80).run Try.prog w = .ok 1 w := by kernel_rfl
theorem run_idxw (cs : Array Value) (k : Nat) (v : Value) (hk : k < 8) (hv : cs[k]? = some v) (w : World) : (Instr.index 140 (.agg cs) (.int .i64 (k : Int))).run Try.prog w = .ok v w := by
  have h1 : (0 : Int) ≤ k ∧ (k : Int) < 8 := by omega
  have h2 : ¬ 8 ≤ k := by omega
  simp [Instr.index, run_underlying Try.underlying140, asIntOf, h1, h2, u64s w, part, hv]
theorem sigR : RowT Try.prog 24 64 := ⟨⟨_, Try.underlying24, rfl⟩, by kernel_rfl⟩
theorem one_w64 (l : List B64) : (l.map W64).toArray.all (·.oneCell') = true := by
  rw [Array.all_eq_true_iff_forall_mem]
  intro u hu
  simp only [List.mem_toArray, List.mem_map] at hu
  obtain ⟨x, _, rfl⟩ := hu
  rfl
def digF (h : Nat → B64) (j : Nat) : UInt8 := UInt8.ofNat ((h (j / 8)).toNat / 2 ^ (56 - 8 * (j % 8)))
theorem dig_fam (h : Nat → B64) : digB h = fam 64 (digF h) := rfl
theorem digB_len (h : Nat → B64) : (digB h).length = 64 := by simp [digB]
theorem dig_at (h : Nat → B64) (k i : Nat) (hi : i < 8) : ((h k).toNat : Int) / 2 ^ (56 - 8 * i) % 256 = ((digF h (8 * k + i)).toNat : Int) := by
  unfold digF
  rw [show (8 * k + i) / 8 = k from by omega, show (8 * k + i) % 8 = i from by omega, UInt8.toNat_ofNat']
  have h2 : ((2 : Int) ^ (56 - 8 * i)) = ((2 ^ (56 - 8 * i) : Nat) : Int) := by norm_cast
  rw [h2]
  generalize 2 ^ (56 - 8 * i) = q
  show ((h k).toNat : Int) / (q : Int) % ((256 : Nat) : Int) = (((h k).toNat / q % 256 : Nat) : Int)
  rw [Int.natCast_emod, Int.natCast_ediv]
theorem roots_w : uv rootsL = (fam 8 fun i => n64 (rootsL.getD i 0)).map W64 := by kernel_rfl
theorem cubes_all : cubesL.all (fun n => decide (n < 18446744073709551616)) = true := by kernel_rfl
theorem cubes_lt (t : Nat) : cubesL.getD t 0 < 18446744073709551616 := by
  rw [List.getD_eq_getElem?_getD]
  cases h : cubesL[t]? with
  | none => exact (by decide)
  | some n =>
    have := List.all_eq_true.1 cubes_all n (List.mem_of_getElem? h)
    simpa using this
theorem built8 (s0 s1 s2 s3 s4 s5 s6 s7 : B64) : Try.prog.built 140 [(0, W64 s0), (1, W64 s1), (2, W64 s2), (3, W64 s3), (4, W64 s4), (5, W64 s5), (6, W64 s6), (7, W64 s7)] = some (([s0, s1, s2, s3, s4, s5, s6, s7] : List B64).map W64).toArray := by kernel_rfl
/-- What stands of the digest's variables. -/
structure ShA (w0 : World) (g2 g3 g4 : Nat) (h : Nat → B64) (u : World) : Prop where
  b2 : Blk u g2 24 (bv (noughts 64)).toArray
  b3 : Blk u g3 140 ((fam 8 h).map W64).toArray
  b4 : Blk u g4 142 (uv cubesL).toArray
  k : Kept [] w0 u
  l2 : w0.heap.size ≤ g2
  l3 : w0.heap.size ≤ g3
  l4 : w0.heap.size ≤ g4
theorem ShA.kept {w0 u u' : World} {g2 g3 g4 : Nat} {h : Nat → B64} (t : ShA w0 g2 g3 g4 h u) (hk : Kept [] u u') : ShA w0 g2 g3 g4 h u' := ⟨t.b2.kept hk (by simp), t.b3.kept hk (by simp), t.b4.kept hk (by simp), t.k.then0 hk, t.l2, t.l3, t.l4⟩
/-- The same, with the words of a block. -/
structure ShB (w0 : World) (g2 g3 g4 g5 : Nat) (h m : Nat → B64) (u : World) : Prop where
  A : ShA w0 g2 g3 g4 h u
  b5 : Blk u g5 142 ((fam 80 m).map W64).toArray
  l5 : w0.heap.size ≤ g5
  n45 : g4 ≠ g5
theorem ShB.kept {w0 u u' : World} {g2 g3 g4 g5 : Nat} {h m : Nat → B64} (t : ShB w0 g2 g3 g4 g5 h m u) (hk : Kept [] u u') : ShB w0 g2 g3 g4 g5 h m u' := ⟨t.A.kept hk, t.b5.kept hk (by simp), t.l5, t.n45⟩
/-- The same, with a block's bytes. -/
structure ShM (w0 : World) (g2 g3 g4 g5 b o : Nat) (h m : Nat → B64) (rest : List UInt8) (u : World) : Prop where
  B : ShB w0 g2 g3 g4 g5 h m u
  all : ∀ j v, (bv rest)[j]? = some v → u.cell? ⟨b, o + j, none⟩ = some v
  n3 : b ≠ g3
  n5 : b ≠ g5
section
variable {w0 u u' : World} {g2 g3 g4 g5 g13 b o : Nat} {h h' m m' v v' : Nat → B64} {rest : List UInt8} {k : Nat}
theorem ShM.rd (t : ShM w0 g2 g3 g4 g5 b o h m rest u) {j : Nat} (hj : j < rest.length) : u.cell? ⟨b, o + j, none⟩ = some (.int .u8 ((rest.getD j 0).toNat : Int)) :=
  t.all j _ (by simp [byteV, hj, List.getD_eq_getElem?_getD])
theorem ShM.kept (t : ShM w0 g2 g3 g4 g5 b o h m rest u) (hk : Kept [] u u') : ShM w0 g2 g3 g4 g5 b o h m rest u' := ⟨t.B.kept hk, fun j v hj => hk.cell (t.all j v hj) (by simp), t.n3, t.n5⟩
theorem ShM.drew (t : ShM w0 g2 g3 g4 g5 b o h m rest u) : ShM w0 g2 g3 g4 g5 b o h m rest u.drew := t.kept (Kept.refl [] u).drew
theorem ShM.set5a (t : ShM w0 g2 g3 g4 g5 b o h m rest u) (x : B64) (hb : Blk (u.setCell ⟨g5, k, none⟩ (W64 x)) g5 142 ((fam 80 m').map W64).toArray) : ShM w0 g2 g3 g4 g5 b o h m' rest (u.setCell ⟨g5, k, none⟩ (W64 x)) := by
  have hk : Kept [g5] u (u.setCell ⟨g5, k, none⟩ (W64 x)) := (Kept.refl [g5] u).setCell (.inl (by simp)) _
  exact ⟨⟨⟨t.B.A.b2.kept hk (by simpa using t.B.A.b2.ne_ t.B.b5 (by decide)), t.B.A.b3.kept hk (by simpa using t.B.A.b3.ne_ t.B.b5 (by decide)), t.B.A.b4.kept hk (by simpa using t.B.n45), t.B.A.k.then1 hk t.B.l5, t.B.A.l2, t.B.A.l3, t.B.A.l4⟩, hb, t.B.l5, t.B.n45⟩,
   fun j v hj => hk.cell (t.all j v hj) (by simpa using t.n5), t.n3, t.n5⟩
theorem ShM.set5 (t : ShM w0 g2 g3 g4 g5 b o h (mix m m' k) rest u) : ShM w0 g2 g3 g4 g5 b o h (mix m m' (k + 1)) rest (u.setCell ⟨g5, k, none⟩ (W64 (m' k))) := t.set5a (m' k) t.B.b5.fstep
theorem ShM.setx (t : ShM w0 g2 g3 g4 g5 b o h m rest u) (k : Nat) (x : B64) : ShM w0 g2 g3 g4 g5 b o h (fun i => if i = k then x else m i) rest (u.setCell ⟨g5, k, none⟩ (W64 x)) := t.set5a x (t.B.b5.fset k x)
theorem ShM.sety (t : ShM w0 g2 g3 g4 g5 b o h m rest u) (k : Nat) (m' : Nat → B64) (hm : ∀ i, i ≠ k → m' i = m i) : ShM w0 g2 g3 g4 g5 b o h m' rest (u.setCell ⟨g5, k, none⟩ (W64 (m' k))) := by
  have e : (fun i => if i = k then m' k else m i) = m' := by
    funext i
    by_cases hi : i = k
    · subst hi; exact if_pos rfl
    · rw [if_neg hi, hm i hi]
  refine t.set5a (m' k) ?_
  have := t.B.b5.fset k (m' k)
  rwa [e] at this
/-- The same, with the eight words that are turned. -/
structure ShV (w0 : World) (g2 g3 g4 g5 b o g13 : Nat) (h m : Nat → B64) (rest : List UInt8) (v : Nat → B64) (u : World) : Prop where
  M : ShM w0 g2 g3 g4 g5 b o h m rest u
  v : Blk u g13 140 ((fam 8 v).map W64).toArray
  n3 : g3 ≠ g13
  nb : b ≠ g13
  l : w0.heap.size ≤ g13
theorem ShV.kept (t : ShV w0 g2 g3 g4 g5 b o g13 h m rest v u) (hk : Kept [] u u') : ShV w0 g2 g3 g4 g5 b o g13 h m rest v u' := ⟨t.M.kept hk, t.v.kept hk (by simp), t.n3, t.nb, t.l⟩
theorem ShV.drew (t : ShV w0 g2 g3 g4 g5 b o g13 h m rest v u) : ShV w0 g2 g3 g4 g5 b o g13 h m rest v u.drew := t.kept (Kept.refl [] u).drew
theorem ShV.put (t : ShV w0 g2 g3 g4 g5 b o g13 h m rest v u) (hk : Kept [g13] u u') (hb : Blk u' g13 140 ((fam 8 v').map W64).toArray) : ShV w0 g2 g3 g4 g5 b o g13 h m rest v' u' :=
  ⟨⟨⟨⟨t.M.B.A.b2.kept hk (by simpa using t.M.B.A.b2.ne_ t.v (by decide)), t.M.B.A.b3.kept hk (by simpa using t.n3), t.M.B.A.b4.kept hk (by simpa using t.M.B.A.b4.ne_ t.v (by decide)), t.M.B.A.k.then1 hk t.l, t.M.B.A.l2, t.M.B.A.l3, t.M.B.A.l4⟩, t.M.B.b5.kept hk (by simpa using t.M.B.b5.ne_ t.v (by decide)), t.M.B.l5, t.M.B.n45⟩,
   fun j v hj => hk.cell (t.M.all j v hj) (by simpa using t.nb), t.M.n3, t.M.n5⟩, hb, t.n3, t.nb, t.l⟩
theorem ShV.set3 (t : ShV w0 g2 g3 g4 g5 b o g13 (mix h h' k) m rest v u) : ShV w0 g2 g3 g4 g5 b o g13 (mix h h' (k + 1)) m rest v (u.setCell ⟨g3, k, none⟩ (W64 (h' k))) := by
  have hk : Kept [g3] u (u.setCell ⟨g3, k, none⟩ (W64 (h' k))) := (Kept.refl [g3] u).setCell (.inl (by simp)) _
  exact ⟨⟨⟨⟨t.M.B.A.b2.kept hk (by simpa using t.M.B.A.b2.ne_ t.M.B.A.b3 (by decide)), t.M.B.A.b3.fstep, t.M.B.A.b4.kept hk (by simpa using t.M.B.A.b4.ne_ t.M.B.A.b3 (by decide)), t.M.B.A.k.then1 hk t.M.B.A.l3, t.M.B.A.l2, t.M.B.A.l3, t.M.B.A.l4⟩, t.M.B.b5.kept hk (by simpa using t.M.B.b5.ne_ t.M.B.A.b3 (by decide)), t.M.B.l5, t.M.B.n45⟩,
   fun j v hj => hk.cell (t.M.all j v hj) (by simpa using t.M.n3), t.M.n3, t.M.n5⟩, t.v.kept hk (by simpa using t.n3.symm), t.n3, t.nb, t.l⟩
end
theorem rot19 (x : B64) (w : World) : Calls Try.prog 96 #[W64 x, .int .i64 (-19)] w fun e w' => e = .returned (W64 (rl x 45)) ∧ Kept [] w w' := rot_any x (-19) 45 (by kernel_rfl) (by decide) w
theorem rot61 (x : B64) (w : World) : Calls Try.prog 96 #[W64 x, .int .i64 (-61)] w fun e w' => e = .returned (W64 (rl x 3)) ∧ Kept [] w w' := rot_any x (-61) 3 (by kernel_rfl) (by decide) w
theorem rot1 (x : B64) (w : World) : Calls Try.prog 96 #[W64 x, .int .i64 (-1)] w fun e w' => e = .returned (W64 (rl x 63)) ∧ Kept [] w w' := rot_any x (-1) 63 (by kernel_rfl) (by decide) w
theorem rot8 (x : B64) (w : World) : Calls Try.prog 96 #[W64 x, .int .i64 (-8)] w fun e w' => e = .returned (W64 (rl x 56)) ∧ Kept [] w w' := rot_any x (-8) 56 (by kernel_rfl) (by decide) w
theorem rot14 (x : B64) (w : World) : Calls Try.prog 96 #[W64 x, .int .i64 (-14)] w fun e w' => e = .returned (W64 (rl x 50)) ∧ Kept [] w w' := rot_any x (-14) 50 (by kernel_rfl) (by decide) w
theorem rot18 (x : B64) (w : World) : Calls Try.prog 96 #[W64 x, .int .i64 (-18)] w fun e w' => e = .returned (W64 (rl x 46)) ∧ Kept [] w w' := rot_any x (-18) 46 (by kernel_rfl) (by decide) w
theorem rot41 (x : B64) (w : World) : Calls Try.prog 96 #[W64 x, .int .i64 (-41)] w fun e w' => e = .returned (W64 (rl x 23)) ∧ Kept [] w w' := rot_any x (-41) 23 (by kernel_rfl) (by decide) w
theorem rot28 (x : B64) (w : World) : Calls Try.prog 96 #[W64 x, .int .i64 (-28)] w fun e w' => e = .returned (W64 (rl x 36)) ∧ Kept [] w w' := rot_any x (-28) 36 (by kernel_rfl) (by decide) w
theorem rot34 (x : B64) (w : World) : Calls Try.prog 96 #[W64 x, .int .i64 (-34)] w fun e w' => e = .returned (W64 (rl x 30)) ∧ Kept [] w w' := rot_any x (-34) 30 (by kernel_rfl) (by decide) w
theorem rot39 (x : B64) (w : World) : Calls Try.prog 96 #[W64 x, .int .i64 (-39)] w fun e w' => e = .returned (W64 (rl x 25)) ∧ Kept [] w w' := rot_any x (-39) 25 (by kernel_rfl) (by decide) w
theorem shr6 (x : B64) : (x.toNat : Int) / (64 : Int) = (((x >>> 6).toNat : Nat) : Int) := bshr x 6
theorem shr7 (x : B64) : (x.toNat : Int) / (128 : Int) = (((x >>> 7).toNat : Nat) : Int) := bshr x 7
theorem sch_val (x y s7 s16 : B64) : IntKind.u64.wrap (IntKind.u64.wrap (IntKind.u64.wrap (bits .xor .u64 (bits .xor .u64 (rl y 45).toNat (rl y 3).toNat) ((y.toNat : Int) / (64 : Int)) + (s7.toNat : Int)) + bits .xor .u64 (bits .xor .u64 (rl x 63).toNat (rl x 56).toNat) ((x.toNat : Int) / (128 : Int))) + (s16.toNat : Int)) = (((ls1 y + s7 + ls0 x + s16).toNat : Nat) : Int) := by
  rw [shr6, shr7, bxor, bxor, bxor, bxor, badd, badd, badd]
  rfl
theorem t1_val (v7 e f g k m : B64) : IntKind.u64.wrap (IntKind.u64.wrap (IntKind.u64.wrap (IntKind.u64.wrap ((v7.toNat : Int) + bits .xor .u64 (bits .xor .u64 (rl e 50).toNat (rl e 46).toNat) (rl e 23).toNat) + bits .xor .u64 (bits .and .u64 e.toNat f.toNat) (bits .and .u64 (bits .xor .u64 IntKind.u64.max e.toNat) g.toNat)) + (k.toNat : Int)) + (m.toNat : Int)) = (((v7 + us1 e + chB e f g + k + m).toNat : Nat) : Int) := by
  rw [show IntKind.u64.max = 18446744073709551615 from by decide, bnot, band, band, bxor, bxor, bxor, badd, badd, badd, badd]
  rfl
theorem t2_val (a b c : B64) : IntKind.u64.wrap (bits .xor .u64 (bits .xor .u64 (rl a 36).toNat (rl a 30).toNat) (rl a 25).toNat + bits .xor .u64 (bits .xor .u64 (bits .and .u64 a.toNat b.toNat) (bits .and .u64 a.toNat c.toNat)) (bits .and .u64 b.toNat c.toNat)) = (((us0 a + mjB a b c).toNat : Nat) : Int) := by
  rw [band, band, band, bxor, bxor, bxor, bxor, badd]
  rfl
theorem u8_64 (a : UInt8) : IntKind.u64.wrap (a.toNat : Int) = ((BitVec.ofNat 64 a.toNat).toNat : Nat) := by
  have := UInt8.toNat_lt a
  rw [IntKind.wrap_u64, BitVec.toNat_ofNat]; omega
theorem wrd_step (x : B64) (a : UInt8) : bits .or .u64 (IntKind.u64.wrap ((x.toNat : Int) * 256)) (IntKind.u64.wrap (a.toNat : Int)) = ((x <<< 8 ||| BitVec.ofNat 64 a.toNat).toNat : Nat) := by
  have e1 : IntKind.u64.wrap ((x.toNat : Int) * (256 : Int)) = (((x <<< 8).toNat : Nat) : Int) := by rw [IntKind.wrap_u64]; exact bshl x 8
  rw [u8_64, e1, bor]
end Go.Proofs.Ytdbngnlpafcogaa.Q
