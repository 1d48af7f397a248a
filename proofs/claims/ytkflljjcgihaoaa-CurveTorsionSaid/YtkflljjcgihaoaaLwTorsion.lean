/-
  The curve's laws: small points (CurveTorsion).
-/
import Derived.Test.YtkflljjcgihaoaaLw1
import Derived.Great.BuildSlice
namespace Go.Proofs.Ytkflljjcgihaoaa
open Go.RowKit Go.Mem Go.Txt

section
variable {P : Program} {w : World} {a : Act} {ops : Array Oper} {rest : List Oper} {o : Oper} {Q : Exit → Act → World → Prop}
/-- A slice literal of four: a new block. -/
theorem wpl_bslice4 (hgd : Region.wanted o (yielded ops a.tmps) = true) {t e : TypeId} {size bytes : Nat} {z : Value} (T : SliceT P t e size bytes z) {x0 x1 x2 x3 : Operand} (ho : o.op = .buildSlice t 4 #[(0, x0), (1, x1), (2, x2), (3, x3)]) {v0 v1 v2 v3 : Value} (h0 : a.eval x0 = v0) (h1 : a.eval x1 = v1) (h2 : a.eval x2 = v2) (h3 : a.eval x3 = v3)
    (hsmall : 4 * size ≤ 2 ^ 24) (hpos : 0 < 4 * size) {cells : Array Value}
    (hf : Instr.fill (fun i => some (i * size, size)) ((Array.range (4 * size)).map (z.cells[· % z.cells.size]!)) [(0, v0), (1, v1), (2, v2), (3, v3)] = some cells)
    (h : ∀ g w', Made w w' g e cells → wpList P ops Q rest (a.put o.dst (.slice (some ⟨g, 0, none⟩) 4 4)) w') : wpList P ops Q (o :: rest) a w := by
  obtain ⟨i, hi, hz, hs, hb⟩ := info_parts T.2
  have e4 : (#[(0, x0), (1, x1), (2, x2), (3, x3)].map fun (p : Nat × Operand) => (p.1, a.eval p.2)).toList = [(0, v0), (1, v1), (2, v2), (3, v3)] := by simp [h0, h1, h2, h3]
  refine wpl_wanted hgd fun _ hK => wp_buildSlice t e 4 _ ho cells i z T.1 hi hz (by rw [hs]; omega) (by rw [hs]; omega) (by rw [hs]; exact (congrArg (Instr.fill _ _) e4).trans hf) (hK _ _ (h _ _ ⟨Blk.new _ _ _, (Kept.refl [] w).alloc _, Nat.le_refl _⟩))
end
theorem smallT : SliceT Try.prog 50 22 32 32 (ab (noughts 32)) := ⟨Try.underlying50, by kernel_rfl, rfl, by omega⟩
def L3 : List UInt8 := 236 :: (noughts 30 ++ [127])
theorem lit_236 : Try.prog.built 22 [(0, .int .u8 236), (31, .int .u8 127)] = some (bv L3).toArray := by kernel_rfl
theorem lit_128 : Try.prog.built 22 [(31, .int .u8 128)] = some (bv (le T255 32)).toArray := by kernel_rfl
def fourQ (l0 l1 l2 l3 : List UInt8) (i : Nat) : List Value := bv (match i with | 0 => l0 | 1 => l1 | 2 => l2 | _ => l3)
theorem four_fill : Instr.fill (fun i => some (i * 32, 32)) ((Array.range (4 * 32)).map ((ab (noughts 32)).cells[· % (ab (noughts 32)).cells.size]!)) [(0, ab (le 1 32)), (1, ab (le 0 32)), (2, ab (le T255 32)), (3, ab L3)] = some (rws 4 (fourQ (le 1 32) (le 0 32) (le T255 32) L3)).toArray := by kernel_rfl
theorem tor_lits : ∃ l0 l1 l2 l3 : List UInt8, (l0 = le 1 32 ∧ l1 = le 0 32 ∧ l2 = le T255 32 ∧ l3 = L3) ∧ (l0.length = 32 ∧ l1.length = 32 ∧ l2.length = 32 ∧ l3.length = 32) ∧
    Try.prog.built 22 [(0, .int .u8 1)] = some (bv l0).toArray ∧ Try.prog.built 22 [] = some (bv l1).toArray ∧ Try.prog.built 22 [(31, .int .u8 128)] = some (bv l2).toArray ∧ Try.prog.built 22 [(0, .int .u8 236), (31, .int .u8 127)] = some (bv l3).toArray ∧
    Instr.fill (fun i => some (i * 32, 32)) ((Array.range (4 * 32)).map ((ab (noughts 32)).cells[· % (ab (noughts 32)).cells.size]!)) [(0, ab l0), (1, ab l1), (2, ab l2), (3, ab l3)] = some (rws 4 (fourQ l0 l1 l2 l3)).toArray :=
  ⟨_, _, _, _, ⟨rfl, rfl, rfl, rfl⟩, ⟨le_len _ _, le_len _ _, le_len _ _, rfl⟩, lit_built 1, lit_b0, lit_128, lit_236, four_fill⟩

/-- The list while it is filled. -/
def flL (k : Nat) : List UInt8 := 236 :: (List.replicate (k - 1) 255 ++ (noughts (31 - k) ++ [127]))
theorem fl_len : ∀ k, k < 32 → 1 ≤ k → (flL k).length = 32 := by decide
theorem fl_set : ∀ k, k < 31 → 1 ≤ k → (flL k).set k 255 = flL (k + 1) := by decide
theorem fl_end : flL 31 = le (PP - 1) 32 := by decide +kernel
theorem Blk.fl {u : World} {g k : Nat} {bt : TypeId} (h : Blk u g bt (bv (flL k)).toArray) (hk : k < 31) (h1 : 1 ≤ k) : Blk (u.setCell ⟨g, k, none⟩ (.int .u8 255)) g bt (bv (flL (k + 1))).toArray := by
  have h2 := h.set_ k (.int .u8 255)
  rw [← fl_set k hk h1]
  rw [List.setIfInBounds_toArray] at h2
  have e : (bv (flL k)).set k (.int .u8 255) = bv ((flL k).set k 255) := by
    show _ = ((flL k).set k 255).map _
    rw [List.map_set]
    rfl
  rw [e] at h2
  exact h2
theorem pm_cell {w0 : World} {g : Nat} {L : List (Nat × TypeId × Array Value)} {u : World} (h : Pm w0 L u) (hn : ∀ p ∈ L, p.1 ≠ g) (hl : w0.heap.size ≤ g) (k : Nat) (v : Value) : Pm w0 L (u.setCell ⟨g, k, none⟩ v) := by
  have hK : Kept [g] u (u.setCell ⟨g, k, none⟩ v) := (Kept.refl [g] u).setCell (.inl (by simp)) v
  exact ⟨fun p hp => (h.s p hp).kept hK (by simpa using hn p hp), h.k.then1 hK hl⟩
theorem tor_e {P T : Ed.Pt} (h : Ed.Pt.mul 8 T = Ed.Pt.zero) : Ed.Pt.mul 8 (P + T) = Ed.Pt.mul 8 P := by rw [Ed.Pt.mul_sum, h, Ed.Pt.add_zero]
theorem tor_s {p : P4} {T : Ed.Pt} (h : Rq p T) (h8 : Ed.Pt.mul 8 T = Ed.Pt.zero) : SaC p true := by
  have := small_e h
  rwa [h8, enc_zero, show decide ((1 : Nat) = 1) = true from rfl] at this
theorem four_row {u : World} {g : Nat} {bt : TypeId} {l0 l1 l2 l3 : List UInt8} (h : Blk u g bt (rws 4 (fourQ l0 l1 l2 l3)).toArray) (h0 : l0.length = 32) (h1 : l1.length = 32) (h2 : l2.length = 32) (h3 : l3.length = 32) (i : Nat) (hi : i < 4) : u.rangeAt g (32 * i) (fourQ l0 l1 l2 l3 i) :=
  Blk.row (k := 32) h (fun i => by unfold fourQ; split <;> simp [*]) hi

set_option maxRecDepth 100000 in
set_option maxHeartbeats 4000000 in
theorem tor_w0 (x : List UInt8) (T : Ed.Pt) (n : Int) (w : World) (nx : x.length = 32) (hm : (IntKind.u64.wrap n).tmod 4 = 0) (hT : enc T = 1) (h8 : Ed.Pt.mul 8 T = Ed.Pt.zero) : Calls Try.prog 6 #[ab x, .int .i64 n] w fun e w' => e = .returned (.bool true) ∧ Kept [] w w' := by
  obtain ⟨s0, s1, s2, s3, he, hl, v0, v1, v2, v3, hf⟩ := tor_lits
  have hs0 : s0 = le (enc T) 32 := by rw [he.1, hT]
  have ns0 : s0.length = 32 := by rw [hs0]; exact le_len _ _
  have cf := Lib.hid first_any
  obtain ⟨l1, hl1, nl1, vl1, u1⟩ := lit_1
  obtain ⟨l8, hl8, nl8, vl8, u8⟩ := lit_8
  obtain ⟨r1, c1, h1⟩ := dec_s hs0 (P := T) rfl
  obtain ⟨b, cb, hb⟩ := base_e
  obtain ⟨r2, c2, h2⟩ := mul_s hb nx
  have c3 : SaC r1 true := tor_s h1 h8
  obtain ⟨r4, c4, h4⟩ := add_e h2 h1
  obtain ⟨r5, c5, h5⟩ := mul_s h4 nl8
  rw [vl8] at h5
  obtain ⟨H1, hH1, nH1⟩ : ∃ l : List UInt8, l = le (enc (Ed.Pt.mul 8 (Ed.Pt.mul (leV x) BB))) 32 ∧ l.length = 32 := ⟨_, rfl, le_len _ _⟩
  have c6 : HsC r5 H1 := hash_l hH1 h5 (tor_e h8)
  obtain ⟨r7, c7, h7⟩ := mul_s h2 nl8
  rw [vl8] at h7
  have c8 : HsC r7 H1 := hash_l hH1 h7 rfl
  obtain ⟨r9, c9, h9⟩ := mul_s h1 nl8
  rw [vl8] at h9
  have c10 : HsC r9 l1 := hash_1 hl1 h9 h8
  have Q59 : (H1 == H1) = true := beq_self_eq_true _
  have q59 := eql_run Q59 nH1 nH1
  have Q67 : (l1 == l1) = true := beq_self_eq_true _
  have q67 := eql_run Q67 nl1 nl1
  replace Q59 := Lib.hid Q59
  replace Q67 := Lib.hid Q67
  replace c1 := Lib.hid c1
  replace c10 := Lib.hid c10
  replace c2 := Lib.hid c2
  replace c3 := Lib.hid c3
  replace c4 := Lib.hid c4
  replace c5 := Lib.hid c5
  replace c6 := Lib.hid c6
  replace c7 := Lib.hid c7
  replace c8 := Lib.hid c8
  replace c9 := Lib.hid c9
  replace cb := Lib.hid cb
  replace nx := Lib.hid nx
  replace ns0 := Lib.hid ns0
  replace nH1 := Lib.hid nH1
  replace nl1 := Lib.hid nl1
  replace u1 := Lib.hid u1
  replace nl8 := Lib.hid nl8
  replace u8 := Lib.hid u8
  clear hs0 hH1 hl1 vl1 hl8 vl8 h1 hb h2 h4 h5 h7 h9
  replace v0 := Lib.hid v0
  replace v1 := Lib.hid v1
  replace v2 := Lib.hid v2
  replace v3 := Lib.hid v3
  replace hf := Lib.hid hf
  replace hl := Lib.hid hl
  replace he := Lib.hid he
  clear hT
  go_enter Try.func6, Try.ntmps6
  have t := Lib.hid (Pm.none w)
  go_wp2_with (first
    | ((with_reducible refine wpl_box (o := ⟨some 2, _, _, _, _, _⟩) (v := ab x) rfl (.tmp 0) rfl rfl ?_); intro g2 w2 m2; replace t := Lib.hid ((t.out.kept m2.kept).cons (show Blk w2 g2 22 (bv x).toArray from m2.blk)); clear m2)
    | (go_at_call 10; (with_reducible refine (cf.out _).mono ?_); rintro e v ⟨rfl, kk⟩; replace t := Lib.hid (t.out.kept kk); clear kk)
    | (refine wpl_build1 (o := ⟨some 13, _, _, _, _, _⟩) rfl 0 (.const (.int .u8 1)) rfl rfl v0.out ?_)
    | (refine wpl_build0 (o := ⟨some 14, _, _, _, _, _⟩) rfl rfl v1.out ?_)
    | (refine wpl_build1 (o := ⟨some 15, _, _, _, _, _⟩) rfl 31 (.const (.int .u8 128)) rfl rfl v2.out ?_)
    | (refine wpl_build2 (o := ⟨some 16, _, _, _, _, _⟩) rfl 0 31 (.const (.int .u8 236)) (.const (.int .u8 127)) rfl rfl rfl v3.out ?_)
    | ((refine wpl_bslice4 (o := ⟨some 17, _, _, _, _, _⟩) rfl smallT rfl rfl rfl rfl rfl (by decide) (by decide) hf.out ?_); intro g5 w5 m5; replace t := Lib.hid ((t.out.kept m5.kept).cons (show Blk w5 g5 22 (rws 4 (fourQ s0 s1 s2 s3)).toArray from m5.blk)); clear m5; have R := Lib.hid (show w5.rangeAt g5 0 (bv s0) from four_row (t.out.s (g5, 22, (rws 4 (fourQ s0 s1 s2 s3)).toArray) (by simp)) hl.out.1 hl.out.2.1 hl.out.2.2.1 hl.out.2.2.2 0 (by omega)))
    | (refine wpl_loadp (o := ⟨some 23, _, _, _, _, _⟩) arrB.row rfl (.tmp 22) rfl rfl R.out (by simp [hl.out]) ?_)
    | ((with_reducible refine wpl_new (o := ⟨some 6, _, _, _, _, _⟩) rfl rfl zeroB ?_); intro g6 w6 m6; have N6 := Lib.hid (fun p hp => m6.ne (t.out.s p hp).lt); have L6 := Lib.hid (Nat.le_trans t.out.k.size m6.le))
    | ((refine wpl_store_arr (o := ⟨none, .store 22 (.tmp 6) (.tmp 23), _, _, _, _⟩) arrB rfl (.tmp 6) (.tmp 23) rfl rfl rfl m6.blk rfl (by simp [hl.out]) (one_ab _) ?_); intro v6 b6 k6; replace t := Lib.hid (show Pm w [(g6, 22, (bv s0).toArray), (g5, 22, (rws 4 (fourQ s0 s1 s2 s3)).toArray), (g2, 22, (bv x).toArray)] v6 from t.out.put m6 b6 k6); clear m6 b6 k6 R)
    | (with_reducible refine wpl_load_row (o := ⟨some 35, _, _, _, _, _⟩) arrB.row rfl (.tmp 6) rfl rfl (t.out.s (g6, 22, (bv s0).toArray) (by simp)) (bsize (ns0).out) ?_)
    | (go_at_call 11; (with_reducible refine (c1.out _).mono ?_); rintro e v ⟨rfl, kk⟩; replace t := Lib.hid (t.out.kept kk); clear kk)
    | ((with_reducible refine wpl_new (o := ⟨some 8, _, _, _, _, _⟩) rfl rfl zeroP4 ?_); intro g8 w8 m8)
    | ((refine wpl_store_row (o := ⟨none, .store 29 (.tmp 8) (.tmp 37), _, _, _, _⟩) structPt rfl (.tmp 8) (.tmp 37) rfl rfl rfl m8.blk pz.size (P4.size _) (P4.one _) ?_); intro v8 b8 k8; replace t := Lib.hid (t.out.put m8 b8 k8); clear m8 b8 k8))
  refine wp_multi (by kernel_rfl) [.val (b.v), .val (ab x), .val (r2.v), .new 29 (pz.v), .put 3 2 r2.c.toArray]
    (Pm w [(g8, 29, r1.c.toArray), (g6, 22, (bv s0).toArray), (g5, 22, (rws 4 (fourQ s0 s1 s2 s3)).toArray), (g2, 22, (bv x).toArray)]) (by kernel_rfl) (by kernel_rfl) t.out.drew (fun u u' T hS hk hT => t.out.fresh u u' T hS hk hT) ?_ ?_
  · refine ⟨?_, ?_, ?_, ⟨⟨_, rfl⟩, rfl, zeroP4⟩, ?_, trivial⟩
    · refine ⟨⟨_, rfl⟩, fun a' u K0 R hS hr ho h => wp_callf rfl enters_base (vs := #[]) ?_ (cb.out u) h⟩
      simp
    · exact ⟨⟨_, rfl⟩, fun a' u K0 R hS hr ho h => wp_loadr arrB.row (.tmp 2) rfl ((ho 2 (by decide)).trans rfl) (hS.s (g2, 22, (bv x).toArray) (by simp)) (bsize (nx).out) (h u (Kept.refl _ _))⟩
    · refine ⟨⟨_, rfl⟩, fun a' u K0 R hS hr ho h => wp_callf rfl enters_pmul (vs := #[b.v, ab x]) ?_ (c2.out u) h⟩
      have x0 := hr 0 (b.v) 39 _ rfl rfl rfl ⟨⟨0, .data⟩, by simp, rfl, rfl⟩
      have x1 := hr 1 (ab x) 40 _ rfl rfl rfl ⟨⟨1, .data⟩, by simp, rfl, rfl⟩
      simp [Act.eval] at x0 x1 ⊢
      exact ⟨x0, x1⟩
    · exact ⟨rfl, ⟨⟨3, .data⟩, by simp, rfl, rfl⟩, ⟨⟨2, .data⟩, by simp, rfl, rfl⟩, _, _, _, _, _, _, _, _, rfl, rfl, rfl, rfl, rfl, rfl, rfl, structPt, pz.size, P4.size _, P4.one _⟩
  intro γ wm hS hγ hne hput
  have b10 := hput 4 3 2 _ _ _ rfl rfl
  generalize e10 : γ 3 = g10 at *
  simp [actOf, VK, List.range, List.range.loop, Act.put, e10]
  replace t := Lib.hid (show Pm w [(g10, 29, r2.c.toArray), (g8, 29, r1.c.toArray), (g6, 22, (bv s0).toArray), (g5, 22, (rws 4 (fourQ s0 s1 s2 s3)).toArray), (g2, 22, (bv x).toArray)] wm from (hS).cons b10)
  clear b10 hput hne hγ hS e10
  go_wp2_with fail
  refine Txt.wp_textG [3, 7, 8, 10, 13, 14, 17, 20, 21, 24, 25] (Pm w [(g10, 29, r2.c.toArray), (g8, 29, r1.c.toArray), (g6, 22, (bv s0).toArray), (g5, 22, (rws 4 (fourQ s0 s1 s2 s3)).toArray), (g2, 22, (bv x).toArray)]) [[_, _, _, _, _], [_, _, _, _, _], [_], [_], [_], [_, _], [_], [_], [_, _, _, _, _], [_], [_], [_], [_, _, _]] (by kernel_rfl) (by kernel_rfl) rfl t.out.drew (Txt.segs_cons ?_)
  replace t := Lib.hid t.out.drew
  go_wp2_with (first
    | (with_reducible refine wpl_load_row (o := ⟨some 45, _, _, _, _, _⟩) structPt rfl (.tmp 8) rfl rfl (t.out.s (g8, 29, r1.c.toArray) (by simp)) (P4.size _) ?_)
    | (go_at_call 15; (with_reducible refine (c3.out _).mono ?_); rintro e v ⟨rfl, kk⟩; replace t := Lib.hid (t.out.kept kk); clear kk))
  refine ⟨rfl, t.out, Txt.segs_cons ?_⟩
  go_wp2_with (first
    | (with_reducible refine wpl_load_row (o := ⟨some 49, _, _, _, _, _⟩) structPt rfl (.tmp 10) rfl rfl (t.out.s (g10, 29, r2.c.toArray) (by simp)) (P4.size _) ?_)
    | (with_reducible refine wpl_load_row (o := ⟨some 50, _, _, _, _, _⟩) structPt rfl (.tmp 8) rfl rfl (t.out.s (g8, 29, r1.c.toArray) (by simp)) (P4.size _) ?_)
    | (go_at_call 19; (with_reducible refine (c4.out _).mono ?_); rintro e v ⟨rfl, kk⟩; replace t := Lib.hid (t.out.kept kk); clear kk))
  refine ⟨rfl, t.out, Txt.segs_cons ?_⟩
  go_wp2_with (first
    | (refine wpl_build1 (o := ⟨some 52, _, _, _, _, _⟩) rfl 0 (.const (.int .u8 8)) rfl rfl u8.out ?_))
  refine ⟨rfl, t.out, Txt.segs_cons ?_⟩
  go_wp2_with (first
    | (go_at_call 18; (with_reducible refine (c5.out _).mono ?_); rintro e v ⟨rfl, kk⟩; replace t := Lib.hid (t.out.kept kk); clear kk))
  refine ⟨rfl, t.out, Txt.segs_cons ?_⟩
  go_wp2_with (first
    | (go_at_call 14; (with_reducible refine (c6.out _).mono ?_); rintro e v ⟨rfl, kk⟩; replace t := Lib.hid (t.out.kept kk); clear kk))
  refine ⟨rfl, t.out, Txt.segs_cons ?_⟩
  go_wp2_with (first
    | (with_reducible refine wpl_load_row (o := ⟨some 55, _, _, _, _, _⟩) structPt rfl (.tmp 10) rfl rfl (t.out.s (g10, 29, r2.c.toArray) (by simp)) (P4.size _) ?_)
    | (refine wpl_build1 (o := ⟨some 56, _, _, _, _, _⟩) rfl 0 (.const (.int .u8 8)) rfl rfl u8.out ?_))
  refine ⟨rfl, t.out, Txt.segs_cons ?_⟩
  go_wp2_with (first
    | (go_at_call 18; (with_reducible refine (c7.out _).mono ?_); rintro e v ⟨rfl, kk⟩; replace t := Lib.hid (t.out.kept kk); clear kk))
  refine ⟨rfl, t.out, Txt.segs_cons ?_⟩
  go_wp2_with (first
    | (go_at_call 14; (with_reducible refine (c8.out _).mono ?_); rintro e v ⟨rfl, kk⟩; replace t := Lib.hid (t.out.kept kk); clear kk))
  refine ⟨rfl, t.out, Txt.segs_cons ?_⟩
  go_wp2_with (first
    | (with_reducible refine wpl_load_row (o := ⟨some 62, _, _, _, _, _⟩) structPt rfl (.tmp 8) rfl rfl (t.out.s (g8, 29, r1.c.toArray) (by simp)) (P4.size _) ?_)
    | (refine wpl_build1 (o := ⟨some 63, _, _, _, _, _⟩) rfl 0 (.const (.int .u8 8)) rfl rfl u8.out ?_))
  refine ⟨rfl, t.out, Txt.segs_cons ?_⟩
  go_wp2_with (first
    | (go_at_call 18; (with_reducible refine (c9.out _).mono ?_); rintro e v ⟨rfl, kk⟩; replace t := Lib.hid (t.out.kept kk); clear kk))
  refine ⟨rfl, t.out, Txt.segs_cons ?_⟩
  go_wp2_with (first
    | (go_at_call 14; (with_reducible refine (c10.out _).mono ?_); rintro e v ⟨rfl, kk⟩; replace t := Lib.hid (t.out.kept kk); clear kk))
  refine ⟨rfl, t.out, Txt.segs_cons ?_⟩
  go_wp2_with (first
    | (refine wpl_build1 (o := ⟨some 66, _, _, _, _, _⟩) rfl 0 (.const (.int .u8 1)) rfl rfl u1.out ?_))
  refine ⟨rfl, t.out, Txt.segs_cons ?_⟩
  go_wp2_with fail
  refine ⟨rfl, t.out, Txt.segs_nil ⟨⟨by kernel_rfl, ?_⟩, ?_⟩⟩
  · intro j hj o ho hw
    have hj2 : j = 3 ∨ j = 7 ∨ j = 8 ∨ j = 10 ∨ j = 13 ∨ j = 14 ∨ j = 17 ∨ j = 20 ∨ j = 21 ∨ j = 24 ∨ j = 25 := by simpa using hj
    rcases hj2 with rfl | rfl | rfl | rfl | rfl | rfl | rfl | rfl | rfl | rfl | rfl <;> cases ho
    · exact ⟨45, rfl, fun u hu => exec_load structPt (.tmp 8) rfl rfl (hu.s (g8, 29, r1.c.toArray) (by simp)) (P4.size _)⟩
    · exact ⟨49, rfl, fun u hu => exec_load structPt (.tmp 10) rfl rfl (hu.s (g10, 29, r2.c.toArray) (by simp)) (P4.size _)⟩
    · exact ⟨50, rfl, fun u hu => exec_load structPt (.tmp 8) rfl rfl (hu.s (g8, 29, r1.c.toArray) (by simp)) (P4.size _)⟩
    · exact ⟨52, rfl, fun u _ => exec_build1 0 (.const (.int .u8 8)) rfl rfl u8.out⟩
    · exact ⟨55, rfl, fun u hu => exec_load structPt (.tmp 10) rfl rfl (hu.s (g10, 29, r2.c.toArray) (by simp)) (P4.size _)⟩
    · exact ⟨56, rfl, fun u _ => exec_build1 0 (.const (.int .u8 8)) rfl rfl u8.out⟩
    · exact ⟨59, rfl, fun u _ => exec_eqb (.tmp 54) (.tmp 58) rfl rfl rfl Q59.out nH1.out nH1.out⟩
    · exact ⟨62, rfl, fun u hu => exec_load structPt (.tmp 8) rfl rfl (hu.s (g8, 29, r1.c.toArray) (by simp)) (P4.size _)⟩
    · exact ⟨63, rfl, fun u _ => exec_build1 0 (.const (.int .u8 8)) rfl rfl u8.out⟩
    · exact ⟨66, rfl, fun u _ => exec_build1 0 (.const (.int .u8 1)) rfl rfl u1.out⟩
    · exact ⟨67, rfl, fun u _ => exec_eqb (.tmp 65) (.tmp 66) rfl rfl rfl Q67.out nl1.out nl1.out⟩
  go_wp2_with fail
  go_ret
  exact ⟨rfl, t.out.k⟩
set_option maxRecDepth 100000 in
set_option maxHeartbeats 4000000 in
theorem tor_w1 (x : List UInt8) (T : Ed.Pt) (n : Int) (w : World) (nx : x.length = 32) (hm : (IntKind.u64.wrap n).tmod 4 = 1) (hT : enc T = 0) (h8 : Ed.Pt.mul 8 T = Ed.Pt.zero) : Calls Try.prog 6 #[ab x, .int .i64 n] w fun e w' => e = .returned (.bool true) ∧ Kept [] w w' := by
  obtain ⟨s0, s1, s2, s3, he, hl, v0, v1, v2, v3, hf⟩ := tor_lits
  have hs1 : s1 = le (enc T) 32 := by rw [he.2.1, hT]
  have ns1 : s1.length = 32 := by rw [hs1]; exact le_len _ _
  have cf := Lib.hid first_any
  obtain ⟨l1, hl1, nl1, vl1, u1⟩ := lit_1
  obtain ⟨l8, hl8, nl8, vl8, u8⟩ := lit_8
  obtain ⟨r1, c1, h1⟩ := dec_s hs1 (P := T) rfl
  obtain ⟨b, cb, hb⟩ := base_e
  obtain ⟨r2, c2, h2⟩ := mul_s hb nx
  have c3 : SaC r1 true := tor_s h1 h8
  obtain ⟨r4, c4, h4⟩ := add_e h2 h1
  obtain ⟨r5, c5, h5⟩ := mul_s h4 nl8
  rw [vl8] at h5
  obtain ⟨H1, hH1, nH1⟩ : ∃ l : List UInt8, l = le (enc (Ed.Pt.mul 8 (Ed.Pt.mul (leV x) BB))) 32 ∧ l.length = 32 := ⟨_, rfl, le_len _ _⟩
  have c6 : HsC r5 H1 := hash_l hH1 h5 (tor_e h8)
  obtain ⟨r7, c7, h7⟩ := mul_s h2 nl8
  rw [vl8] at h7
  have c8 : HsC r7 H1 := hash_l hH1 h7 rfl
  obtain ⟨r9, c9, h9⟩ := mul_s h1 nl8
  rw [vl8] at h9
  have c10 : HsC r9 l1 := hash_1 hl1 h9 h8
  have Q59 : (H1 == H1) = true := beq_self_eq_true _
  have q59 := eql_run Q59 nH1 nH1
  have Q67 : (l1 == l1) = true := beq_self_eq_true _
  have q67 := eql_run Q67 nl1 nl1
  replace Q59 := Lib.hid Q59
  replace Q67 := Lib.hid Q67
  replace c1 := Lib.hid c1
  replace c10 := Lib.hid c10
  replace c2 := Lib.hid c2
  replace c3 := Lib.hid c3
  replace c4 := Lib.hid c4
  replace c5 := Lib.hid c5
  replace c6 := Lib.hid c6
  replace c7 := Lib.hid c7
  replace c8 := Lib.hid c8
  replace c9 := Lib.hid c9
  replace cb := Lib.hid cb
  replace nx := Lib.hid nx
  replace ns1 := Lib.hid ns1
  replace nH1 := Lib.hid nH1
  replace nl1 := Lib.hid nl1
  replace u1 := Lib.hid u1
  replace nl8 := Lib.hid nl8
  replace u8 := Lib.hid u8
  clear hs1 hH1 hl1 vl1 hl8 vl8 h1 hb h2 h4 h5 h7 h9
  replace v0 := Lib.hid v0
  replace v1 := Lib.hid v1
  replace v2 := Lib.hid v2
  replace v3 := Lib.hid v3
  replace hf := Lib.hid hf
  replace hl := Lib.hid hl
  replace he := Lib.hid he
  clear hT
  go_enter Try.func6, Try.ntmps6
  have t := Lib.hid (Pm.none w)
  go_wp2_with (first
    | ((with_reducible refine wpl_box (o := ⟨some 2, _, _, _, _, _⟩) (v := ab x) rfl (.tmp 0) rfl rfl ?_); intro g2 w2 m2; replace t := Lib.hid ((t.out.kept m2.kept).cons (show Blk w2 g2 22 (bv x).toArray from m2.blk)); clear m2)
    | (go_at_call 10; (with_reducible refine (cf.out _).mono ?_); rintro e v ⟨rfl, kk⟩; replace t := Lib.hid (t.out.kept kk); clear kk)
    | (refine wpl_build1 (o := ⟨some 13, _, _, _, _, _⟩) rfl 0 (.const (.int .u8 1)) rfl rfl v0.out ?_)
    | (refine wpl_build0 (o := ⟨some 14, _, _, _, _, _⟩) rfl rfl v1.out ?_)
    | (refine wpl_build1 (o := ⟨some 15, _, _, _, _, _⟩) rfl 31 (.const (.int .u8 128)) rfl rfl v2.out ?_)
    | (refine wpl_build2 (o := ⟨some 16, _, _, _, _, _⟩) rfl 0 31 (.const (.int .u8 236)) (.const (.int .u8 127)) rfl rfl rfl v3.out ?_)
    | ((refine wpl_bslice4 (o := ⟨some 17, _, _, _, _, _⟩) rfl smallT rfl rfl rfl rfl rfl (by decide) (by decide) hf.out ?_); intro g5 w5 m5; replace t := Lib.hid ((t.out.kept m5.kept).cons (show Blk w5 g5 22 (rws 4 (fourQ s0 s1 s2 s3)).toArray from m5.blk)); clear m5; have R := Lib.hid (show w5.rangeAt g5 32 (bv s1) from four_row (t.out.s (g5, 22, (rws 4 (fourQ s0 s1 s2 s3)).toArray) (by simp)) hl.out.1 hl.out.2.1 hl.out.2.2.1 hl.out.2.2.2 1 (by omega)))
    | (refine wpl_loadp (o := ⟨some 23, _, _, _, _, _⟩) arrB.row rfl (.tmp 22) rfl rfl R.out (by simp [hl.out]) ?_)
    | ((with_reducible refine wpl_new (o := ⟨some 6, _, _, _, _, _⟩) rfl rfl zeroB ?_); intro g6 w6 m6; have N6 := Lib.hid (fun p hp => m6.ne (t.out.s p hp).lt); have L6 := Lib.hid (Nat.le_trans t.out.k.size m6.le))
    | ((refine wpl_store_arr (o := ⟨none, .store 22 (.tmp 6) (.tmp 23), _, _, _, _⟩) arrB rfl (.tmp 6) (.tmp 23) rfl rfl rfl m6.blk rfl (by simp [hl.out]) (one_ab _) ?_); intro v6 b6 k6; replace t := Lib.hid (show Pm w [(g6, 22, (bv s1).toArray), (g5, 22, (rws 4 (fourQ s0 s1 s2 s3)).toArray), (g2, 22, (bv x).toArray)] v6 from t.out.put m6 b6 k6); clear m6 b6 k6 R)
    | (with_reducible refine wpl_load_row (o := ⟨some 35, _, _, _, _, _⟩) arrB.row rfl (.tmp 6) rfl rfl (t.out.s (g6, 22, (bv s1).toArray) (by simp)) (bsize (ns1).out) ?_)
    | (go_at_call 11; (with_reducible refine (c1.out _).mono ?_); rintro e v ⟨rfl, kk⟩; replace t := Lib.hid (t.out.kept kk); clear kk)
    | ((with_reducible refine wpl_new (o := ⟨some 8, _, _, _, _, _⟩) rfl rfl zeroP4 ?_); intro g8 w8 m8)
    | ((refine wpl_store_row (o := ⟨none, .store 29 (.tmp 8) (.tmp 37), _, _, _, _⟩) structPt rfl (.tmp 8) (.tmp 37) rfl rfl rfl m8.blk pz.size (P4.size _) (P4.one _) ?_); intro v8 b8 k8; replace t := Lib.hid (t.out.put m8 b8 k8); clear m8 b8 k8))
  refine wp_multi (by kernel_rfl) [.val (b.v), .val (ab x), .val (r2.v), .new 29 (pz.v), .put 3 2 r2.c.toArray]
    (Pm w [(g8, 29, r1.c.toArray), (g6, 22, (bv s1).toArray), (g5, 22, (rws 4 (fourQ s0 s1 s2 s3)).toArray), (g2, 22, (bv x).toArray)]) (by kernel_rfl) (by kernel_rfl) t.out.drew (fun u u' T hS hk hT => t.out.fresh u u' T hS hk hT) ?_ ?_
  · refine ⟨?_, ?_, ?_, ⟨⟨_, rfl⟩, rfl, zeroP4⟩, ?_, trivial⟩
    · refine ⟨⟨_, rfl⟩, fun a' u K0 R hS hr ho h => wp_callf rfl enters_base (vs := #[]) ?_ (cb.out u) h⟩
      simp
    · exact ⟨⟨_, rfl⟩, fun a' u K0 R hS hr ho h => wp_loadr arrB.row (.tmp 2) rfl ((ho 2 (by decide)).trans rfl) (hS.s (g2, 22, (bv x).toArray) (by simp)) (bsize (nx).out) (h u (Kept.refl _ _))⟩
    · refine ⟨⟨_, rfl⟩, fun a' u K0 R hS hr ho h => wp_callf rfl enters_pmul (vs := #[b.v, ab x]) ?_ (c2.out u) h⟩
      have x0 := hr 0 (b.v) 39 _ rfl rfl rfl ⟨⟨0, .data⟩, by simp, rfl, rfl⟩
      have x1 := hr 1 (ab x) 40 _ rfl rfl rfl ⟨⟨1, .data⟩, by simp, rfl, rfl⟩
      simp [Act.eval] at x0 x1 ⊢
      exact ⟨x0, x1⟩
    · exact ⟨rfl, ⟨⟨3, .data⟩, by simp, rfl, rfl⟩, ⟨⟨2, .data⟩, by simp, rfl, rfl⟩, _, _, _, _, _, _, _, _, rfl, rfl, rfl, rfl, rfl, rfl, rfl, structPt, pz.size, P4.size _, P4.one _⟩
  intro γ wm hS hγ hne hput
  have b10 := hput 4 3 2 _ _ _ rfl rfl
  generalize e10 : γ 3 = g10 at *
  simp [actOf, VK, List.range, List.range.loop, Act.put, e10]
  replace t := Lib.hid (show Pm w [(g10, 29, r2.c.toArray), (g8, 29, r1.c.toArray), (g6, 22, (bv s1).toArray), (g5, 22, (rws 4 (fourQ s0 s1 s2 s3)).toArray), (g2, 22, (bv x).toArray)] wm from (hS).cons b10)
  clear b10 hput hne hγ hS e10
  go_wp2_with fail
  refine Txt.wp_textG [3, 7, 8, 10, 13, 14, 17, 20, 21, 24, 25] (Pm w [(g10, 29, r2.c.toArray), (g8, 29, r1.c.toArray), (g6, 22, (bv s1).toArray), (g5, 22, (rws 4 (fourQ s0 s1 s2 s3)).toArray), (g2, 22, (bv x).toArray)]) [[_, _, _, _, _], [_, _, _, _, _], [_], [_], [_], [_, _], [_], [_], [_, _, _, _, _], [_], [_], [_], [_, _, _]] (by kernel_rfl) (by kernel_rfl) rfl t.out.drew (Txt.segs_cons ?_)
  replace t := Lib.hid t.out.drew
  go_wp2_with (first
    | (with_reducible refine wpl_load_row (o := ⟨some 45, _, _, _, _, _⟩) structPt rfl (.tmp 8) rfl rfl (t.out.s (g8, 29, r1.c.toArray) (by simp)) (P4.size _) ?_)
    | (go_at_call 15; (with_reducible refine (c3.out _).mono ?_); rintro e v ⟨rfl, kk⟩; replace t := Lib.hid (t.out.kept kk); clear kk))
  refine ⟨rfl, t.out, Txt.segs_cons ?_⟩
  go_wp2_with (first
    | (with_reducible refine wpl_load_row (o := ⟨some 49, _, _, _, _, _⟩) structPt rfl (.tmp 10) rfl rfl (t.out.s (g10, 29, r2.c.toArray) (by simp)) (P4.size _) ?_)
    | (with_reducible refine wpl_load_row (o := ⟨some 50, _, _, _, _, _⟩) structPt rfl (.tmp 8) rfl rfl (t.out.s (g8, 29, r1.c.toArray) (by simp)) (P4.size _) ?_)
    | (go_at_call 19; (with_reducible refine (c4.out _).mono ?_); rintro e v ⟨rfl, kk⟩; replace t := Lib.hid (t.out.kept kk); clear kk))
  refine ⟨rfl, t.out, Txt.segs_cons ?_⟩
  go_wp2_with (first
    | (refine wpl_build1 (o := ⟨some 52, _, _, _, _, _⟩) rfl 0 (.const (.int .u8 8)) rfl rfl u8.out ?_))
  refine ⟨rfl, t.out, Txt.segs_cons ?_⟩
  go_wp2_with (first
    | (go_at_call 18; (with_reducible refine (c5.out _).mono ?_); rintro e v ⟨rfl, kk⟩; replace t := Lib.hid (t.out.kept kk); clear kk))
  refine ⟨rfl, t.out, Txt.segs_cons ?_⟩
  go_wp2_with (first
    | (go_at_call 14; (with_reducible refine (c6.out _).mono ?_); rintro e v ⟨rfl, kk⟩; replace t := Lib.hid (t.out.kept kk); clear kk))
  refine ⟨rfl, t.out, Txt.segs_cons ?_⟩
  go_wp2_with (first
    | (with_reducible refine wpl_load_row (o := ⟨some 55, _, _, _, _, _⟩) structPt rfl (.tmp 10) rfl rfl (t.out.s (g10, 29, r2.c.toArray) (by simp)) (P4.size _) ?_)
    | (refine wpl_build1 (o := ⟨some 56, _, _, _, _, _⟩) rfl 0 (.const (.int .u8 8)) rfl rfl u8.out ?_))
  refine ⟨rfl, t.out, Txt.segs_cons ?_⟩
  go_wp2_with (first
    | (go_at_call 18; (with_reducible refine (c7.out _).mono ?_); rintro e v ⟨rfl, kk⟩; replace t := Lib.hid (t.out.kept kk); clear kk))
  refine ⟨rfl, t.out, Txt.segs_cons ?_⟩
  go_wp2_with (first
    | (go_at_call 14; (with_reducible refine (c8.out _).mono ?_); rintro e v ⟨rfl, kk⟩; replace t := Lib.hid (t.out.kept kk); clear kk))
  refine ⟨rfl, t.out, Txt.segs_cons ?_⟩
  go_wp2_with (first
    | (with_reducible refine wpl_load_row (o := ⟨some 62, _, _, _, _, _⟩) structPt rfl (.tmp 8) rfl rfl (t.out.s (g8, 29, r1.c.toArray) (by simp)) (P4.size _) ?_)
    | (refine wpl_build1 (o := ⟨some 63, _, _, _, _, _⟩) rfl 0 (.const (.int .u8 8)) rfl rfl u8.out ?_))
  refine ⟨rfl, t.out, Txt.segs_cons ?_⟩
  go_wp2_with (first
    | (go_at_call 18; (with_reducible refine (c9.out _).mono ?_); rintro e v ⟨rfl, kk⟩; replace t := Lib.hid (t.out.kept kk); clear kk))
  refine ⟨rfl, t.out, Txt.segs_cons ?_⟩
  go_wp2_with (first
    | (go_at_call 14; (with_reducible refine (c10.out _).mono ?_); rintro e v ⟨rfl, kk⟩; replace t := Lib.hid (t.out.kept kk); clear kk))
  refine ⟨rfl, t.out, Txt.segs_cons ?_⟩
  go_wp2_with (first
    | (refine wpl_build1 (o := ⟨some 66, _, _, _, _, _⟩) rfl 0 (.const (.int .u8 1)) rfl rfl u1.out ?_))
  refine ⟨rfl, t.out, Txt.segs_cons ?_⟩
  go_wp2_with fail
  refine ⟨rfl, t.out, Txt.segs_nil ⟨⟨by kernel_rfl, ?_⟩, ?_⟩⟩
  · intro j hj o ho hw
    have hj2 : j = 3 ∨ j = 7 ∨ j = 8 ∨ j = 10 ∨ j = 13 ∨ j = 14 ∨ j = 17 ∨ j = 20 ∨ j = 21 ∨ j = 24 ∨ j = 25 := by simpa using hj
    rcases hj2 with rfl | rfl | rfl | rfl | rfl | rfl | rfl | rfl | rfl | rfl | rfl <;> cases ho
    · exact ⟨45, rfl, fun u hu => exec_load structPt (.tmp 8) rfl rfl (hu.s (g8, 29, r1.c.toArray) (by simp)) (P4.size _)⟩
    · exact ⟨49, rfl, fun u hu => exec_load structPt (.tmp 10) rfl rfl (hu.s (g10, 29, r2.c.toArray) (by simp)) (P4.size _)⟩
    · exact ⟨50, rfl, fun u hu => exec_load structPt (.tmp 8) rfl rfl (hu.s (g8, 29, r1.c.toArray) (by simp)) (P4.size _)⟩
    · exact ⟨52, rfl, fun u _ => exec_build1 0 (.const (.int .u8 8)) rfl rfl u8.out⟩
    · exact ⟨55, rfl, fun u hu => exec_load structPt (.tmp 10) rfl rfl (hu.s (g10, 29, r2.c.toArray) (by simp)) (P4.size _)⟩
    · exact ⟨56, rfl, fun u _ => exec_build1 0 (.const (.int .u8 8)) rfl rfl u8.out⟩
    · exact ⟨59, rfl, fun u _ => exec_eqb (.tmp 54) (.tmp 58) rfl rfl rfl Q59.out nH1.out nH1.out⟩
    · exact ⟨62, rfl, fun u hu => exec_load structPt (.tmp 8) rfl rfl (hu.s (g8, 29, r1.c.toArray) (by simp)) (P4.size _)⟩
    · exact ⟨63, rfl, fun u _ => exec_build1 0 (.const (.int .u8 8)) rfl rfl u8.out⟩
    · exact ⟨66, rfl, fun u _ => exec_build1 0 (.const (.int .u8 1)) rfl rfl u1.out⟩
    · exact ⟨67, rfl, fun u _ => exec_eqb (.tmp 65) (.tmp 66) rfl rfl rfl Q67.out nl1.out nl1.out⟩
  go_wp2_with fail
  go_ret
  exact ⟨rfl, t.out.k⟩
set_option maxRecDepth 100000 in
set_option maxHeartbeats 4000000 in
theorem tor_w2 (x : List UInt8) (T : Ed.Pt) (n : Int) (w : World) (nx : x.length = 32) (hm : (IntKind.u64.wrap n).tmod 4 = 2) (hT : enc T = T255) (h8 : Ed.Pt.mul 8 T = Ed.Pt.zero) : Calls Try.prog 6 #[ab x, .int .i64 n] w fun e w' => e = .returned (.bool true) ∧ Kept [] w w' := by
  obtain ⟨s0, s1, s2, s3, he, hl, v0, v1, v2, v3, hf⟩ := tor_lits
  have hs2 : s2 = le (enc T) 32 := by rw [he.2.2.1, hT]
  have ns2 : s2.length = 32 := by rw [hs2]; exact le_len _ _
  have cf := Lib.hid first_any
  obtain ⟨l1, hl1, nl1, vl1, u1⟩ := lit_1
  obtain ⟨l8, hl8, nl8, vl8, u8⟩ := lit_8
  obtain ⟨r1, c1, h1⟩ := dec_s hs2 (P := T) rfl
  obtain ⟨b, cb, hb⟩ := base_e
  obtain ⟨r2, c2, h2⟩ := mul_s hb nx
  have c3 : SaC r1 true := tor_s h1 h8
  obtain ⟨r4, c4, h4⟩ := add_e h2 h1
  obtain ⟨r5, c5, h5⟩ := mul_s h4 nl8
  rw [vl8] at h5
  obtain ⟨H1, hH1, nH1⟩ : ∃ l : List UInt8, l = le (enc (Ed.Pt.mul 8 (Ed.Pt.mul (leV x) BB))) 32 ∧ l.length = 32 := ⟨_, rfl, le_len _ _⟩
  have c6 : HsC r5 H1 := hash_l hH1 h5 (tor_e h8)
  obtain ⟨r7, c7, h7⟩ := mul_s h2 nl8
  rw [vl8] at h7
  have c8 : HsC r7 H1 := hash_l hH1 h7 rfl
  obtain ⟨r9, c9, h9⟩ := mul_s h1 nl8
  rw [vl8] at h9
  have c10 : HsC r9 l1 := hash_1 hl1 h9 h8
  have Q59 : (H1 == H1) = true := beq_self_eq_true _
  have q59 := eql_run Q59 nH1 nH1
  have Q67 : (l1 == l1) = true := beq_self_eq_true _
  have q67 := eql_run Q67 nl1 nl1
  replace Q59 := Lib.hid Q59
  replace Q67 := Lib.hid Q67
  replace c1 := Lib.hid c1
  replace c10 := Lib.hid c10
  replace c2 := Lib.hid c2
  replace c3 := Lib.hid c3
  replace c4 := Lib.hid c4
  replace c5 := Lib.hid c5
  replace c6 := Lib.hid c6
  replace c7 := Lib.hid c7
  replace c8 := Lib.hid c8
  replace c9 := Lib.hid c9
  replace cb := Lib.hid cb
  replace nx := Lib.hid nx
  replace ns2 := Lib.hid ns2
  replace nH1 := Lib.hid nH1
  replace nl1 := Lib.hid nl1
  replace u1 := Lib.hid u1
  replace nl8 := Lib.hid nl8
  replace u8 := Lib.hid u8
  clear hs2 hH1 hl1 vl1 hl8 vl8 h1 hb h2 h4 h5 h7 h9
  replace v0 := Lib.hid v0
  replace v1 := Lib.hid v1
  replace v2 := Lib.hid v2
  replace v3 := Lib.hid v3
  replace hf := Lib.hid hf
  replace hl := Lib.hid hl
  replace he := Lib.hid he
  clear hT
  go_enter Try.func6, Try.ntmps6
  have t := Lib.hid (Pm.none w)
  go_wp2_with (first
    | ((with_reducible refine wpl_box (o := ⟨some 2, _, _, _, _, _⟩) (v := ab x) rfl (.tmp 0) rfl rfl ?_); intro g2 w2 m2; replace t := Lib.hid ((t.out.kept m2.kept).cons (show Blk w2 g2 22 (bv x).toArray from m2.blk)); clear m2)
    | (go_at_call 10; (with_reducible refine (cf.out _).mono ?_); rintro e v ⟨rfl, kk⟩; replace t := Lib.hid (t.out.kept kk); clear kk)
    | (refine wpl_build1 (o := ⟨some 13, _, _, _, _, _⟩) rfl 0 (.const (.int .u8 1)) rfl rfl v0.out ?_)
    | (refine wpl_build0 (o := ⟨some 14, _, _, _, _, _⟩) rfl rfl v1.out ?_)
    | (refine wpl_build1 (o := ⟨some 15, _, _, _, _, _⟩) rfl 31 (.const (.int .u8 128)) rfl rfl v2.out ?_)
    | (refine wpl_build2 (o := ⟨some 16, _, _, _, _, _⟩) rfl 0 31 (.const (.int .u8 236)) (.const (.int .u8 127)) rfl rfl rfl v3.out ?_)
    | ((refine wpl_bslice4 (o := ⟨some 17, _, _, _, _, _⟩) rfl smallT rfl rfl rfl rfl rfl (by decide) (by decide) hf.out ?_); intro g5 w5 m5; replace t := Lib.hid ((t.out.kept m5.kept).cons (show Blk w5 g5 22 (rws 4 (fourQ s0 s1 s2 s3)).toArray from m5.blk)); clear m5; have R := Lib.hid (show w5.rangeAt g5 64 (bv s2) from four_row (t.out.s (g5, 22, (rws 4 (fourQ s0 s1 s2 s3)).toArray) (by simp)) hl.out.1 hl.out.2.1 hl.out.2.2.1 hl.out.2.2.2 2 (by omega)))
    | (refine wpl_loadp (o := ⟨some 23, _, _, _, _, _⟩) arrB.row rfl (.tmp 22) rfl rfl R.out (by simp [hl.out]) ?_)
    | ((with_reducible refine wpl_new (o := ⟨some 6, _, _, _, _, _⟩) rfl rfl zeroB ?_); intro g6 w6 m6; have N6 := Lib.hid (fun p hp => m6.ne (t.out.s p hp).lt); have L6 := Lib.hid (Nat.le_trans t.out.k.size m6.le))
    | ((refine wpl_store_arr (o := ⟨none, .store 22 (.tmp 6) (.tmp 23), _, _, _, _⟩) arrB rfl (.tmp 6) (.tmp 23) rfl rfl rfl m6.blk rfl (by simp [hl.out]) (one_ab _) ?_); intro v6 b6 k6; replace t := Lib.hid (show Pm w [(g6, 22, (bv s2).toArray), (g5, 22, (rws 4 (fourQ s0 s1 s2 s3)).toArray), (g2, 22, (bv x).toArray)] v6 from t.out.put m6 b6 k6); clear m6 b6 k6 R)
    | (with_reducible refine wpl_load_row (o := ⟨some 35, _, _, _, _, _⟩) arrB.row rfl (.tmp 6) rfl rfl (t.out.s (g6, 22, (bv s2).toArray) (by simp)) (bsize (ns2).out) ?_)
    | (go_at_call 11; (with_reducible refine (c1.out _).mono ?_); rintro e v ⟨rfl, kk⟩; replace t := Lib.hid (t.out.kept kk); clear kk)
    | ((with_reducible refine wpl_new (o := ⟨some 8, _, _, _, _, _⟩) rfl rfl zeroP4 ?_); intro g8 w8 m8)
    | ((refine wpl_store_row (o := ⟨none, .store 29 (.tmp 8) (.tmp 37), _, _, _, _⟩) structPt rfl (.tmp 8) (.tmp 37) rfl rfl rfl m8.blk pz.size (P4.size _) (P4.one _) ?_); intro v8 b8 k8; replace t := Lib.hid (t.out.put m8 b8 k8); clear m8 b8 k8))
  refine wp_multi (by kernel_rfl) [.val (b.v), .val (ab x), .val (r2.v), .new 29 (pz.v), .put 3 2 r2.c.toArray]
    (Pm w [(g8, 29, r1.c.toArray), (g6, 22, (bv s2).toArray), (g5, 22, (rws 4 (fourQ s0 s1 s2 s3)).toArray), (g2, 22, (bv x).toArray)]) (by kernel_rfl) (by kernel_rfl) t.out.drew (fun u u' T hS hk hT => t.out.fresh u u' T hS hk hT) ?_ ?_
  · refine ⟨?_, ?_, ?_, ⟨⟨_, rfl⟩, rfl, zeroP4⟩, ?_, trivial⟩
    · refine ⟨⟨_, rfl⟩, fun a' u K0 R hS hr ho h => wp_callf rfl enters_base (vs := #[]) ?_ (cb.out u) h⟩
      simp
    · exact ⟨⟨_, rfl⟩, fun a' u K0 R hS hr ho h => wp_loadr arrB.row (.tmp 2) rfl ((ho 2 (by decide)).trans rfl) (hS.s (g2, 22, (bv x).toArray) (by simp)) (bsize (nx).out) (h u (Kept.refl _ _))⟩
    · refine ⟨⟨_, rfl⟩, fun a' u K0 R hS hr ho h => wp_callf rfl enters_pmul (vs := #[b.v, ab x]) ?_ (c2.out u) h⟩
      have x0 := hr 0 (b.v) 39 _ rfl rfl rfl ⟨⟨0, .data⟩, by simp, rfl, rfl⟩
      have x1 := hr 1 (ab x) 40 _ rfl rfl rfl ⟨⟨1, .data⟩, by simp, rfl, rfl⟩
      simp [Act.eval] at x0 x1 ⊢
      exact ⟨x0, x1⟩
    · exact ⟨rfl, ⟨⟨3, .data⟩, by simp, rfl, rfl⟩, ⟨⟨2, .data⟩, by simp, rfl, rfl⟩, _, _, _, _, _, _, _, _, rfl, rfl, rfl, rfl, rfl, rfl, rfl, structPt, pz.size, P4.size _, P4.one _⟩
  intro γ wm hS hγ hne hput
  have b10 := hput 4 3 2 _ _ _ rfl rfl
  generalize e10 : γ 3 = g10 at *
  simp [actOf, VK, List.range, List.range.loop, Act.put, e10]
  replace t := Lib.hid (show Pm w [(g10, 29, r2.c.toArray), (g8, 29, r1.c.toArray), (g6, 22, (bv s2).toArray), (g5, 22, (rws 4 (fourQ s0 s1 s2 s3)).toArray), (g2, 22, (bv x).toArray)] wm from (hS).cons b10)
  clear b10 hput hne hγ hS e10
  go_wp2_with fail
  refine Txt.wp_textG [3, 7, 8, 10, 13, 14, 17, 20, 21, 24, 25] (Pm w [(g10, 29, r2.c.toArray), (g8, 29, r1.c.toArray), (g6, 22, (bv s2).toArray), (g5, 22, (rws 4 (fourQ s0 s1 s2 s3)).toArray), (g2, 22, (bv x).toArray)]) [[_, _, _, _, _], [_, _, _, _, _], [_], [_], [_], [_, _], [_], [_], [_, _, _, _, _], [_], [_], [_], [_, _, _]] (by kernel_rfl) (by kernel_rfl) rfl t.out.drew (Txt.segs_cons ?_)
  replace t := Lib.hid t.out.drew
  go_wp2_with (first
    | (with_reducible refine wpl_load_row (o := ⟨some 45, _, _, _, _, _⟩) structPt rfl (.tmp 8) rfl rfl (t.out.s (g8, 29, r1.c.toArray) (by simp)) (P4.size _) ?_)
    | (go_at_call 15; (with_reducible refine (c3.out _).mono ?_); rintro e v ⟨rfl, kk⟩; replace t := Lib.hid (t.out.kept kk); clear kk))
  refine ⟨rfl, t.out, Txt.segs_cons ?_⟩
  go_wp2_with (first
    | (with_reducible refine wpl_load_row (o := ⟨some 49, _, _, _, _, _⟩) structPt rfl (.tmp 10) rfl rfl (t.out.s (g10, 29, r2.c.toArray) (by simp)) (P4.size _) ?_)
    | (with_reducible refine wpl_load_row (o := ⟨some 50, _, _, _, _, _⟩) structPt rfl (.tmp 8) rfl rfl (t.out.s (g8, 29, r1.c.toArray) (by simp)) (P4.size _) ?_)
    | (go_at_call 19; (with_reducible refine (c4.out _).mono ?_); rintro e v ⟨rfl, kk⟩; replace t := Lib.hid (t.out.kept kk); clear kk))
  refine ⟨rfl, t.out, Txt.segs_cons ?_⟩
  go_wp2_with (first
    | (refine wpl_build1 (o := ⟨some 52, _, _, _, _, _⟩) rfl 0 (.const (.int .u8 8)) rfl rfl u8.out ?_))
  refine ⟨rfl, t.out, Txt.segs_cons ?_⟩
  go_wp2_with (first
    | (go_at_call 18; (with_reducible refine (c5.out _).mono ?_); rintro e v ⟨rfl, kk⟩; replace t := Lib.hid (t.out.kept kk); clear kk))
  refine ⟨rfl, t.out, Txt.segs_cons ?_⟩
  go_wp2_with (first
    | (go_at_call 14; (with_reducible refine (c6.out _).mono ?_); rintro e v ⟨rfl, kk⟩; replace t := Lib.hid (t.out.kept kk); clear kk))
  refine ⟨rfl, t.out, Txt.segs_cons ?_⟩
  go_wp2_with (first
    | (with_reducible refine wpl_load_row (o := ⟨some 55, _, _, _, _, _⟩) structPt rfl (.tmp 10) rfl rfl (t.out.s (g10, 29, r2.c.toArray) (by simp)) (P4.size _) ?_)
    | (refine wpl_build1 (o := ⟨some 56, _, _, _, _, _⟩) rfl 0 (.const (.int .u8 8)) rfl rfl u8.out ?_))
  refine ⟨rfl, t.out, Txt.segs_cons ?_⟩
  go_wp2_with (first
    | (go_at_call 18; (with_reducible refine (c7.out _).mono ?_); rintro e v ⟨rfl, kk⟩; replace t := Lib.hid (t.out.kept kk); clear kk))
  refine ⟨rfl, t.out, Txt.segs_cons ?_⟩
  go_wp2_with (first
    | (go_at_call 14; (with_reducible refine (c8.out _).mono ?_); rintro e v ⟨rfl, kk⟩; replace t := Lib.hid (t.out.kept kk); clear kk))
  refine ⟨rfl, t.out, Txt.segs_cons ?_⟩
  go_wp2_with (first
    | (with_reducible refine wpl_load_row (o := ⟨some 62, _, _, _, _, _⟩) structPt rfl (.tmp 8) rfl rfl (t.out.s (g8, 29, r1.c.toArray) (by simp)) (P4.size _) ?_)
    | (refine wpl_build1 (o := ⟨some 63, _, _, _, _, _⟩) rfl 0 (.const (.int .u8 8)) rfl rfl u8.out ?_))
  refine ⟨rfl, t.out, Txt.segs_cons ?_⟩
  go_wp2_with (first
    | (go_at_call 18; (with_reducible refine (c9.out _).mono ?_); rintro e v ⟨rfl, kk⟩; replace t := Lib.hid (t.out.kept kk); clear kk))
  refine ⟨rfl, t.out, Txt.segs_cons ?_⟩
  go_wp2_with (first
    | (go_at_call 14; (with_reducible refine (c10.out _).mono ?_); rintro e v ⟨rfl, kk⟩; replace t := Lib.hid (t.out.kept kk); clear kk))
  refine ⟨rfl, t.out, Txt.segs_cons ?_⟩
  go_wp2_with (first
    | (refine wpl_build1 (o := ⟨some 66, _, _, _, _, _⟩) rfl 0 (.const (.int .u8 1)) rfl rfl u1.out ?_))
  refine ⟨rfl, t.out, Txt.segs_cons ?_⟩
  go_wp2_with fail
  refine ⟨rfl, t.out, Txt.segs_nil ⟨⟨by kernel_rfl, ?_⟩, ?_⟩⟩
  · intro j hj o ho hw
    have hj2 : j = 3 ∨ j = 7 ∨ j = 8 ∨ j = 10 ∨ j = 13 ∨ j = 14 ∨ j = 17 ∨ j = 20 ∨ j = 21 ∨ j = 24 ∨ j = 25 := by simpa using hj
    rcases hj2 with rfl | rfl | rfl | rfl | rfl | rfl | rfl | rfl | rfl | rfl | rfl <;> cases ho
    · exact ⟨45, rfl, fun u hu => exec_load structPt (.tmp 8) rfl rfl (hu.s (g8, 29, r1.c.toArray) (by simp)) (P4.size _)⟩
    · exact ⟨49, rfl, fun u hu => exec_load structPt (.tmp 10) rfl rfl (hu.s (g10, 29, r2.c.toArray) (by simp)) (P4.size _)⟩
    · exact ⟨50, rfl, fun u hu => exec_load structPt (.tmp 8) rfl rfl (hu.s (g8, 29, r1.c.toArray) (by simp)) (P4.size _)⟩
    · exact ⟨52, rfl, fun u _ => exec_build1 0 (.const (.int .u8 8)) rfl rfl u8.out⟩
    · exact ⟨55, rfl, fun u hu => exec_load structPt (.tmp 10) rfl rfl (hu.s (g10, 29, r2.c.toArray) (by simp)) (P4.size _)⟩
    · exact ⟨56, rfl, fun u _ => exec_build1 0 (.const (.int .u8 8)) rfl rfl u8.out⟩
    · exact ⟨59, rfl, fun u _ => exec_eqb (.tmp 54) (.tmp 58) rfl rfl rfl Q59.out nH1.out nH1.out⟩
    · exact ⟨62, rfl, fun u hu => exec_load structPt (.tmp 8) rfl rfl (hu.s (g8, 29, r1.c.toArray) (by simp)) (P4.size _)⟩
    · exact ⟨63, rfl, fun u _ => exec_build1 0 (.const (.int .u8 8)) rfl rfl u8.out⟩
    · exact ⟨66, rfl, fun u _ => exec_build1 0 (.const (.int .u8 1)) rfl rfl u1.out⟩
    · exact ⟨67, rfl, fun u _ => exec_eqb (.tmp 65) (.tmp 66) rfl rfl rfl Q67.out nl1.out nl1.out⟩
  go_wp2_with fail
  go_ret
  exact ⟨rfl, t.out.k⟩
set_option maxRecDepth 100000 in
set_option maxHeartbeats 4000000 in
theorem tor_w3 (x : List UInt8) (T : Ed.Pt) (n : Int) (w : World) (nx : x.length = 32) (hm : (IntKind.u64.wrap n).tmod 4 = 3) (hT : enc T = PP - 1) (h8 : Ed.Pt.mul 8 T = Ed.Pt.zero) : Calls Try.prog 6 #[ab x, .int .i64 n] w fun e w' => e = .returned (.bool true) ∧ Kept [] w w' := by
  obtain ⟨s0, s1, s2, s3, he, hl, v0, v1, v2, v3, hf⟩ := tor_lits
  obtain ⟨lm, hlm, hfl, nlm⟩ : ∃ lm : List UInt8, lm = le (enc T) 32 ∧ lm = flL 31 ∧ lm.length = 32 := ⟨_, rfl, by rw [hT, fl_end], le_len _ _⟩
  replace hfl := Lib.hid hfl
  have cf := Lib.hid first_any
  obtain ⟨l1, hl1, nl1, vl1, u1⟩ := lit_1
  obtain ⟨l8, hl8, nl8, vl8, u8⟩ := lit_8
  obtain ⟨r1, c1, h1⟩ := dec_s hlm (P := T) rfl
  obtain ⟨b, cb, hb⟩ := base_e
  obtain ⟨r2, c2, h2⟩ := mul_s hb nx
  have c3 : SaC r1 true := tor_s h1 h8
  obtain ⟨r4, c4, h4⟩ := add_e h2 h1
  obtain ⟨r5, c5, h5⟩ := mul_s h4 nl8
  rw [vl8] at h5
  obtain ⟨H1, hH1, nH1⟩ : ∃ l : List UInt8, l = le (enc (Ed.Pt.mul 8 (Ed.Pt.mul (leV x) BB))) 32 ∧ l.length = 32 := ⟨_, rfl, le_len _ _⟩
  have c6 : HsC r5 H1 := hash_l hH1 h5 (tor_e h8)
  obtain ⟨r7, c7, h7⟩ := mul_s h2 nl8
  rw [vl8] at h7
  have c8 : HsC r7 H1 := hash_l hH1 h7 rfl
  obtain ⟨r9, c9, h9⟩ := mul_s h1 nl8
  rw [vl8] at h9
  have c10 : HsC r9 l1 := hash_1 hl1 h9 h8
  have Q59 : (H1 == H1) = true := beq_self_eq_true _
  have q59 := eql_run Q59 nH1 nH1
  have Q67 : (l1 == l1) = true := beq_self_eq_true _
  have q67 := eql_run Q67 nl1 nl1
  replace Q59 := Lib.hid Q59
  replace Q67 := Lib.hid Q67
  replace c1 := Lib.hid c1
  replace c10 := Lib.hid c10
  replace c2 := Lib.hid c2
  replace c3 := Lib.hid c3
  replace c4 := Lib.hid c4
  replace c5 := Lib.hid c5
  replace c6 := Lib.hid c6
  replace c7 := Lib.hid c7
  replace c8 := Lib.hid c8
  replace c9 := Lib.hid c9
  replace cb := Lib.hid cb
  replace nx := Lib.hid nx
  replace nlm := Lib.hid nlm
  replace nH1 := Lib.hid nH1
  replace nl1 := Lib.hid nl1
  replace u1 := Lib.hid u1
  replace nl8 := Lib.hid nl8
  replace u8 := Lib.hid u8
  clear hlm hH1 hl1 vl1 hl8 vl8 h1 hb h2 h4 h5 h7 h9
  replace v0 := Lib.hid v0
  replace v1 := Lib.hid v1
  replace v2 := Lib.hid v2
  replace v3 := Lib.hid v3
  replace hf := Lib.hid hf
  replace hl := Lib.hid hl
  replace he := Lib.hid he
  clear hT
  go_enter Try.func6, Try.ntmps6
  have t := Lib.hid (Pm.none w)
  go_wp2_with (first
    | ((with_reducible refine wpl_box (o := ⟨some 2, _, _, _, _, _⟩) (v := ab x) rfl (.tmp 0) rfl rfl ?_); intro g2 w2 m2; replace t := Lib.hid ((t.out.kept m2.kept).cons (show Blk w2 g2 22 (bv x).toArray from m2.blk)); clear m2)
    | (go_at_call 10; (with_reducible refine (cf.out _).mono ?_); rintro e v ⟨rfl, kk⟩; replace t := Lib.hid (t.out.kept kk); clear kk)
    | (refine wpl_build1 (o := ⟨some 13, _, _, _, _, _⟩) rfl 0 (.const (.int .u8 1)) rfl rfl v0.out ?_)
    | (refine wpl_build0 (o := ⟨some 14, _, _, _, _, _⟩) rfl rfl v1.out ?_)
    | (refine wpl_build1 (o := ⟨some 15, _, _, _, _, _⟩) rfl 31 (.const (.int .u8 128)) rfl rfl v2.out ?_)
    | (refine wpl_build2 (o := ⟨some 16, _, _, _, _, _⟩) rfl 0 31 (.const (.int .u8 236)) (.const (.int .u8 127)) rfl rfl rfl v3.out ?_)
    | ((refine wpl_bslice4 (o := ⟨some 17, _, _, _, _, _⟩) rfl smallT rfl rfl rfl rfl rfl (by decide) (by decide) hf.out ?_); intro g5 w5 m5; replace t := Lib.hid ((t.out.kept m5.kept).cons (show Blk w5 g5 22 (rws 4 (fourQ s0 s1 s2 s3)).toArray from m5.blk)); clear m5; have R := Lib.hid (show w5.rangeAt g5 96 (bv s3) from four_row (t.out.s (g5, 22, (rws 4 (fourQ s0 s1 s2 s3)).toArray) (by simp)) hl.out.1 hl.out.2.1 hl.out.2.2.1 hl.out.2.2.2 3 (by omega)))
    | (refine wpl_loadp (o := ⟨some 23, _, _, _, _, _⟩) arrB.row rfl (.tmp 22) rfl rfl R.out (by simp [hl.out]) ?_)
    | ((with_reducible refine wpl_new (o := ⟨some 6, _, _, _, _, _⟩) rfl rfl zeroB ?_); intro g6 w6 m6; have N6 := Lib.hid (fun p hp => m6.ne (t.out.s p hp).lt); have L6 := Lib.hid (Nat.le_trans t.out.k.size m6.le))
    | ((refine wpl_store_arr (o := ⟨none, .store 22 (.tmp 6) (.tmp 23), _, _, _, _⟩) arrB rfl (.tmp 6) (.tmp 23) rfl rfl rfl m6.blk rfl (by simp [hl.out]) (one_ab _) ?_); intro v6 b6 k6; replace t := Lib.hid (show Pm w [(g6, 22, (bv s3).toArray), (g5, 22, (rws 4 (fourQ s0 s1 s2 s3)).toArray), (g2, 22, (bv x).toArray)] v6 from t.out.put m6 b6 k6); clear m6 b6 k6 R))
  have b6 := Lib.hid (show Blk _ g6 22 (bv (flL 1)).toArray from (show flL 1 = s3 by rw [he.out.2.2.2]; rfl) ▸ t.out.s (g6, 22, (bv s3).toArray) (by simp))
  have t5 := Lib.hid (t.out.tail)
  clear t
  go_loopg [7] 30 (fun fu i wk => ∃ k : Nat, fu + k = 31 ∧ 1 ≤ k ∧ k ≤ 31 ∧ i = .int .i64 (k : Int) ∧ Blk wk g6 22 (bv (flL k)).toArray ∧ Pm w [(g5, 22, (rws 4 (fourQ s0 s1 s2 s3)).toArray), (g2, 22, (bv x).toArray)] wk)
  case atStart => exact ⟨1, rfl, by omega, by omega, rfl, b6.out, t5.out⟩
  case round =>
    obtain ⟨k, hfu, hk1, hk2, rfl, hb, hp⟩ := hrel
    by_cases hlt : k < 31
    · have q1 := hb.bget k (by rw [fl_len k (by omega) hk1]; omega)
      have q2 := hb.frozen k
      have hb2 := Lib.hid (Blk.fl hb hlt hk1)
      have hp2 := Lib.hid (pm_cell hp N6.out L6.out k (.int .u8 255))
      clear hb
      go_wp2_with fail
      go_roundg (31 - (k + 1))
      case measure => omega
      case rel => exact ⟨k + 1, by omega, by omega, by omega, by go_num, hb2.out, hp2.out⟩
    · obtain rfl : k = 31 := by omega
      have t := Lib.hid (show Pm w [(g6, 22, (bv lm).toArray), (g5, 22, (rws 4 (fourQ s0 s1 s2 s3)).toArray), (g2, 22, (bv x).toArray)] _ from by rw [hfl.out]; exact hp.cons hb)
      clear hb hp b6 t5
      go_wp2_with (first
        | (with_reducible refine wpl_load_row (o := ⟨some 35, _, _, _, _, _⟩) arrB.row rfl (.tmp 6) rfl rfl (t.out.s (g6, 22, (bv lm).toArray) (by simp)) (bsize (nlm).out) ?_)
        | (go_at_call 11; (with_reducible refine (c1.out _).mono ?_); rintro e v ⟨rfl, kk⟩; replace t := Lib.hid (t.out.kept kk); clear kk)
        | ((with_reducible refine wpl_new (o := ⟨some 8, _, _, _, _, _⟩) rfl rfl zeroP4 ?_); intro g8 w8 m8)
        | ((refine wpl_store_row (o := ⟨none, .store 29 (.tmp 8) (.tmp 37), _, _, _, _⟩) structPt rfl (.tmp 8) (.tmp 37) rfl rfl rfl m8.blk pz.size (P4.size _) (P4.one _) ?_); intro v8 b8 k8; replace t := Lib.hid (t.out.put m8 b8 k8); clear m8 b8 k8))
      refine wp_multi (by kernel_rfl) [.val (b.v), .val (ab x), .val (r2.v), .new 29 (pz.v), .put 3 2 r2.c.toArray]
        (Pm w [(g8, 29, r1.c.toArray), (g6, 22, (bv lm).toArray), (g5, 22, (rws 4 (fourQ s0 s1 s2 s3)).toArray), (g2, 22, (bv x).toArray)]) (by kernel_rfl) (by kernel_rfl) t.out.drew (fun u u' T hS hk hT => t.out.fresh u u' T hS hk hT) ?_ ?_
      · refine ⟨?_, ?_, ?_, ⟨⟨_, rfl⟩, rfl, zeroP4⟩, ?_, trivial⟩
        · refine ⟨⟨_, rfl⟩, fun a' u K0 R hS hr ho h => wp_callf rfl enters_base (vs := #[]) ?_ (cb.out u) h⟩
          simp
        · exact ⟨⟨_, rfl⟩, fun a' u K0 R hS hr ho h => wp_loadr arrB.row (.tmp 2) rfl ((ho 2 (by decide)).trans rfl) (hS.s (g2, 22, (bv x).toArray) (by simp)) (bsize (nx).out) (h u (Kept.refl _ _))⟩
        · refine ⟨⟨_, rfl⟩, fun a' u K0 R hS hr ho h => wp_callf rfl enters_pmul (vs := #[b.v, ab x]) ?_ (c2.out u) h⟩
          have x0 := hr 0 (b.v) 39 _ rfl rfl rfl ⟨⟨0, .data⟩, by simp, rfl, rfl⟩
          have x1 := hr 1 (ab x) 40 _ rfl rfl rfl ⟨⟨1, .data⟩, by simp, rfl, rfl⟩
          simp [Act.eval] at x0 x1 ⊢
          exact ⟨x0, x1⟩
        · exact ⟨rfl, ⟨⟨3, .data⟩, by simp, rfl, rfl⟩, ⟨⟨2, .data⟩, by simp, rfl, rfl⟩, _, _, _, _, _, _, _, _, rfl, rfl, rfl, rfl, rfl, rfl, rfl, structPt, pz.size, P4.size _, P4.one _⟩
      intro γ wm hS hγ hne hput
      have b10 := hput 4 3 2 _ _ _ rfl rfl
      generalize e10 : γ 3 = g10 at *
      simp [actOf, VK, List.range, List.range.loop, Act.put, e10]
      replace t := Lib.hid (show Pm w [(g10, 29, r2.c.toArray), (g8, 29, r1.c.toArray), (g6, 22, (bv lm).toArray), (g5, 22, (rws 4 (fourQ s0 s1 s2 s3)).toArray), (g2, 22, (bv x).toArray)] wm from (hS).cons b10)
      clear b10 hput hne hγ hS e10
      go_wp2_with fail
      refine Txt.wp_textG [3, 7, 8, 10, 13, 14, 17, 20, 21, 24, 25] (Pm w [(g10, 29, r2.c.toArray), (g8, 29, r1.c.toArray), (g6, 22, (bv lm).toArray), (g5, 22, (rws 4 (fourQ s0 s1 s2 s3)).toArray), (g2, 22, (bv x).toArray)]) [[_, _, _, _, _], [_, _, _, _, _], [_], [_], [_], [_, _], [_], [_], [_, _, _, _, _], [_], [_], [_], [_, _, _]] (by kernel_rfl) (by kernel_rfl) rfl t.out.drew (Txt.segs_cons ?_)
      replace t := Lib.hid t.out.drew
      go_wp2_with (first
        | (with_reducible refine wpl_load_row (o := ⟨some 45, _, _, _, _, _⟩) structPt rfl (.tmp 8) rfl rfl (t.out.s (g8, 29, r1.c.toArray) (by simp)) (P4.size _) ?_)
        | (go_at_call 15; (with_reducible refine (c3.out _).mono ?_); rintro e v ⟨rfl, kk⟩; replace t := Lib.hid (t.out.kept kk); clear kk))
      refine ⟨rfl, t.out, Txt.segs_cons ?_⟩
      go_wp2_with (first
        | (with_reducible refine wpl_load_row (o := ⟨some 49, _, _, _, _, _⟩) structPt rfl (.tmp 10) rfl rfl (t.out.s (g10, 29, r2.c.toArray) (by simp)) (P4.size _) ?_)
        | (with_reducible refine wpl_load_row (o := ⟨some 50, _, _, _, _, _⟩) structPt rfl (.tmp 8) rfl rfl (t.out.s (g8, 29, r1.c.toArray) (by simp)) (P4.size _) ?_)
        | (go_at_call 19; (with_reducible refine (c4.out _).mono ?_); rintro e v ⟨rfl, kk⟩; replace t := Lib.hid (t.out.kept kk); clear kk))
      refine ⟨rfl, t.out, Txt.segs_cons ?_⟩
      go_wp2_with (first
        | (refine wpl_build1 (o := ⟨some 52, _, _, _, _, _⟩) rfl 0 (.const (.int .u8 8)) rfl rfl u8.out ?_))
      refine ⟨rfl, t.out, Txt.segs_cons ?_⟩
      go_wp2_with (first
        | (go_at_call 18; (with_reducible refine (c5.out _).mono ?_); rintro e v ⟨rfl, kk⟩; replace t := Lib.hid (t.out.kept kk); clear kk))
      refine ⟨rfl, t.out, Txt.segs_cons ?_⟩
      go_wp2_with (first
        | (go_at_call 14; (with_reducible refine (c6.out _).mono ?_); rintro e v ⟨rfl, kk⟩; replace t := Lib.hid (t.out.kept kk); clear kk))
      refine ⟨rfl, t.out, Txt.segs_cons ?_⟩
      go_wp2_with (first
        | (with_reducible refine wpl_load_row (o := ⟨some 55, _, _, _, _, _⟩) structPt rfl (.tmp 10) rfl rfl (t.out.s (g10, 29, r2.c.toArray) (by simp)) (P4.size _) ?_)
        | (refine wpl_build1 (o := ⟨some 56, _, _, _, _, _⟩) rfl 0 (.const (.int .u8 8)) rfl rfl u8.out ?_))
      refine ⟨rfl, t.out, Txt.segs_cons ?_⟩
      go_wp2_with (first
        | (go_at_call 18; (with_reducible refine (c7.out _).mono ?_); rintro e v ⟨rfl, kk⟩; replace t := Lib.hid (t.out.kept kk); clear kk))
      refine ⟨rfl, t.out, Txt.segs_cons ?_⟩
      go_wp2_with (first
        | (go_at_call 14; (with_reducible refine (c8.out _).mono ?_); rintro e v ⟨rfl, kk⟩; replace t := Lib.hid (t.out.kept kk); clear kk))
      refine ⟨rfl, t.out, Txt.segs_cons ?_⟩
      go_wp2_with (first
        | (with_reducible refine wpl_load_row (o := ⟨some 62, _, _, _, _, _⟩) structPt rfl (.tmp 8) rfl rfl (t.out.s (g8, 29, r1.c.toArray) (by simp)) (P4.size _) ?_)
        | (refine wpl_build1 (o := ⟨some 63, _, _, _, _, _⟩) rfl 0 (.const (.int .u8 8)) rfl rfl u8.out ?_))
      refine ⟨rfl, t.out, Txt.segs_cons ?_⟩
      go_wp2_with (first
        | (go_at_call 18; (with_reducible refine (c9.out _).mono ?_); rintro e v ⟨rfl, kk⟩; replace t := Lib.hid (t.out.kept kk); clear kk))
      refine ⟨rfl, t.out, Txt.segs_cons ?_⟩
      go_wp2_with (first
        | (go_at_call 14; (with_reducible refine (c10.out _).mono ?_); rintro e v ⟨rfl, kk⟩; replace t := Lib.hid (t.out.kept kk); clear kk))
      refine ⟨rfl, t.out, Txt.segs_cons ?_⟩
      go_wp2_with (first
        | (refine wpl_build1 (o := ⟨some 66, _, _, _, _, _⟩) rfl 0 (.const (.int .u8 1)) rfl rfl u1.out ?_))
      refine ⟨rfl, t.out, Txt.segs_cons ?_⟩
      go_wp2_with fail
      refine ⟨rfl, t.out, Txt.segs_nil ⟨⟨by kernel_rfl, ?_⟩, ?_⟩⟩
      · intro j hj o ho hw
        have hj2 : j = 3 ∨ j = 7 ∨ j = 8 ∨ j = 10 ∨ j = 13 ∨ j = 14 ∨ j = 17 ∨ j = 20 ∨ j = 21 ∨ j = 24 ∨ j = 25 := by simpa using hj
        rcases hj2 with rfl | rfl | rfl | rfl | rfl | rfl | rfl | rfl | rfl | rfl | rfl <;> cases ho
        · exact ⟨45, rfl, fun u hu => exec_load structPt (.tmp 8) rfl rfl (hu.s (g8, 29, r1.c.toArray) (by simp)) (P4.size _)⟩
        · exact ⟨49, rfl, fun u hu => exec_load structPt (.tmp 10) rfl rfl (hu.s (g10, 29, r2.c.toArray) (by simp)) (P4.size _)⟩
        · exact ⟨50, rfl, fun u hu => exec_load structPt (.tmp 8) rfl rfl (hu.s (g8, 29, r1.c.toArray) (by simp)) (P4.size _)⟩
        · exact ⟨52, rfl, fun u _ => exec_build1 0 (.const (.int .u8 8)) rfl rfl u8.out⟩
        · exact ⟨55, rfl, fun u hu => exec_load structPt (.tmp 10) rfl rfl (hu.s (g10, 29, r2.c.toArray) (by simp)) (P4.size _)⟩
        · exact ⟨56, rfl, fun u _ => exec_build1 0 (.const (.int .u8 8)) rfl rfl u8.out⟩
        · exact ⟨59, rfl, fun u _ => exec_eqb (.tmp 54) (.tmp 58) rfl rfl rfl Q59.out nH1.out nH1.out⟩
        · exact ⟨62, rfl, fun u hu => exec_load structPt (.tmp 8) rfl rfl (hu.s (g8, 29, r1.c.toArray) (by simp)) (P4.size _)⟩
        · exact ⟨63, rfl, fun u _ => exec_build1 0 (.const (.int .u8 8)) rfl rfl u8.out⟩
        · exact ⟨66, rfl, fun u _ => exec_build1 0 (.const (.int .u8 1)) rfl rfl u1.out⟩
        · exact ⟨67, rfl, fun u _ => exec_eqb (.tmp 65) (.tmp 66) rfl rfl rfl Q67.out nl1.out nl1.out⟩
      go_wp2_with fail
      go_ret
      exact ⟨rfl, t.out.k⟩
/-- The points of order 4 and 2. -/
def T1 : Ed.Pt := ⟨Ed.mk Ed.In, Ed.mk 0, on_nat (by decide +kernel)⟩
def T3 : Ed.Pt := ⟨Ed.mk 0, Ed.mk (PP - 1), on_nat (by decide +kernel)⟩
theorem T1_8 : Ed.Pt.mul 8 T1 = Ed.Pt.zero := (mN_rn (Q := T1) rfl rfl 4 8 (by decide)).zero (by decide +kernel) (by decide +kernel)
theorem T3_8 : Ed.Pt.mul 8 T3 = Ed.Pt.zero := (mN_rn (Q := T3) rfl rfl 4 8 (by decide)).zero (by decide +kernel) (by decide +kernel)
theorem T1_e : enc T1 = 0 := by decide +kernel
theorem T3_e : enc T3 = PP - 1 := by decide +kernel
theorem T2_e : enc T1.neg = T255 := by
  unfold enc
  rw [pneg_x, pneg_y]
  decide +kernel
theorem tor_walk (x : List UInt8) (n : Int) (w : World) (nx : x.length = 32) (_ : (Lit.int .i64 n).wf = true) : Calls Try.prog 6 #[ab x, .int .i64 n] w fun e w' => e = .returned (.bool true) ∧ Kept [] w w' := by
  have hm : (IntKind.u64.wrap n).tmod 4 = 0 ∨ (IntKind.u64.wrap n).tmod 4 = 1 ∨ (IntKind.u64.wrap n).tmod 4 = 2 ∨ (IntKind.u64.wrap n).tmod 4 = 3 := by
    have h0 : 0 ≤ IntKind.u64.wrap n := by simp [IntKind.wrap, IntKind.signed, IntKind.bits]; omega
    rw [Int.tmod_eq_emod_of_nonneg h0]
    omega
  rcases hm with hm | hm | hm | hm
  · exact tor_w0 x Ed.Pt.zero n w nx hm enc_zero (Ed.Pt.mul_zero 8)
  · exact tor_w1 x T1 n w nx hm T1_e T1_8
  · exact tor_w2 x T1.neg n w nx hm T2_e (by rw [Ed.Pt.mul_neg, T1_8, Ed.Pt.neg_zero])
  · exact tor_w3 x T3 n w nx hm T3_e T3_8

end Go.Proofs.Ytkflljjcgihaoaa
