/-
  The document's curve: its functions.
-/
import Derived.Test.YtkflljjcgihaoaaRr2
namespace Go.Proofs.Ytkflljjcgihaoaa
open Go.RowKit Go.Mem Go.Txt

set_option maxRecDepth 100000 in
set_option maxHeartbeats 1600000 in
theorem rsame_d {M N : Int} {d e : Nat → Int} {a b : Ed.Fq} (h : Dq M d a) (h2 : Dq N e b) (hM : M ≤ 280000) (hN : N ≤ 280000) {r : Bool} (hr : decide (a.v = b.v) = r) : ReC d e r := by
  obtain ⟨l1, c1, e1, n1⟩ := rpack_e h (by omega)
  obtain ⟨l2, c2, e2, n2⟩ := rpack_e h2 (by omega)
  have Q9 : (l1 == l2) = r := by rw [e1, e2, le_beq _ _ (v_lt a) (v_lt b)]; exact hr
  have q9 := eql_run Q9 n1 n2
  intro w
  replace Q9 := Lib.hid Q9
  replace c1 := Lib.hid c1
  replace c2 := Lib.hid c2
  replace n1 := Lib.hid n1
  replace n2 := Lib.hid n2
  clear e1 e2 h h2 hr hM hN
  go_enter Try.func76, Try.ntmps76
  have t := Lib.hid (Pm.none w)
  go_wp2_with (first
    | ((with_reducible refine wpl_box (o := ⟨some 2, _, _, _, _, _⟩) (v := nu d) rfl (.tmp 0) rfl rfl ?_); intro g2 w2 m2; replace t := Lib.hid ((t.out.kept m2.kept).cons (show Blk w2 g2 34 (iv (fam 16 d)).toArray from m2.blk)); clear m2)
    | ((with_reducible refine wpl_box (o := ⟨some 3, _, _, _, _, _⟩) (v := nu e) rfl (.tmp 1) rfl rfl ?_); intro g3 w3 m3; replace t := Lib.hid ((t.out.kept m3.kept).cons (show Blk w3 g3 34 (iv (fam 16 e)).toArray from m3.blk)); clear m3))
  refine Txt.wp_textG [0, 2, 4] (Pm w [(g3, 34, (iv (fam 16 e)).toArray), (g2, 34, (iv (fam 16 d)).toArray)]) [[_, _], [_, _], [_, _]] (by kernel_rfl) (by kernel_rfl) rfl t.out.drew (Txt.segs_cons ?_)
  replace t := Lib.hid t.out.drew
  go_wp2_with (first
    | (with_reducible refine wpl_load_row (o := ⟨some 5, _, _, _, _, _⟩) arrN.row rfl (.tmp 2) rfl rfl (t.out.s (g2, 34, (iv (fam 16 d)).toArray) (by simp)) rfl ?_)
    | (go_at_call 45; (with_reducible refine (c1.out _).mono ?_); rintro e v ⟨rfl, kk⟩; replace t := Lib.hid (t.out.kept kk); clear kk))
  refine ⟨rfl, t.out, Txt.segs_cons ?_⟩
  go_wp2_with (first
    | (with_reducible refine wpl_load_row (o := ⟨some 7, _, _, _, _, _⟩) arrN.row rfl (.tmp 3) rfl rfl (t.out.s (g3, 34, (iv (fam 16 e)).toArray) (by simp)) rfl ?_)
    | (go_at_call 45; (with_reducible refine (c2.out _).mono ?_); rintro e v ⟨rfl, kk⟩; replace t := Lib.hid (t.out.kept kk); clear kk))
  refine ⟨rfl, t.out, Txt.segs_cons ?_⟩
  go_wp2_with fail
  refine ⟨rfl, t.out, Txt.segs_nil ⟨⟨by kernel_rfl, ?_⟩, ?_⟩⟩
  · intro j hj o ho hw
    have hj2 : j = 0 ∨ j = 2 ∨ j = 4 := by simpa using hj
    rcases hj2 with rfl | rfl | rfl <;> cases ho
    · exact ⟨5, rfl, fun u hu => exec_load arrN.row (.tmp 2) rfl rfl (hu.s (g2, 34, (iv (fam 16 d)).toArray) (by simp)) rfl⟩
    · exact ⟨7, rfl, fun u hu => exec_load arrN.row (.tmp 3) rfl rfl (hu.s (g3, 34, (iv (fam 16 e)).toArray) (by simp)) rfl⟩
    · exact ⟨9, rfl, fun u _ => exec_eqb (.tmp 6) (.tmp 8) rfl rfl rfl Q9.out n1.out n2.out⟩
  go_wp2_with fail
  go_ret
  exact ⟨rfl, t.out.k⟩
/-- A block's last byte: what it is, what the block is once it has been turned. -/
abbrev GetK (H : List UInt8) (c : Nat) : Prop := ∀ (u : World) (g : Nat) (bt : TypeId), Blk u g bt (bv H).toArray → u.cell? ⟨g, 31, none⟩ = some (.int .u8 (c : Int))
abbrev SetK (H M : List UInt8) (d : Int) : Prop := ∀ (u : World) (g : Nat) (bt : TypeId), Blk u g bt (bv H).toArray → Blk (u.setCell ⟨g, 31, none⟩ (.int .u8 d)) g bt (bv M).toArray
theorem getK {X : Nat} : GetK (le X 32) (c31 X) := fun _ _ _ h => Blk.get31 h
theorem setK {X Y : Nat} (e : X % T248 = Y % T248) : SetK (le X 32) (le Y 32) ((c31 Y : Nat) : Int) := fun _ _ _ h => Blk.set31 h e
theorem byte_run {l : List UInt8} (X : Nat) (e : l = le X 32) (W : World) : (Instr.index 22 (ab l) (.int .i64 0)).run Try.prog W = .ok (.int .u8 ((X % 256 : Nat) : Int)) W := by
  subst e
  exact run_index_arr arrB Try.underlying5 rfl (by kernel_rfl) .i64 0 (by omega) (byte0 X) W
/-- A byte put 128 higher. -/
theorem top_up {y : Nat} (hy : y < PP) {l : List UInt8} (e : l = le y 32) : ∃ (c : Nat) (M : List UInt8), GetK l c ∧ SetK l M ((c : Int) + 128) ∧ c < 128 ∧ M = le (y + T255) 32 ∧ M.length = 32 := by
  obtain ⟨h1, h2, h3⟩ := c31_add y hy
  subst e
  have hs := setK h3
  rw [h1, Int.natCast_add] at hs
  exact ⟨_, _, getK, hs, h2, rfl, le_len _ _⟩
abbrev BytC (p : R4) (l : List UInt8) : Prop := ∀ W, Calls Try.prog 24 #[p.v] W fun e w' => e = .returned (ab l) ∧ Kept [] W w'
theorem rb_div {x z a : Ed.Fq} (h0 : z ≠ 0) (h : x * z = a) : a * Ed.inv z = x := by
  have h1 := Ed.mul_inv' z h0
  subst h
  generalize Ed.inv z = i at *
  clear h0
  grind
set_option maxRecDepth 100000 in
set_option maxHeartbeats 4000000 in
theorem rbytes_o {p : R4} {P : Ed.Pt} (hp : Rr p P) (ho : P.x.v % 2 = 1) : BytC p (le (enc P) 32) := by
  obtain ⟨pX, pY, pZ, px, py, pz, p0, p1, p2⟩ := hp.e
  obtain ⟨d1, c1, h1⟩ := rinv_d pz (by omega)
  obtain ⟨d2, c2, h2⟩ := rmul_d py h1 (by omega) (by omega)
  obtain ⟨l3, c3, e3, nl3⟩ := rpack_e h2 (by omega)
  obtain ⟨d4, c4, h4⟩ := rmul_d px h1 (by omega) (by omega)
  obtain ⟨l5, c5, e5, nl5⟩ := rpack_e h4 (by omega)
  have ex : l5 = le P.x.v 32 := by rw [e5, rb_div p0 p1]
  have ey : l3 = le P.y.v 32 := by rw [e3, rb_div p0 p2]
  have hb := byte_run P.x.v ex
  have ho2 : ((P.x.v % 256 : Nat) : Int).tmod 2 = 1 := by rw [Int.tmod_eq_emod_of_nonneg (by omega)]; omega
  obtain ⟨kc, M, gK, sK, hk1, hM, nM⟩ := top_up (v_lt P.y) ey
  have hM2 : le (enc P) 32 = M := by rw [hM]; unfold enc; rw [if_pos ho]
  have hk4 : ((kc : Nat) : Int) < 128 := by omega
  replace gK := Lib.hid gK
  replace sK := Lib.hid sK
  replace nM := Lib.hid nM
  rw [hM2]
  clear hM hM2
  generalize P.x.v % 256 = xb at *
  intro w
  replace c1 := Lib.hid c1
  replace c2 := Lib.hid c2
  replace nl3 := Lib.hid nl3
  replace c3 := Lib.hid c3
  replace c4 := Lib.hid c4
  replace nl5 := Lib.hid nl5
  replace c5 := Lib.hid c5
  clear ex ey ho hp px py pz p0 p1 p2 e5 e3 h1 h2 h4
  go_enter Try.func24, Try.ntmps24
  have t := Lib.hid (Pm.none w)
  go_wp2_with (first
    | ((with_reducible refine wpl_box (o := ⟨some 1, _, _, _, _, _⟩) (v := p.v) rfl (.tmp 0) rfl rfl ?_); intro g1 w1 m1; have N1 := Lib.hid (fun p hp => m1.ne (t.out.s p hp).lt); have L1 := Lib.hid (Nat.le_trans t.out.k.size m1.le); replace t := Lib.hid ((t.out.kept m1.kept).cons (show Blk w1 g1 39 p.c.toArray from m1.blk)); clear m1)
    | ((with_reducible refine wpl_new (o := ⟨some 2, _, _, _, _, _⟩) rfl rfl zeroB ?_); intro g2 w2 m2; have N2 := Lib.hid (fun p hp => m2.ne (t.out.s p hp).lt); have L2 := Lib.hid (Nat.le_trans t.out.k.size m2.le); replace t := Lib.hid ((t.out.kept m2.kept).cons (show Blk w2 g2 22 (bv (noughts 32)).toArray from m2.blk)); clear m2)
    | (with_reducible refine wpl_loadp (o := ⟨some 6, _, _, _, _, _⟩) arrN.row rfl (.tmp 5) rfl rfl (R4.pz (t.out.s (g1, 39, p.c.toArray) (by simp))) (iv16 _) ?_)
    | (go_at_call 60; (with_reducible refine (c1.out _).mono ?_); rintro e v ⟨rfl, kk⟩; replace t := Lib.hid (t.out.kept kk); clear kk)
    | ((with_reducible refine wpl_new (o := ⟨some 3, _, _, _, _, _⟩) rfl rfl zeroN ?_); intro g3 w3 m3; have N3 := Lib.hid (fun p hp => m3.ne (t.out.s p hp).lt); have L3 := Lib.hid (Nat.le_trans t.out.k.size m3.le); replace t := Lib.hid ((t.out.kept m3.kept).cons (show Blk w3 g3 34 (iv (fam 16 zd)).toArray from m3.blk)); clear m3)
    | ((refine wpl_store_row (o := ⟨none, .store 34 (.tmp 3) (.tmp 7), _, _, _, _⟩) arrN.row rfl (.tmp 3) (.tmp 7) rfl rfl rfl (t.out.s (g3, 34, (iv (fam 16 zd)).toArray) (by simp)) rfl rfl (one_nu _) ?_); intro v3 b3 k3; replace t := Lib.hid (t.out.again L3.out N3.out b3 k3); clear b3 k3)
    | (with_reducible refine wpl_loadp (o := ⟨some 9, _, _, _, _, _⟩) arrN.row rfl (.tmp 8) rfl rfl (R4.py (t.out.s (g1, 39, p.c.toArray) (by simp))) (iv16 _) ?_)
    | (with_reducible refine wpl_load_row (o := ⟨some 10, _, _, _, _, _⟩) arrN.row rfl (.tmp 3) rfl rfl (t.out.s (g3, 34, (iv (fam 16 d1)).toArray) (by simp)) rfl ?_)
    | (go_at_call 46; (with_reducible refine (c2.out _).mono ?_); rintro e v ⟨rfl, kk⟩; replace t := Lib.hid (t.out.kept kk); clear kk)
    | (go_at_call 45; (with_reducible refine (c3.out _).mono ?_); rintro e v ⟨rfl, kk⟩; replace t := Lib.hid (t.out.kept kk); clear kk)
    | ((with_reducible refine wpl_new (o := ⟨some 4, _, _, _, _, _⟩) rfl rfl zeroB ?_); intro g4 w4 m4; have N4 := Lib.hid (fun p hp => m4.ne (t.out.s p hp).lt); have L4 := Lib.hid (Nat.le_trans t.out.k.size m4.le); replace t := Lib.hid ((t.out.kept m4.kept).cons (show Blk w4 g4 22 (bv (noughts 32)).toArray from m4.blk)); clear m4)
    | ((refine wpl_store_row (o := ⟨none, .store 22 (.tmp 4) (.tmp 12), _, _, _, _⟩) arrB.row rfl (.tmp 4) (.tmp 12) rfl rfl rfl (t.out.s (g4, 22, (bv (noughts 32)).toArray) (by simp)) rfl (bsize nl3.out) (one_ab _) ?_); intro v4 b4 k4; replace t := Lib.hid (t.out.again L4.out N4.out b4 k4); clear b4 k4)
    | (with_reducible refine wpl_loadp (o := ⟨some 14, _, _, _, _, _⟩) arrN.row rfl (.tmp 13) rfl rfl (R4.px (t.out.s (g1, 39, p.c.toArray) (by simp))) (iv16 _) ?_)
    | (with_reducible refine wpl_load_row (o := ⟨some 15, _, _, _, _, _⟩) arrN.row rfl (.tmp 3) rfl rfl (t.out.s (g3, 34, (iv (fam 16 d1)).toArray) (by simp)) rfl ?_)
    | (go_at_call 46; (with_reducible refine (c4.out _).mono ?_); rintro e v ⟨rfl, kk⟩; replace t := Lib.hid (t.out.kept kk); clear kk)
    | (go_at_call 45; (with_reducible refine (c5.out _).mono ?_); rintro e v ⟨rfl, kk⟩; replace t := Lib.hid (t.out.kept kk); clear kk; have b4 := Lib.hid (t.out.s (g4, 22, (bv l3).toArray) (by simp)); have q1 := gK.out _ _ _ b4.out; have q2 := b4.out.frozen 31; have KC := Lib.hid ((Kept.refl [g4] v).setCell (p := ⟨g4, 31, none⟩) (.inl (by simp)) (.int .u8 ((kc : Int) + 128))); have tn := Lib.hid (t.out.again L4.out N4.out (sK.out _ _ _ b4.out) KC.out); replace t := tn; clear b4 tn KC)
    | (with_reducible refine wpl_load_row (o := ⟨some 25, _, _, _, _, _⟩) arrB.row rfl (.tmp 4) rfl rfl (t.out.s (g4, 22, (bv M).toArray) (by simp)) (bsize nM.out) ?_)
    | ((refine wpl_store_row (o := ⟨none, .store 22 (.tmp 2) (.tmp 25), _, _, _, _⟩) arrB.row rfl (.tmp 2) (.tmp 25) rfl rfl rfl (t.out.s (g2, 22, (bv (noughts 32)).toArray) (by simp)) rfl (bsize nM.out) (one_ab _) ?_); intro v2 b2 k2; have bR := Lib.hid b2; have kR := Lib.hid k2; clear b2 k2))
  exact ret_row arrB.row rfl rfl bR.out (bsize nM.out) rfl ⟨rfl, t.out.k.then1 kR.out L2.out⟩
set_option maxRecDepth 100000 in
set_option maxHeartbeats 4000000 in
theorem rbytes_e {p : R4} {P : Ed.Pt} (hp : Rr p P) (ho : ¬ P.x.v % 2 = 1) : BytC p (le (enc P) 32) := by
  obtain ⟨pX, pY, pZ, px, py, pz, p0, p1, p2⟩ := hp.e
  obtain ⟨d1, c1, h1⟩ := rinv_d pz (by omega)
  obtain ⟨d2, c2, h2⟩ := rmul_d py h1 (by omega) (by omega)
  obtain ⟨l3, c3, e3, nl3⟩ := rpack_e h2 (by omega)
  obtain ⟨d4, c4, h4⟩ := rmul_d px h1 (by omega) (by omega)
  obtain ⟨l5, c5, e5, nl5⟩ := rpack_e h4 (by omega)
  have ex : l5 = le P.x.v 32 := by rw [e5, rb_div p0 p1]
  have ey : l3 = le P.y.v 32 := by rw [e3, rb_div p0 p2]
  have hb := byte_run P.x.v ex
  have ho2 : ((P.x.v % 256 : Nat) : Int).tmod 2 = 0 := by rw [Int.tmod_eq_emod_of_nonneg (by omega)]; omega
  have hM2 : le (enc P) 32 = l3 := by rw [ey]; unfold enc; rw [if_neg ho, Nat.add_zero]
  rw [hM2]
  clear hM2
  generalize P.x.v % 256 = xb at *
  intro w
  replace c1 := Lib.hid c1
  replace c2 := Lib.hid c2
  replace nl3 := Lib.hid nl3
  replace c3 := Lib.hid c3
  replace c4 := Lib.hid c4
  replace nl5 := Lib.hid nl5
  replace c5 := Lib.hid c5
  clear ex ey ho hp px py pz p0 p1 p2 e5 e3 h1 h2 h4
  go_enter Try.func24, Try.ntmps24
  have t := Lib.hid (Pm.none w)
  go_wp2_with (first
    | ((with_reducible refine wpl_box (o := ⟨some 1, _, _, _, _, _⟩) (v := p.v) rfl (.tmp 0) rfl rfl ?_); intro g1 w1 m1; have N1 := Lib.hid (fun p hp => m1.ne (t.out.s p hp).lt); have L1 := Lib.hid (Nat.le_trans t.out.k.size m1.le); replace t := Lib.hid ((t.out.kept m1.kept).cons (show Blk w1 g1 39 p.c.toArray from m1.blk)); clear m1)
    | ((with_reducible refine wpl_new (o := ⟨some 2, _, _, _, _, _⟩) rfl rfl zeroB ?_); intro g2 w2 m2; have N2 := Lib.hid (fun p hp => m2.ne (t.out.s p hp).lt); have L2 := Lib.hid (Nat.le_trans t.out.k.size m2.le); replace t := Lib.hid ((t.out.kept m2.kept).cons (show Blk w2 g2 22 (bv (noughts 32)).toArray from m2.blk)); clear m2)
    | (with_reducible refine wpl_loadp (o := ⟨some 6, _, _, _, _, _⟩) arrN.row rfl (.tmp 5) rfl rfl (R4.pz (t.out.s (g1, 39, p.c.toArray) (by simp))) (iv16 _) ?_)
    | (go_at_call 60; (with_reducible refine (c1.out _).mono ?_); rintro e v ⟨rfl, kk⟩; replace t := Lib.hid (t.out.kept kk); clear kk)
    | ((with_reducible refine wpl_new (o := ⟨some 3, _, _, _, _, _⟩) rfl rfl zeroN ?_); intro g3 w3 m3; have N3 := Lib.hid (fun p hp => m3.ne (t.out.s p hp).lt); have L3 := Lib.hid (Nat.le_trans t.out.k.size m3.le); replace t := Lib.hid ((t.out.kept m3.kept).cons (show Blk w3 g3 34 (iv (fam 16 zd)).toArray from m3.blk)); clear m3)
    | ((refine wpl_store_row (o := ⟨none, .store 34 (.tmp 3) (.tmp 7), _, _, _, _⟩) arrN.row rfl (.tmp 3) (.tmp 7) rfl rfl rfl (t.out.s (g3, 34, (iv (fam 16 zd)).toArray) (by simp)) rfl rfl (one_nu _) ?_); intro v3 b3 k3; replace t := Lib.hid (t.out.again L3.out N3.out b3 k3); clear b3 k3)
    | (with_reducible refine wpl_loadp (o := ⟨some 9, _, _, _, _, _⟩) arrN.row rfl (.tmp 8) rfl rfl (R4.py (t.out.s (g1, 39, p.c.toArray) (by simp))) (iv16 _) ?_)
    | (with_reducible refine wpl_load_row (o := ⟨some 10, _, _, _, _, _⟩) arrN.row rfl (.tmp 3) rfl rfl (t.out.s (g3, 34, (iv (fam 16 d1)).toArray) (by simp)) rfl ?_)
    | (go_at_call 46; (with_reducible refine (c2.out _).mono ?_); rintro e v ⟨rfl, kk⟩; replace t := Lib.hid (t.out.kept kk); clear kk)
    | (go_at_call 45; (with_reducible refine (c3.out _).mono ?_); rintro e v ⟨rfl, kk⟩; replace t := Lib.hid (t.out.kept kk); clear kk)
    | ((with_reducible refine wpl_new (o := ⟨some 4, _, _, _, _, _⟩) rfl rfl zeroB ?_); intro g4 w4 m4; have N4 := Lib.hid (fun p hp => m4.ne (t.out.s p hp).lt); have L4 := Lib.hid (Nat.le_trans t.out.k.size m4.le); replace t := Lib.hid ((t.out.kept m4.kept).cons (show Blk w4 g4 22 (bv (noughts 32)).toArray from m4.blk)); clear m4)
    | ((refine wpl_store_row (o := ⟨none, .store 22 (.tmp 4) (.tmp 12), _, _, _, _⟩) arrB.row rfl (.tmp 4) (.tmp 12) rfl rfl rfl (t.out.s (g4, 22, (bv (noughts 32)).toArray) (by simp)) rfl (bsize nl3.out) (one_ab _) ?_); intro v4 b4 k4; replace t := Lib.hid (t.out.again L4.out N4.out b4 k4); clear b4 k4)
    | (with_reducible refine wpl_loadp (o := ⟨some 14, _, _, _, _, _⟩) arrN.row rfl (.tmp 13) rfl rfl (R4.px (t.out.s (g1, 39, p.c.toArray) (by simp))) (iv16 _) ?_)
    | (with_reducible refine wpl_load_row (o := ⟨some 15, _, _, _, _, _⟩) arrN.row rfl (.tmp 3) rfl rfl (t.out.s (g3, 34, (iv (fam 16 d1)).toArray) (by simp)) rfl ?_)
    | (go_at_call 46; (with_reducible refine (c4.out _).mono ?_); rintro e v ⟨rfl, kk⟩; replace t := Lib.hid (t.out.kept kk); clear kk)
    | (go_at_call 45; (with_reducible refine (c5.out _).mono ?_); rintro e v ⟨rfl, kk⟩; replace t := Lib.hid (t.out.kept kk); clear kk)
    | (with_reducible refine wpl_load_row (o := ⟨some 25, _, _, _, _, _⟩) arrB.row rfl (.tmp 4) rfl rfl (t.out.s (g4, 22, (bv l3).toArray) (by simp)) (bsize nl3.out) ?_)
    | ((refine wpl_store_row (o := ⟨none, .store 22 (.tmp 2) (.tmp 25), _, _, _, _⟩) arrB.row rfl (.tmp 2) (.tmp 25) rfl rfl rfl (t.out.s (g2, 22, (bv (noughts 32)).toArray) (by simp)) rfl (bsize nl3.out) (one_ab _) ?_); intro v2 b2 k2; have bR := Lib.hid b2; have kR := Lib.hid k2; clear b2 k2))
  exact ret_row arrB.row rfl rfl bR.out (bsize nl3.out) rfl ⟨rfl, t.out.k.then1 kR.out L2.out⟩
theorem rbytes {p : R4} {P : Ed.Pt} (hp : Rr p P) : BytC p (le (enc P) 32) := by
  by_cases ho : P.x.v % 2 = 1
  · exact rbytes_o hp ho
  · exact rbytes_e hp ho
end Go.Proofs.Ytkflljjcgihaoaa
