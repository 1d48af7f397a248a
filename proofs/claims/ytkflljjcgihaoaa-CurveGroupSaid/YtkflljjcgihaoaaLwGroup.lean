/-
  The curve's laws: points are a group (CurveGroup).
-/
import Derived.Test.YtkflljjcgihaoaaLw1
namespace Go.Proofs.Ytkflljjcgihaoaa
open Go.RowKit Go.Mem Go.Txt

theorem two_add (P : Ed.Pt) : P + P = Ed.Pt.mul 2 P := by rw [show (2 : Nat) = 1 + 1 from rfl, Ed.Pt.mul_add, Ed.Pt.mul_1]
set_option maxRecDepth 100000 in
set_option maxHeartbeats 4000000 in
theorem group_walk (x y z : List UInt8) (w : World) (nx : x.length = 32) (ny : y.length = 32) (nz : z.length = 32) : Calls Try.prog 4 #[ab x, ab y, ab z] w fun e w' => e = .returned (.bool true) ∧ Kept [] w w' := by
  have cf := Lib.hid first_any
  obtain ⟨l2, hl2, nl2, vl2, u2⟩ := lit_2
  obtain ⟨l1, hl1, nl1, vl1, u1⟩ := lit_1
  obtain ⟨b, cb, hb⟩ := base_e
  obtain ⟨r1, c1, h1⟩ := mul_s hb nx
  obtain ⟨r2, c2, h2⟩ := mul_s hb ny
  obtain ⟨r3, c3, h3⟩ := mul_s hb nz
  obtain ⟨r4, c4, h4⟩ := add_e h1 h2
  obtain ⟨H0, hH0, nH0⟩ : ∃ l : List UInt8, l = le (enc ((Ed.Pt.mul (leV x) BB) + (Ed.Pt.mul (leV y) BB))) 32 ∧ l.length = 32 := ⟨_, rfl, le_len _ _⟩
  have c5 : HsC r4 H0 := hash_l hH0 h4 rfl
  obtain ⟨r6, c6, h6⟩ := add_e h2 h1
  have c7 : HsC r6 H0 := hash_l hH0 h6 (Ed.Pt.comm _ _)
  obtain ⟨r8, c8, h8⟩ := add_e h4 h3
  obtain ⟨H1, hH1, nH1⟩ : ∃ l : List UInt8, l = le (enc (((Ed.Pt.mul (leV x) BB) + (Ed.Pt.mul (leV y) BB)) + (Ed.Pt.mul (leV z) BB))) 32 ∧ l.length = 32 := ⟨_, rfl, le_len _ _⟩
  have c9 : HsC r8 H1 := hash_l hH1 h8 rfl
  obtain ⟨r10, c10, h10⟩ := add_e h2 h3
  obtain ⟨r11, c11, h11⟩ := add_e h1 h10
  have c12 : HsC r11 H1 := hash_l hH1 h11 (Ed.Pt.assoc _ _ _).symm
  obtain ⟨r13, c13, h13⟩ := add_e h1 rq_z
  obtain ⟨H2, hH2, nH2⟩ : ∃ l : List UInt8, l = le (enc (Ed.Pt.mul (leV x) BB)) 32 ∧ l.length = 32 := ⟨_, rfl, le_len _ _⟩
  have c14 : HsC r13 H2 := hash_l hH2 h13 (Ed.Pt.add_zero _)
  have c15 : HsC r1 H2 := hash_l hH2 h1 rfl
  obtain ⟨r16, c16, h16⟩ := add_e rq_z h1
  have c17 : HsC r16 H2 := hash_l hH2 h16 (Ed.Pt.zero_add _)
  obtain ⟨r18, c18, h18⟩ := neg_e h1
  obtain ⟨r19, c19, h19⟩ := add_e h1 h18
  have c20 : HsC r19 l1 := hash_1 hl1 h19 (Ed.Pt.add_neg _)
  have c21 : HsC pz l1 := hash_1 hl1 rq_z rfl
  obtain ⟨r22, c22, h22⟩ := add_e h1 h1
  obtain ⟨H3, hH3, nH3⟩ : ∃ l : List UInt8, l = le (enc (Ed.Pt.mul 2 (Ed.Pt.mul (leV x) BB))) 32 ∧ l.length = 32 := ⟨_, rfl, le_len _ _⟩
  have c23 : HsC r22 H3 := hash_l hH3 h22 (two_add _)
  obtain ⟨r24, c24, h24⟩ := mul_s h1 nl2
  rw [vl2] at h24
  have c25 : HsC r24 H3 := hash_l hH3 h24 rfl
  obtain ⟨r26, c26, h26⟩ := mul_s rq_z nx
  have c27 : HsC r26 l1 := hash_1 hl1 h26 (Ed.Pt.mul_zero _)
  have Q31 : (H0 == H0) = true := beq_self_eq_true _
  have q31 := eql_run Q31 nH0 nH0
  have Q45 : (H1 == H1) = true := beq_self_eq_true _
  have q45 := eql_run Q45 nH1 nH1
  have Q54 : (H2 == H2) = true := beq_self_eq_true _
  have q54 := eql_run Q54 nH2 nH2
  have Q63 : (H2 == H2) = true := beq_self_eq_true _
  have q63 := eql_run Q63 nH2 nH2
  have Q73 : (l1 == l1) = true := beq_self_eq_true _
  have q73 := eql_run Q73 nl1 nl1
  have Q84 : (H3 == H3) = true := beq_self_eq_true _
  have q84 := eql_run Q84 nH3 nH3
  have Q93 : (l1 == l1) = true := beq_self_eq_true _
  have q93 := eql_run Q93 nl1 nl1
  replace Q31 := Lib.hid Q31
  replace Q45 := Lib.hid Q45
  replace Q54 := Lib.hid Q54
  replace Q63 := Lib.hid Q63
  replace Q73 := Lib.hid Q73
  replace Q84 := Lib.hid Q84
  replace Q93 := Lib.hid Q93
  replace c1 := Lib.hid c1
  replace c10 := Lib.hid c10
  replace c11 := Lib.hid c11
  replace c12 := Lib.hid c12
  replace c13 := Lib.hid c13
  replace c14 := Lib.hid c14
  replace c15 := Lib.hid c15
  replace c16 := Lib.hid c16
  replace c17 := Lib.hid c17
  replace c18 := Lib.hid c18
  replace c19 := Lib.hid c19
  replace c2 := Lib.hid c2
  replace c20 := Lib.hid c20
  replace c21 := Lib.hid c21
  replace c22 := Lib.hid c22
  replace c23 := Lib.hid c23
  replace c24 := Lib.hid c24
  replace c25 := Lib.hid c25
  replace c26 := Lib.hid c26
  replace c27 := Lib.hid c27
  replace c3 := Lib.hid c3
  replace c4 := Lib.hid c4
  replace c5 := Lib.hid c5
  replace c6 := Lib.hid c6
  replace c7 := Lib.hid c7
  replace c8 := Lib.hid c8
  replace c9 := Lib.hid c9
  replace cb := Lib.hid cb
  replace nx := Lib.hid nx
  replace ny := Lib.hid ny
  replace nz := Lib.hid nz
  replace nH0 := Lib.hid nH0
  replace nH1 := Lib.hid nH1
  replace nH2 := Lib.hid nH2
  replace nH3 := Lib.hid nH3
  replace nl1 := Lib.hid nl1
  replace u1 := Lib.hid u1
  replace nl2 := Lib.hid nl2
  replace u2 := Lib.hid u2
  clear hH0 hH1 hH2 hH3 hl1 vl1 hl2 vl2 hb h1 h2 h3 h4 h6 h8 h10 h11 h13 h16 h18 h19 h22 h24 h26
  go_enter Try.func4, Try.ntmps4
  have t := Lib.hid (Pm.none w)
  go_wp2_with (first
    | ((with_reducible refine wpl_box (o := ⟨some 3, _, _, _, _, _⟩) (v := ab x) rfl (.tmp 0) rfl rfl ?_); intro g3 w3 m3; replace t := Lib.hid ((t.out.kept m3.kept).cons (show Blk w3 g3 22 (bv x).toArray from m3.blk)); clear m3)
    | ((with_reducible refine wpl_box (o := ⟨some 4, _, _, _, _, _⟩) (v := ab y) rfl (.tmp 1) rfl rfl ?_); intro g4 w4 m4; replace t := Lib.hid ((t.out.kept m4.kept).cons (show Blk w4 g4 22 (bv y).toArray from m4.blk)); clear m4)
    | ((with_reducible refine wpl_box (o := ⟨some 5, _, _, _, _, _⟩) (v := ab z) rfl (.tmp 2) rfl rfl ?_); intro g5 w5 m5; replace t := Lib.hid ((t.out.kept m5.kept).cons (show Blk w5 g5 22 (bv z).toArray from m5.blk)); clear m5)
    | (go_at_call 10; (with_reducible refine (cf.out _).mono ?_); rintro e v ⟨rfl, kk⟩; replace t := Lib.hid (t.out.kept kk); clear kk))
  refine wp_multi (by kernel_rfl) [.val (b.v), .val (ab x), .val (r1.v), .val (b.v), .val (ab y), .val (r2.v), .val (b.v), .val (ab z), .val (r3.v), .new 29 (pz.v), .new 29 (pz.v), .new 29 (pz.v), .put 9 2 r1.c.toArray, .put 10 5 r2.c.toArray, .put 11 8 r3.c.toArray]
    (Pm w [(g5, 22, (bv z).toArray), (g4, 22, (bv y).toArray), (g3, 22, (bv x).toArray)]) (by kernel_rfl) (by kernel_rfl) t.out.drew (fun u u' T hS hk hT => t.out.fresh u u' T hS hk hT) ?_ ?_
  · refine ⟨?_, ?_, ?_, ?_, ?_, ?_, ?_, ?_, ?_, ⟨⟨_, rfl⟩, rfl, zeroP4⟩, ⟨⟨_, rfl⟩, rfl, zeroP4⟩, ⟨⟨_, rfl⟩, rfl, zeroP4⟩, ?_, ?_, ?_, trivial⟩
    · refine ⟨⟨_, rfl⟩, fun a' u K0 R hS hr ho h => wp_callf rfl enters_base (vs := #[]) ?_ (cb.out u) h⟩
      simp
    · exact ⟨⟨_, rfl⟩, fun a' u K0 R hS hr ho h => wp_loadr arrB.row (.tmp 3) rfl ((ho 3 (by decide)).trans rfl) (hS.s (g3, 22, (bv x).toArray) (by simp)) (bsize (nx).out) (h u (Kept.refl _ _))⟩
    · refine ⟨⟨_, rfl⟩, fun a' u K0 R hS hr ho h => wp_callf rfl enters_pmul (vs := #[b.v, ab x]) ?_ (c1.out u) h⟩
      have x0 := hr 0 (b.v) 13 _ rfl rfl rfl ⟨⟨0, .data⟩, by simp, rfl, rfl⟩
      have x1 := hr 1 (ab x) 14 _ rfl rfl rfl ⟨⟨1, .data⟩, by simp, rfl, rfl⟩
      simp [Act.eval] at x0 x1 ⊢
      exact ⟨x0, x1⟩
    · refine ⟨⟨_, rfl⟩, fun a' u K0 R hS hr ho h => wp_callf rfl enters_base (vs := #[]) ?_ (cb.out u) h⟩
      simp
    · exact ⟨⟨_, rfl⟩, fun a' u K0 R hS hr ho h => wp_loadr arrB.row (.tmp 4) rfl ((ho 4 (by decide)).trans rfl) (hS.s (g4, 22, (bv y).toArray) (by simp)) (bsize (ny).out) (h u (Kept.refl _ _))⟩
    · refine ⟨⟨_, rfl⟩, fun a' u K0 R hS hr ho h => wp_callf rfl enters_pmul (vs := #[b.v, ab y]) ?_ (c2.out u) h⟩
      have x0 := hr 3 (b.v) 16 _ rfl rfl rfl ⟨⟨3, .data⟩, by simp, rfl, rfl⟩
      have x1 := hr 4 (ab y) 17 _ rfl rfl rfl ⟨⟨4, .data⟩, by simp, rfl, rfl⟩
      simp [Act.eval] at x0 x1 ⊢
      exact ⟨x0, x1⟩
    · refine ⟨⟨_, rfl⟩, fun a' u K0 R hS hr ho h => wp_callf rfl enters_base (vs := #[]) ?_ (cb.out u) h⟩
      simp
    · exact ⟨⟨_, rfl⟩, fun a' u K0 R hS hr ho h => wp_loadr arrB.row (.tmp 5) rfl ((ho 5 (by decide)).trans rfl) (hS.s (g5, 22, (bv z).toArray) (by simp)) (bsize (nz).out) (h u (Kept.refl _ _))⟩
    · refine ⟨⟨_, rfl⟩, fun a' u K0 R hS hr ho h => wp_callf rfl enters_pmul (vs := #[b.v, ab z]) ?_ (c3.out u) h⟩
      have x0 := hr 6 (b.v) 19 _ rfl rfl rfl ⟨⟨6, .data⟩, by simp, rfl, rfl⟩
      have x1 := hr 7 (ab z) 20 _ rfl rfl rfl ⟨⟨7, .data⟩, by simp, rfl, rfl⟩
      simp [Act.eval] at x0 x1 ⊢
      exact ⟨x0, x1⟩
    · exact ⟨rfl, ⟨⟨9, .data⟩, by simp, rfl, rfl⟩, ⟨⟨2, .data⟩, by simp, rfl, rfl⟩, _, _, _, _, _, _, _, _, rfl, rfl, rfl, rfl, rfl, rfl, rfl, structPt, pz.size, P4.size _, P4.one _⟩
    · exact ⟨rfl, ⟨⟨10, .data⟩, by simp, rfl, rfl⟩, ⟨⟨5, .data⟩, by simp, rfl, rfl⟩, _, _, _, _, _, _, _, _, rfl, rfl, rfl, rfl, rfl, rfl, rfl, structPt, pz.size, P4.size _, P4.one _⟩
    · exact ⟨rfl, ⟨⟨11, .data⟩, by simp, rfl, rfl⟩, ⟨⟨8, .data⟩, by simp, rfl, rfl⟩, _, _, _, _, _, _, _, _, rfl, rfl, rfl, rfl, rfl, rfl, rfl, structPt, pz.size, P4.size _, P4.one _⟩
  intro γ wm hS hγ hne hput
  have b7 := hput 12 9 2 _ _ _ rfl rfl
  have b8 := hput 13 10 5 _ _ _ rfl rfl
  have b9 := hput 14 11 8 _ _ _ rfl rfl
  generalize e7 : γ 9 = g7 at *
  generalize e8 : γ 10 = g8 at *
  generalize e9 : γ 11 = g9 at *
  simp [actOf, VK, List.range, List.range.loop, Act.put, e7, e8, e9]
  replace t := Lib.hid (show Pm w [(g9, 29, r3.c.toArray), (g8, 29, r2.c.toArray), (g7, 29, r1.c.toArray), (g5, 22, (bv z).toArray), (g4, 22, (bv y).toArray), (g3, 22, (bv x).toArray)] wm from (((hS).cons b7).cons b8).cons b9)
  clear b7 b8 b9 hput hne hγ hS e7 e8 e9
  go_wp2_with (first
    | (refine wpl_build0 (o := ⟨some 22, _, _, _, _, _⟩) rfl rfl built_z4 ?_)
    | ((with_reducible refine wpl_new (o := ⟨some 10, _, _, _, _, _⟩) rfl rfl zeroP4 ?_); intro g10 w10 m10)
    | ((refine wpl_store_row (o := ⟨none, .store 29 (.tmp 10) (.tmp 22), _, _, _, _⟩) structPt rfl (.tmp 10) (.tmp 22) rfl rfl rfl m10.blk pz.size (P4.size _) (P4.one _) ?_); intro v10 b10 k10; replace t := Lib.hid (t.out.put m10 b10 k10); clear m10 b10 k10))
  refine Txt.wp_textG [0, 1, 4, 5, 8, 10, 11, 13, 16, 17, 18, 22, 25, 26, 29, 31, 34, 35, 38, 40, 43, 44, 48, 50, 53, 54, 57, 58, 61, 64, 65, 68, 70] (Pm w [(g10, 29, pz.c.toArray), (g9, 29, r3.c.toArray), (g8, 29, r2.c.toArray), (g7, 29, r1.c.toArray), (g5, 22, (bv z).toArray), (g4, 22, (bv y).toArray), (g3, 22, (bv x).toArray)]) [[_, _, _], [_], [_, _, _], [_], [_, _, _, _, _], [_, _], [_], [_, _, _, _], [_], [_], [_, _, _, _, _, _], [_], [_, _], [_, _, _, _, _, _], [_], [_, _], [_, _, _, _, _, _], [_], [_], [_, _], [_, _, _, _, _, _], [_], [_, _], [_], [_], [_, _, _, _, _, _], [_], [_, _], [_, _, _]] (by kernel_rfl) (by kernel_rfl) rfl t.out.drew (Txt.segs_cons ?_)
  replace t := Lib.hid t.out.drew
  go_wp2_with (first
    | (with_reducible refine wpl_load_row (o := ⟨some 23, _, _, _, _, _⟩) structPt rfl (.tmp 7) rfl rfl (t.out.s (g7, 29, r1.c.toArray) (by simp)) (P4.size _) ?_)
    | (with_reducible refine wpl_load_row (o := ⟨some 24, _, _, _, _, _⟩) structPt rfl (.tmp 8) rfl rfl (t.out.s (g8, 29, r2.c.toArray) (by simp)) (P4.size _) ?_)
    | (go_at_call 19; (with_reducible refine (c4.out _).mono ?_); rintro e v ⟨rfl, kk⟩; replace t := Lib.hid (t.out.kept kk); clear kk))
  refine ⟨rfl, t.out, Txt.segs_cons ?_⟩
  go_wp2_with (first
    | (go_at_call 14; (with_reducible refine (c5.out _).mono ?_); rintro e v ⟨rfl, kk⟩; replace t := Lib.hid (t.out.kept kk); clear kk))
  refine ⟨rfl, t.out, Txt.segs_cons ?_⟩
  go_wp2_with (first
    | (with_reducible refine wpl_load_row (o := ⟨some 27, _, _, _, _, _⟩) structPt rfl (.tmp 8) rfl rfl (t.out.s (g8, 29, r2.c.toArray) (by simp)) (P4.size _) ?_)
    | (with_reducible refine wpl_load_row (o := ⟨some 28, _, _, _, _, _⟩) structPt rfl (.tmp 7) rfl rfl (t.out.s (g7, 29, r1.c.toArray) (by simp)) (P4.size _) ?_)
    | (go_at_call 19; (with_reducible refine (c6.out _).mono ?_); rintro e v ⟨rfl, kk⟩; replace t := Lib.hid (t.out.kept kk); clear kk))
  refine ⟨rfl, t.out, Txt.segs_cons ?_⟩
  go_wp2_with (first
    | (go_at_call 14; (with_reducible refine (c7.out _).mono ?_); rintro e v ⟨rfl, kk⟩; replace t := Lib.hid (t.out.kept kk); clear kk))
  refine ⟨rfl, t.out, Txt.segs_cons ?_⟩
  go_wp2_with (first
    | (with_reducible refine wpl_load_row (o := ⟨some 33, _, _, _, _, _⟩) structPt rfl (.tmp 7) rfl rfl (t.out.s (g7, 29, r1.c.toArray) (by simp)) (P4.size _) ?_)
    | (with_reducible refine wpl_load_row (o := ⟨some 34, _, _, _, _, _⟩) structPt rfl (.tmp 8) rfl rfl (t.out.s (g8, 29, r2.c.toArray) (by simp)) (P4.size _) ?_)
    | (go_at_call 19; (with_reducible refine (c4.out _).mono ?_); rintro e v ⟨rfl, kk⟩; replace t := Lib.hid (t.out.kept kk); clear kk))
  refine ⟨rfl, t.out, Txt.segs_cons ?_⟩
  go_wp2_with (first
    | (with_reducible refine wpl_load_row (o := ⟨some 36, _, _, _, _, _⟩) structPt rfl (.tmp 9) rfl rfl (t.out.s (g9, 29, r3.c.toArray) (by simp)) (P4.size _) ?_)
    | (go_at_call 19; (with_reducible refine (c8.out _).mono ?_); rintro e v ⟨rfl, kk⟩; replace t := Lib.hid (t.out.kept kk); clear kk))
  refine ⟨rfl, t.out, Txt.segs_cons ?_⟩
  go_wp2_with (first
    | (go_at_call 14; (with_reducible refine (c9.out _).mono ?_); rintro e v ⟨rfl, kk⟩; replace t := Lib.hid (t.out.kept kk); clear kk))
  refine ⟨rfl, t.out, Txt.segs_cons ?_⟩
  go_wp2_with (first
    | (with_reducible refine wpl_load_row (o := ⟨some 39, _, _, _, _, _⟩) structPt rfl (.tmp 7) rfl rfl (t.out.s (g7, 29, r1.c.toArray) (by simp)) (P4.size _) ?_)
    | (with_reducible refine wpl_load_row (o := ⟨some 40, _, _, _, _, _⟩) structPt rfl (.tmp 8) rfl rfl (t.out.s (g8, 29, r2.c.toArray) (by simp)) (P4.size _) ?_)
    | (with_reducible refine wpl_load_row (o := ⟨some 41, _, _, _, _, _⟩) structPt rfl (.tmp 9) rfl rfl (t.out.s (g9, 29, r3.c.toArray) (by simp)) (P4.size _) ?_)
    | (go_at_call 19; (with_reducible refine (c10.out _).mono ?_); rintro e v ⟨rfl, kk⟩; replace t := Lib.hid (t.out.kept kk); clear kk))
  refine ⟨rfl, t.out, Txt.segs_cons ?_⟩
  go_wp2_with (first
    | (go_at_call 19; (with_reducible refine (c11.out _).mono ?_); rintro e v ⟨rfl, kk⟩; replace t := Lib.hid (t.out.kept kk); clear kk))
  refine ⟨rfl, t.out, Txt.segs_cons ?_⟩
  go_wp2_with (first
    | (go_at_call 14; (with_reducible refine (c12.out _).mono ?_); rintro e v ⟨rfl, kk⟩; replace t := Lib.hid (t.out.kept kk); clear kk))
  refine ⟨rfl, t.out, Txt.segs_cons ?_⟩
  go_wp2_with (first
    | (with_reducible refine wpl_load_row (o := ⟨some 48, _, _, _, _, _⟩) structPt rfl (.tmp 7) rfl rfl (t.out.s (g7, 29, r1.c.toArray) (by simp)) (P4.size _) ?_)
    | (with_reducible refine wpl_load_row (o := ⟨some 49, _, _, _, _, _⟩) structPt rfl (.tmp 10) rfl rfl (t.out.s (g10, 29, pz.c.toArray) (by simp)) (P4.size _) ?_)
    | (go_at_call 19; (with_reducible refine (c13.out _).mono ?_); rintro e v ⟨rfl, kk⟩; replace t := Lib.hid (t.out.kept kk); clear kk))
  refine ⟨rfl, t.out, Txt.segs_cons ?_⟩
  go_wp2_with (first
    | (go_at_call 14; (with_reducible refine (c14.out _).mono ?_); rintro e v ⟨rfl, kk⟩; replace t := Lib.hid (t.out.kept kk); clear kk))
  refine ⟨rfl, t.out, Txt.segs_cons ?_⟩
  go_wp2_with (first
    | (with_reducible refine wpl_load_row (o := ⟨some 52, _, _, _, _, _⟩) structPt rfl (.tmp 7) rfl rfl (t.out.s (g7, 29, r1.c.toArray) (by simp)) (P4.size _) ?_)
    | (go_at_call 14; (with_reducible refine (c15.out _).mono ?_); rintro e v ⟨rfl, kk⟩; replace t := Lib.hid (t.out.kept kk); clear kk))
  refine ⟨rfl, t.out, Txt.segs_cons ?_⟩
  go_wp2_with (first
    | (with_reducible refine wpl_load_row (o := ⟨some 57, _, _, _, _, _⟩) structPt rfl (.tmp 10) rfl rfl (t.out.s (g10, 29, pz.c.toArray) (by simp)) (P4.size _) ?_)
    | (with_reducible refine wpl_load_row (o := ⟨some 58, _, _, _, _, _⟩) structPt rfl (.tmp 7) rfl rfl (t.out.s (g7, 29, r1.c.toArray) (by simp)) (P4.size _) ?_)
    | (go_at_call 19; (with_reducible refine (c16.out _).mono ?_); rintro e v ⟨rfl, kk⟩; replace t := Lib.hid (t.out.kept kk); clear kk))
  refine ⟨rfl, t.out, Txt.segs_cons ?_⟩
  go_wp2_with (first
    | (go_at_call 14; (with_reducible refine (c17.out _).mono ?_); rintro e v ⟨rfl, kk⟩; replace t := Lib.hid (t.out.kept kk); clear kk))
  refine ⟨rfl, t.out, Txt.segs_cons ?_⟩
  go_wp2_with (first
    | (with_reducible refine wpl_load_row (o := ⟨some 61, _, _, _, _, _⟩) structPt rfl (.tmp 7) rfl rfl (t.out.s (g7, 29, r1.c.toArray) (by simp)) (P4.size _) ?_)
    | (go_at_call 14; (with_reducible refine (c15.out _).mono ?_); rintro e v ⟨rfl, kk⟩; replace t := Lib.hid (t.out.kept kk); clear kk))
  refine ⟨rfl, t.out, Txt.segs_cons ?_⟩
  go_wp2_with (first
    | (with_reducible refine wpl_load_row (o := ⟨some 66, _, _, _, _, _⟩) structPt rfl (.tmp 7) rfl rfl (t.out.s (g7, 29, r1.c.toArray) (by simp)) (P4.size _) ?_)
    | (with_reducible refine wpl_load_row (o := ⟨some 67, _, _, _, _, _⟩) structPt rfl (.tmp 7) rfl rfl (t.out.s (g7, 29, r1.c.toArray) (by simp)) (P4.size _) ?_)
    | (go_at_call 20; (with_reducible refine (c18.out _).mono ?_); rintro e v ⟨rfl, kk⟩; replace t := Lib.hid (t.out.kept kk); clear kk))
  refine ⟨rfl, t.out, Txt.segs_cons ?_⟩
  go_wp2_with (first
    | (go_at_call 19; (with_reducible refine (c19.out _).mono ?_); rintro e v ⟨rfl, kk⟩; replace t := Lib.hid (t.out.kept kk); clear kk))
  refine ⟨rfl, t.out, Txt.segs_cons ?_⟩
  go_wp2_with (first
    | (go_at_call 14; (with_reducible refine (c20.out _).mono ?_); rintro e v ⟨rfl, kk⟩; replace t := Lib.hid (t.out.kept kk); clear kk))
  refine ⟨rfl, t.out, Txt.segs_cons ?_⟩
  go_wp2_with (first
    | (with_reducible refine wpl_load_row (o := ⟨some 71, _, _, _, _, _⟩) structPt rfl (.tmp 10) rfl rfl (t.out.s (g10, 29, pz.c.toArray) (by simp)) (P4.size _) ?_)
    | (go_at_call 14; (with_reducible refine (c21.out _).mono ?_); rintro e v ⟨rfl, kk⟩; replace t := Lib.hid (t.out.kept kk); clear kk))
  refine ⟨rfl, t.out, Txt.segs_cons ?_⟩
  go_wp2_with (first
    | (with_reducible refine wpl_load_row (o := ⟨some 76, _, _, _, _, _⟩) structPt rfl (.tmp 7) rfl rfl (t.out.s (g7, 29, r1.c.toArray) (by simp)) (P4.size _) ?_)
    | (with_reducible refine wpl_load_row (o := ⟨some 77, _, _, _, _, _⟩) structPt rfl (.tmp 7) rfl rfl (t.out.s (g7, 29, r1.c.toArray) (by simp)) (P4.size _) ?_)
    | (go_at_call 19; (with_reducible refine (c22.out _).mono ?_); rintro e v ⟨rfl, kk⟩; replace t := Lib.hid (t.out.kept kk); clear kk))
  refine ⟨rfl, t.out, Txt.segs_cons ?_⟩
  go_wp2_with (first
    | (go_at_call 14; (with_reducible refine (c23.out _).mono ?_); rintro e v ⟨rfl, kk⟩; replace t := Lib.hid (t.out.kept kk); clear kk))
  refine ⟨rfl, t.out, Txt.segs_cons ?_⟩
  go_wp2_with (first
    | (with_reducible refine wpl_load_row (o := ⟨some 80, _, _, _, _, _⟩) structPt rfl (.tmp 7) rfl rfl (t.out.s (g7, 29, r1.c.toArray) (by simp)) (P4.size _) ?_)
    | (refine wpl_build1 (o := ⟨some 81, _, _, _, _, _⟩) rfl 0 (.const (.int .u8 2)) rfl rfl u2.out ?_))
  refine ⟨rfl, t.out, Txt.segs_cons ?_⟩
  go_wp2_with (first
    | (go_at_call 18; (with_reducible refine (c24.out _).mono ?_); rintro e v ⟨rfl, kk⟩; replace t := Lib.hid (t.out.kept kk); clear kk))
  refine ⟨rfl, t.out, Txt.segs_cons ?_⟩
  go_wp2_with (first
    | (go_at_call 14; (with_reducible refine (c25.out _).mono ?_); rintro e v ⟨rfl, kk⟩; replace t := Lib.hid (t.out.kept kk); clear kk))
  refine ⟨rfl, t.out, Txt.segs_cons ?_⟩
  go_wp2_with (first
    | (with_reducible refine wpl_load_row (o := ⟨some 87, _, _, _, _, _⟩) structPt rfl (.tmp 10) rfl rfl (t.out.s (g10, 29, pz.c.toArray) (by simp)) (P4.size _) ?_)
    | (with_reducible refine wpl_load_row (o := ⟨some 88, _, _, _, _, _⟩) arrB.row rfl (.tmp 3) rfl rfl (t.out.s (g3, 22, (bv x).toArray) (by simp)) (bsize (nx).out) ?_)
    | (go_at_call 18; (with_reducible refine (c26.out _).mono ?_); rintro e v ⟨rfl, kk⟩; replace t := Lib.hid (t.out.kept kk); clear kk))
  refine ⟨rfl, t.out, Txt.segs_cons ?_⟩
  go_wp2_with (first
    | (go_at_call 14; (with_reducible refine (c27.out _).mono ?_); rintro e v ⟨rfl, kk⟩; replace t := Lib.hid (t.out.kept kk); clear kk))
  refine ⟨rfl, t.out, Txt.segs_cons ?_⟩
  go_wp2_with (first
    | (with_reducible refine wpl_load_row (o := ⟨some 91, _, _, _, _, _⟩) structPt rfl (.tmp 10) rfl rfl (t.out.s (g10, 29, pz.c.toArray) (by simp)) (P4.size _) ?_)
    | (go_at_call 14; (with_reducible refine (c21.out _).mono ?_); rintro e v ⟨rfl, kk⟩; replace t := Lib.hid (t.out.kept kk); clear kk))
  refine ⟨rfl, t.out, Txt.segs_cons ?_⟩
  go_wp2_with fail
  refine ⟨rfl, t.out, Txt.segs_nil ⟨⟨by kernel_rfl, ?_⟩, ?_⟩⟩
  · intro j hj o ho hw
    have hj2 : j = 0 ∨ j = 1 ∨ j = 4 ∨ j = 5 ∨ j = 8 ∨ j = 10 ∨ j = 11 ∨ j = 13 ∨ j = 16 ∨ j = 17 ∨ j = 18 ∨ j = 22 ∨ j = 25 ∨ j = 26 ∨ j = 29 ∨ j = 31 ∨ j = 34 ∨ j = 35 ∨ j = 38 ∨ j = 40 ∨ j = 43 ∨ j = 44 ∨ j = 48 ∨ j = 50 ∨ j = 53 ∨ j = 54 ∨ j = 57 ∨ j = 58 ∨ j = 61 ∨ j = 64 ∨ j = 65 ∨ j = 68 ∨ j = 70 := by simpa using hj
    rcases hj2 with rfl | rfl | rfl | rfl | rfl | rfl | rfl | rfl | rfl | rfl | rfl | rfl | rfl | rfl | rfl | rfl | rfl | rfl | rfl | rfl | rfl | rfl | rfl | rfl | rfl | rfl | rfl | rfl | rfl | rfl | rfl | rfl | rfl <;> cases ho
    · exact ⟨23, rfl, fun u hu => exec_load structPt (.tmp 7) rfl rfl (hu.s (g7, 29, r1.c.toArray) (by simp)) (P4.size _)⟩
    · exact ⟨24, rfl, fun u hu => exec_load structPt (.tmp 8) rfl rfl (hu.s (g8, 29, r2.c.toArray) (by simp)) (P4.size _)⟩
    · exact ⟨27, rfl, fun u hu => exec_load structPt (.tmp 8) rfl rfl (hu.s (g8, 29, r2.c.toArray) (by simp)) (P4.size _)⟩
    · exact ⟨28, rfl, fun u hu => exec_load structPt (.tmp 7) rfl rfl (hu.s (g7, 29, r1.c.toArray) (by simp)) (P4.size _)⟩
    · exact ⟨31, rfl, fun u _ => exec_eqb (.tmp 26) (.tmp 30) rfl rfl rfl Q31.out nH0.out nH0.out⟩
    · exact ⟨33, rfl, fun u hu => exec_load structPt (.tmp 7) rfl rfl (hu.s (g7, 29, r1.c.toArray) (by simp)) (P4.size _)⟩
    · exact ⟨34, rfl, fun u hu => exec_load structPt (.tmp 8) rfl rfl (hu.s (g8, 29, r2.c.toArray) (by simp)) (P4.size _)⟩
    · exact ⟨36, rfl, fun u hu => exec_load structPt (.tmp 9) rfl rfl (hu.s (g9, 29, r3.c.toArray) (by simp)) (P4.size _)⟩
    · exact ⟨39, rfl, fun u hu => exec_load structPt (.tmp 7) rfl rfl (hu.s (g7, 29, r1.c.toArray) (by simp)) (P4.size _)⟩
    · exact ⟨40, rfl, fun u hu => exec_load structPt (.tmp 8) rfl rfl (hu.s (g8, 29, r2.c.toArray) (by simp)) (P4.size _)⟩
    · exact ⟨41, rfl, fun u hu => exec_load structPt (.tmp 9) rfl rfl (hu.s (g9, 29, r3.c.toArray) (by simp)) (P4.size _)⟩
    · exact ⟨45, rfl, fun u _ => exec_eqb (.tmp 38) (.tmp 44) rfl rfl rfl Q45.out nH1.out nH1.out⟩
    · exact ⟨48, rfl, fun u hu => exec_load structPt (.tmp 7) rfl rfl (hu.s (g7, 29, r1.c.toArray) (by simp)) (P4.size _)⟩
    · exact ⟨49, rfl, fun u hu => exec_load structPt (.tmp 10) rfl rfl (hu.s (g10, 29, pz.c.toArray) (by simp)) (P4.size _)⟩
    · exact ⟨52, rfl, fun u hu => exec_load structPt (.tmp 7) rfl rfl (hu.s (g7, 29, r1.c.toArray) (by simp)) (P4.size _)⟩
    · exact ⟨54, rfl, fun u _ => exec_eqb (.tmp 51) (.tmp 53) rfl rfl rfl Q54.out nH2.out nH2.out⟩
    · exact ⟨57, rfl, fun u hu => exec_load structPt (.tmp 10) rfl rfl (hu.s (g10, 29, pz.c.toArray) (by simp)) (P4.size _)⟩
    · exact ⟨58, rfl, fun u hu => exec_load structPt (.tmp 7) rfl rfl (hu.s (g7, 29, r1.c.toArray) (by simp)) (P4.size _)⟩
    · exact ⟨61, rfl, fun u hu => exec_load structPt (.tmp 7) rfl rfl (hu.s (g7, 29, r1.c.toArray) (by simp)) (P4.size _)⟩
    · exact ⟨63, rfl, fun u _ => exec_eqb (.tmp 60) (.tmp 62) rfl rfl rfl Q63.out nH2.out nH2.out⟩
    · exact ⟨66, rfl, fun u hu => exec_load structPt (.tmp 7) rfl rfl (hu.s (g7, 29, r1.c.toArray) (by simp)) (P4.size _)⟩
    · exact ⟨67, rfl, fun u hu => exec_load structPt (.tmp 7) rfl rfl (hu.s (g7, 29, r1.c.toArray) (by simp)) (P4.size _)⟩
    · exact ⟨71, rfl, fun u hu => exec_load structPt (.tmp 10) rfl rfl (hu.s (g10, 29, pz.c.toArray) (by simp)) (P4.size _)⟩
    · exact ⟨73, rfl, fun u _ => exec_eqb (.tmp 70) (.tmp 72) rfl rfl rfl Q73.out nl1.out nl1.out⟩
    · exact ⟨76, rfl, fun u hu => exec_load structPt (.tmp 7) rfl rfl (hu.s (g7, 29, r1.c.toArray) (by simp)) (P4.size _)⟩
    · exact ⟨77, rfl, fun u hu => exec_load structPt (.tmp 7) rfl rfl (hu.s (g7, 29, r1.c.toArray) (by simp)) (P4.size _)⟩
    · exact ⟨80, rfl, fun u hu => exec_load structPt (.tmp 7) rfl rfl (hu.s (g7, 29, r1.c.toArray) (by simp)) (P4.size _)⟩
    · exact ⟨81, rfl, fun u _ => exec_build1 0 (.const (.int .u8 2)) rfl rfl u2.out⟩
    · exact ⟨84, rfl, fun u _ => exec_eqb (.tmp 79) (.tmp 83) rfl rfl rfl Q84.out nH3.out nH3.out⟩
    · exact ⟨87, rfl, fun u hu => exec_load structPt (.tmp 10) rfl rfl (hu.s (g10, 29, pz.c.toArray) (by simp)) (P4.size _)⟩
    · exact ⟨88, rfl, fun u hu => exec_load arrB.row (.tmp 3) rfl rfl (hu.s (g3, 22, (bv x).toArray) (by simp)) (bsize (nx).out)⟩
    · exact ⟨91, rfl, fun u hu => exec_load structPt (.tmp 10) rfl rfl (hu.s (g10, 29, pz.c.toArray) (by simp)) (P4.size _)⟩
    · exact ⟨93, rfl, fun u _ => exec_eqb (.tmp 90) (.tmp 92) rfl rfl rfl Q93.out nl1.out nl1.out⟩
  go_wp2_with fail
  go_ret
  exact ⟨rfl, t.out.k⟩
end Go.Proofs.Ytkflljjcgihaoaa
