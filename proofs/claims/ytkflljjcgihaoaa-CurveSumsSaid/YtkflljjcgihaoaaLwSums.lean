/-
  The curve's laws: sums, negatives, multiples (CurveSums).
-/
import Derived.Test.YtkflljjcgihaoaaLwReads
namespace Go.Proofs.Ytkflljjcgihaoaa
open Go.RowKit Go.Mem Go.Txt

set_option maxRecDepth 100000 in
set_option maxHeartbeats 4000000 in
theorem sums_ok (x y z : List UInt8) (w : World) (nx : x.length = 32) (ny : y.length = 32) (nz : z.length = 32) {P : Ed.Pt} (hz : z = le (enc P) 32) (hdec : ∀ dc, Dq 70000 dc Ed.D → ∃ r, RdC dc z r true ∧ Rr r P) : Calls Try.prog 8 #[ab x, ab y, ab z] w fun e w' => e = .returned (.bool true) ∧ Kept [] w w' := by
  have cf := Lib.hid first_any
  obtain ⟨dc, cnw, hD⟩ := new_r
  obtain ⟨rp, crp, hrp⟩ := dec_s hz (P := P) rfl
  obtain ⟨qd, cqd, hqd⟩ := hdec dc hD
  obtain ⟨b, cb, hb⟩ := base_e
  obtain ⟨r3, c3, h3⟩ := mul_s hb nx
  obtain ⟨bq, cbq, hbq⟩ := rbase_r hD
  obtain ⟨q4, c4, h4⟩ := rmult_r hD hbq nx
  obtain ⟨H0, hH0, nH0⟩ : ∃ l : List UInt8, l = le (enc (Ed.Pt.mul (leV x) BB)) 32 ∧ l.length = 32 := ⟨_, rfl, le_len _ _⟩
  have c5 : HsC r3 H0 := hash_l hH0 h3 rfl
  have c6 : BytC q4 H0 := rb_l hH0 h4 rfl
  obtain ⟨r7, c7, h7⟩ := add_e h3 hrp
  obtain ⟨H1, hH1, nH1⟩ : ∃ l : List UInt8, l = le (enc ((Ed.Pt.mul (leV x) BB) + P)) 32 ∧ l.length = 32 := ⟨_, rfl, le_len _ _⟩
  have c8 : HsC r7 H1 := hash_l hH1 h7 rfl
  obtain ⟨q9, c9, h9⟩ := radd_r hD h4 hqd
  have c10 : BytC q9 H1 := rb_l hH1 h9 rfl
  obtain ⟨r11, c11, h11⟩ := mul_s hrp ny
  obtain ⟨H2, hH2, nH2⟩ : ∃ l : List UInt8, l = le (enc (Ed.Pt.mul (leV y) P)) 32 ∧ l.length = 32 := ⟨_, rfl, le_len _ _⟩
  have c12 : HsC r11 H2 := hash_l hH2 h11 rfl
  obtain ⟨q13, c13, h13⟩ := rmult_r hD hqd ny
  have c14 : BytC q13 H2 := rb_l hH2 h13 rfl
  obtain ⟨r15, c15, h15⟩ := both_s hrp nx ny
  obtain ⟨H3, hH3, nH3⟩ : ∃ l : List UInt8, l = le (enc ((Ed.Pt.mul (leV x) BB) + (Ed.Pt.mul (leV y) P))) 32 ∧ l.length = 32 := ⟨_, rfl, le_len _ _⟩
  have c16 : HsC r15 H3 := hash_l hH3 h15 rfl
  obtain ⟨q17, c17, h17⟩ := radd_r hD h4 h13
  have c18 : BytC q17 H3 := rb_l hH3 h17 rfl
  obtain ⟨r19, c19, h19⟩ := neg_e h3
  obtain ⟨H4, hH4, nH4⟩ : ∃ l : List UInt8, l = le (enc (Ed.Pt.neg (Ed.Pt.mul (leV x) BB))) 32 ∧ l.length = 32 := ⟨_, rfl, le_len _ _⟩
  have c20 : HsC r19 H4 := hash_l hH4 h19 rfl
  obtain ⟨q21, c21, h21⟩ := rneg_r h4
  have c22 : BytC q21 H4 := rb_l hH4 h21 rfl
  have Q47 : (H0 == H0) = true := beq_self_eq_true _
  have q47 := eql_run Q47 nH0 nH0
  have Q58 : (H1 == H1) = true := beq_self_eq_true _
  have q58 := eql_run Q58 nH1 nH1
  have Q70 : (H2 == H2) = true := beq_self_eq_true _
  have q70 := eql_run Q70 nH2 nH2
  have Q86 : (H3 == H3) = true := beq_self_eq_true _
  have q86 := eql_run Q86 nH3 nH3
  have Q95 : (H4 == H4) = true := beq_self_eq_true _
  have q95 := eql_run Q95 nH4 nH4
  replace Q47 := Lib.hid Q47
  replace Q58 := Lib.hid Q58
  replace Q70 := Lib.hid Q70
  replace Q86 := Lib.hid Q86
  replace Q95 := Lib.hid Q95
  replace c10 := Lib.hid c10
  replace c11 := Lib.hid c11
  replace c12 := Lib.hid c12
  replace c13 := Lib.hid c13
  replace c14 := Lib.hid c14
  replace c15 := Lib.hid c15
  replace c16 := Lib.hid c16
  replace c17 := Lib.hid c17
  replace c18 := Lib.hid c18
  replace c19 := Lib.hid c19
  replace c20 := Lib.hid c20
  replace c21 := Lib.hid c21
  replace c22 := Lib.hid c22
  replace c3 := Lib.hid c3
  replace c4 := Lib.hid c4
  replace c5 := Lib.hid c5
  replace c6 := Lib.hid c6
  replace c7 := Lib.hid c7
  replace c8 := Lib.hid c8
  replace c9 := Lib.hid c9
  replace cb := Lib.hid cb
  replace cbq := Lib.hid cbq
  replace cnw := Lib.hid cnw
  replace cqd := Lib.hid cqd
  replace crp := Lib.hid crp
  replace nx := Lib.hid nx
  replace ny := Lib.hid ny
  replace nz := Lib.hid nz
  replace nH0 := Lib.hid nH0
  replace nH1 := Lib.hid nH1
  replace nH2 := Lib.hid nH2
  replace nH3 := Lib.hid nH3
  replace nH4 := Lib.hid nH4
  clear hH0 hH1 hH2 hH3 hH4 hD hrp hqd hb h3 hbq h4 h7 h9 h11 h13 h15 h17 h19 h21 hz hdec
  go_enter Try.func8, Try.ntmps8
  have t := Lib.hid (Pm.none w)
  go_wp2_with (first
    | ((with_reducible refine wpl_box (o := ⟨some 3, _, _, _, _, _⟩) (v := ab x) rfl (.tmp 0) rfl rfl ?_); intro g3 w3 m3; replace t := Lib.hid ((t.out.kept m3.kept).cons (show Blk w3 g3 22 (bv x).toArray from m3.blk)); clear m3)
    | ((with_reducible refine wpl_box (o := ⟨some 4, _, _, _, _, _⟩) (v := ab y) rfl (.tmp 1) rfl rfl ?_); intro g4 w4 m4; replace t := Lib.hid ((t.out.kept m4.kept).cons (show Blk w4 g4 22 (bv y).toArray from m4.blk)); clear m4)
    | ((with_reducible refine wpl_box (o := ⟨some 5, _, _, _, _, _⟩) (v := ab z) rfl (.tmp 2) rfl rfl ?_); intro g5 w5 m5; replace t := Lib.hid ((t.out.kept m5.kept).cons (show Blk w5 g5 22 (bv z).toArray from m5.blk)); clear m5)
    | (go_at_call 10; (with_reducible refine (cf.out _).mono ?_); rintro e v ⟨rfl, kk⟩; replace t := Lib.hid (t.out.kept kk); clear kk)
    | (go_at_call 12; (with_reducible refine (cnw.out _).mono ?_); rintro e v ⟨rfl, kk⟩; replace t := Lib.hid (t.out.kept kk); clear kk)
    | ((with_reducible refine wpl_new (o := ⟨some 7, _, _, _, _, _⟩) rfl rfl zeroCv ?_); intro g7 w7 m7)
    | ((refine wpl_store_row (o := ⟨none, .store 36 (.tmp 7) (.tmp 16), _, _, _, _⟩) structCv rfl (.tmp 7) (.tmp 16) rfl rfl rfl m7.blk rfl rfl (one_nu _) ?_); intro v7 b7 k7; replace t := Lib.hid (t.out.put m7 b7 k7); clear m7 b7 k7)
    | (with_reducible refine wpl_load_row (o := ⟨some 18, _, _, _, _, _⟩) arrB.row rfl (.tmp 5) rfl rfl (t.out.s (g5, 22, (bv z).toArray) (by simp)) (bsize (nz).out) ?_)
    | (go_at_call 11; (with_reducible refine (crp.out _).mono ?_); rintro e v ⟨rfl, kk⟩; replace t := Lib.hid (t.out.kept kk); clear kk)
    | ((with_reducible refine wpl_new (o := ⟨some 8, _, _, _, _, _⟩) rfl rfl zeroP4 ?_); intro g8 w8 m8)
    | ((refine wpl_store_row (o := ⟨none, .store 29 (.tmp 8) (.tmp 20), _, _, _, _⟩) structPt rfl (.tmp 8) (.tmp 20) rfl rfl rfl m8.blk pz.size (P4.size _) (P4.one _) ?_); intro v8 b8 k8; replace t := Lib.hid (t.out.put m8 b8 k8); clear m8 b8 k8)
    | (with_reducible refine wpl_load_row (o := ⟨some 23, _, _, _, _, _⟩) structCv rfl (.tmp 7) rfl rfl (t.out.s (g7, 36, (iv (fam 16 dc)).toArray) (by simp)) rfl ?_)
    | (with_reducible refine wpl_load_row (o := ⟨some 24, _, _, _, _, _⟩) arrB.row rfl (.tmp 5) rfl rfl (t.out.s (g5, 22, (bv z).toArray) (by simp)) (bsize (nz).out) ?_)
    | (go_at_call 13; (with_reducible refine (cqd.out _).mono ?_); rintro e v ⟨rfl, kk⟩; replace t := Lib.hid (t.out.kept kk); clear kk)
    | ((with_reducible refine wpl_new (o := ⟨some 10, _, _, _, _, _⟩) rfl rfl zeroRt ?_); intro g10 w10 m10; have N10 := Lib.hid (fun p hp => m10.ne (t.out.s p hp).lt); have L10 := Lib.hid (Nat.le_trans t.out.k.size m10.le))
    | ((refine wpl_store_row (o := ⟨none, .store 39 (.tmp 10) (.tmp 26), _, _, _, _⟩) structRt rfl (.tmp 10) (.tmp 26) rfl rfl rfl m10.blk (R4.size rz) (R4.size qd) (R4.one qd) ?_); intro v10 b10 k10; replace t := Lib.hid (t.out.put m10 b10 k10); clear m10 b10 k10))
  refine wp_multi (by kernel_rfl) [.val (b.v), .val (ab x), .val (r3.v), .new 29 (pz.v), .put 3 2 r3.c.toArray]
    (Pm w [(g10, 39, qd.c.toArray), (g8, 29, rp.c.toArray), (g7, 36, (iv (fam 16 dc)).toArray), (g5, 22, (bv z).toArray), (g4, 22, (bv y).toArray), (g3, 22, (bv x).toArray)]) (by kernel_rfl) (by kernel_rfl) t.out.drew (fun u u' T hS hk hT => t.out.fresh u u' T hS hk hT) ?_ ?_
  · refine ⟨?_, ?_, ?_, ⟨⟨_, rfl⟩, rfl, zeroP4⟩, ?_, trivial⟩
    · refine ⟨⟨_, rfl⟩, fun a' u K0 R hS hr ho h => wp_callf rfl enters_base (vs := #[]) ?_ (cb.out u) h⟩
      simp
    · exact ⟨⟨_, rfl⟩, fun a' u K0 R hS hr ho h => wp_loadr arrB.row (.tmp 3) rfl ((ho 3 (by decide)).trans rfl) (hS.s (g3, 22, (bv x).toArray) (by simp)) (bsize (nx).out) (h u (Kept.refl _ _))⟩
    · refine ⟨⟨_, rfl⟩, fun a' u K0 R hS hr ho h => wp_callf rfl enters_pmul (vs := #[b.v, ab x]) ?_ (c3.out u) h⟩
      have x0 := hr 0 (b.v) 35 _ rfl rfl rfl ⟨⟨0, .data⟩, by simp, rfl, rfl⟩
      have x1 := hr 1 (ab x) 36 _ rfl rfl rfl ⟨⟨1, .data⟩, by simp, rfl, rfl⟩
      simp [Act.eval] at x0 x1 ⊢
      exact ⟨x0, x1⟩
    · exact ⟨rfl, ⟨⟨3, .data⟩, by simp, rfl, rfl⟩, ⟨⟨2, .data⟩, by simp, rfl, rfl⟩, _, _, _, _, _, _, _, _, rfl, rfl, rfl, rfl, rfl, rfl, rfl, structPt, pz.size, P4.size _, P4.one _⟩
  intro γ wm hS hγ hne hput
  have b12 := hput 4 3 2 _ _ _ rfl rfl
  generalize e12 : γ 3 = g12 at *
  simp [actOf, VK, List.range, List.range.loop, Act.put, e12]
  replace t := Lib.hid (show Pm w [(g12, 29, r3.c.toArray), (g10, 39, qd.c.toArray), (g8, 29, rp.c.toArray), (g7, 36, (iv (fam 16 dc)).toArray), (g5, 22, (bv z).toArray), (g4, 22, (bv y).toArray), (g3, 22, (bv x).toArray)] wm from (hS).cons b12)
  clear b12 hput hne hγ hS e12
  go_wp2_with fail
  refine wp_multi (by kernel_rfl) [.val (nu dc), .val (nu dc), .val (bq.v), .val (ab x), .val (q4.v), .new 39 (rz.v), .put 5 4 q4.c.toArray]
    (Pm w [(g12, 29, r3.c.toArray), (g10, 39, qd.c.toArray), (g8, 29, rp.c.toArray), (g7, 36, (iv (fam 16 dc)).toArray), (g5, 22, (bv z).toArray), (g4, 22, (bv y).toArray), (g3, 22, (bv x).toArray)]) (by kernel_rfl) (by kernel_rfl) t.out.drew (fun u u' T hS hk hT => t.out.fresh u u' T hS hk hT) ?_ ?_
  · refine ⟨?_, ?_, ?_, ?_, ?_, ⟨⟨_, rfl⟩, rfl, zeroRt⟩, ?_, trivial⟩
    · exact ⟨⟨_, rfl⟩, fun a' u K0 R hS hr ho h => wp_loadr structCv (.tmp 7) rfl ((ho 7 (by decide)).trans rfl) (hS.s (g7, 36, (iv (fam 16 dc)).toArray) (by simp)) rfl (h u (Kept.refl _ _))⟩
    · exact ⟨⟨_, rfl⟩, fun a' u K0 R hS hr ho h => wp_loadr structCv (.tmp 7) rfl ((ho 7 (by decide)).trans rfl) (hS.s (g7, 36, (iv (fam 16 dc)).toArray) (by simp)) rfl (h u (Kept.refl _ _))⟩
    · refine ⟨⟨_, rfl⟩, fun a' u K0 R hS hr ho h => wp_callf rfl enters_qbase (vs := #[nu dc]) ?_ (cbq.out u) h⟩
      have x0 := hr 1 (nu dc) 39 _ rfl rfl rfl ⟨⟨1, .data⟩, by simp, rfl, rfl⟩
      simp [Act.eval] at x0 ⊢
      exact x0
    · exact ⟨⟨_, rfl⟩, fun a' u K0 R hS hr ho h => wp_loadr arrB.row (.tmp 3) rfl ((ho 3 (by decide)).trans rfl) (hS.s (g3, 22, (bv x).toArray) (by simp)) (bsize (nx).out) (h u (Kept.refl _ _))⟩
    · refine ⟨⟨_, rfl⟩, fun a' u K0 R hS hr ho h => wp_callf rfl enters_qmul (vs := #[nu dc, bq.v, ab x]) ?_ (c4.out u) h⟩
      have x0 := hr 0 (nu dc) 38 _ rfl rfl rfl ⟨⟨0, .data⟩, by simp, rfl, rfl⟩
      have x1 := hr 2 (bq.v) 40 _ rfl rfl rfl ⟨⟨2, .data⟩, by simp, rfl, rfl⟩
      have x2 := hr 3 (ab x) 41 _ rfl rfl rfl ⟨⟨3, .data⟩, by simp, rfl, rfl⟩
      simp [Act.eval] at x0 x1 x2 ⊢
      exact ⟨x0, x1, x2⟩
    · exact ⟨rfl, ⟨⟨5, .data⟩, by simp, rfl, rfl⟩, ⟨⟨4, .data⟩, by simp, rfl, rfl⟩, _, _, _, _, _, _, _, _, rfl, rfl, rfl, rfl, rfl, rfl, rfl, structRt, R4.size rz, R4.size q4, R4.one q4⟩
  intro γ wm hS hγ hne hput
  have b13 := hput 6 5 4 _ _ _ rfl rfl
  generalize e13 : γ 5 = g13 at *
  simp [actOf, VK, List.range, List.range.loop, Act.put, e13]
  replace t := Lib.hid (show Pm w [(g13, 39, q4.c.toArray), (g12, 29, r3.c.toArray), (g10, 39, qd.c.toArray), (g8, 29, rp.c.toArray), (g7, 36, (iv (fam 16 dc)).toArray), (g5, 22, (bv z).toArray), (g4, 22, (bv y).toArray), (g3, 22, (bv x).toArray)] wm from (hS).cons b13)
  clear b13 hput hne hγ hS e13
  go_wp2_with fail
  refine Txt.wp_textG [0, 2, 4, 6, 7, 10, 11, 12, 15, 18, 19, 22, 23, 24, 27, 30, 31, 32, 35, 36, 37, 38, 39, 43, 46, 49, 52] (Pm w [(g13, 39, q4.c.toArray), (g12, 29, r3.c.toArray), (g10, 39, qd.c.toArray), (g8, 29, rp.c.toArray), (g7, 36, (iv (fam 16 dc)).toArray), (g5, 22, (bv z).toArray), (g4, 22, (bv y).toArray), (g3, 22, (bv x).toArray)]) [[_, _], [_, _], [_, _, _, _, _], [_], [_, _, _, _], [_], [_, _, _, _, _, _], [_], [_, _, _, _], [_], [_, _, _, _, _, _, _], [_], [_, _, _, _, _, _], [_], [_], [_, _, _, _, _], [_], [_, _], [_], [_, _, _]] (by kernel_rfl) (by kernel_rfl) rfl t.out.drew (Txt.segs_cons ?_)
  replace t := Lib.hid t.out.drew
  go_wp2_with (first
    | (with_reducible refine wpl_load_row (o := ⟨some 43, _, _, _, _, _⟩) structPt rfl (.tmp 12) rfl rfl (t.out.s (g12, 29, r3.c.toArray) (by simp)) (P4.size _) ?_)
    | (go_at_call 14; (with_reducible refine (c5.out _).mono ?_); rintro e v ⟨rfl, kk⟩; replace t := Lib.hid (t.out.kept kk); clear kk))
  refine ⟨rfl, t.out, Txt.segs_cons ?_⟩
  go_wp2_with (first
    | (with_reducible refine wpl_load_row (o := ⟨some 45, _, _, _, _, _⟩) structRt rfl (.tmp 13) rfl rfl (t.out.s (g13, 39, q4.c.toArray) (by simp)) (R4.size q4) ?_)
    | (go_at_call 24; (with_reducible refine (c6.out _).mono ?_); rintro e v ⟨rfl, kk⟩; replace t := Lib.hid (t.out.kept kk); clear kk))
  refine ⟨rfl, t.out, Txt.segs_cons ?_⟩
  go_wp2_with (first
    | (with_reducible refine wpl_load_row (o := ⟨some 49, _, _, _, _, _⟩) structPt rfl (.tmp 12) rfl rfl (t.out.s (g12, 29, r3.c.toArray) (by simp)) (P4.size _) ?_)
    | (with_reducible refine wpl_load_row (o := ⟨some 50, _, _, _, _, _⟩) structPt rfl (.tmp 8) rfl rfl (t.out.s (g8, 29, rp.c.toArray) (by simp)) (P4.size _) ?_)
    | (go_at_call 19; (with_reducible refine (c7.out _).mono ?_); rintro e v ⟨rfl, kk⟩; replace t := Lib.hid (t.out.kept kk); clear kk))
  refine ⟨rfl, t.out, Txt.segs_cons ?_⟩
  go_wp2_with (first
    | (go_at_call 14; (with_reducible refine (c8.out _).mono ?_); rintro e v ⟨rfl, kk⟩; replace t := Lib.hid (t.out.kept kk); clear kk))
  refine ⟨rfl, t.out, Txt.segs_cons ?_⟩
  go_wp2_with (first
    | (with_reducible refine wpl_load_row (o := ⟨some 53, _, _, _, _, _⟩) structCv rfl (.tmp 7) rfl rfl (t.out.s (g7, 36, (iv (fam 16 dc)).toArray) (by simp)) rfl ?_)
    | (with_reducible refine wpl_load_row (o := ⟨some 54, _, _, _, _, _⟩) structRt rfl (.tmp 13) rfl rfl (t.out.s (g13, 39, q4.c.toArray) (by simp)) (R4.size q4) ?_)
    | (with_reducible refine wpl_load_row (o := ⟨some 55, _, _, _, _, _⟩) structRt rfl (.tmp 10) rfl rfl (t.out.s (g10, 39, qd.c.toArray) (by simp)) (R4.size qd) ?_)
    | (go_at_call 25; (with_reducible refine (c9.out _).mono ?_); rintro e v ⟨rfl, kk⟩; replace t := Lib.hid (t.out.kept kk); clear kk))
  refine ⟨rfl, t.out, Txt.segs_cons ?_⟩
  go_wp2_with (first
    | (go_at_call 24; (with_reducible refine (c10.out _).mono ?_); rintro e v ⟨rfl, kk⟩; replace t := Lib.hid (t.out.kept kk); clear kk))
  refine ⟨rfl, t.out, Txt.segs_cons ?_⟩
  go_wp2_with (first
    | (with_reducible refine wpl_load_row (o := ⟨some 61, _, _, _, _, _⟩) structPt rfl (.tmp 8) rfl rfl (t.out.s (g8, 29, rp.c.toArray) (by simp)) (P4.size _) ?_)
    | (with_reducible refine wpl_load_row (o := ⟨some 62, _, _, _, _, _⟩) arrB.row rfl (.tmp 4) rfl rfl (t.out.s (g4, 22, (bv y).toArray) (by simp)) (bsize (ny).out) ?_)
    | (go_at_call 18; (with_reducible refine (c11.out _).mono ?_); rintro e v ⟨rfl, kk⟩; replace t := Lib.hid (t.out.kept kk); clear kk))
  refine ⟨rfl, t.out, Txt.segs_cons ?_⟩
  go_wp2_with (first
    | (go_at_call 14; (with_reducible refine (c12.out _).mono ?_); rintro e v ⟨rfl, kk⟩; replace t := Lib.hid (t.out.kept kk); clear kk))
  refine ⟨rfl, t.out, Txt.segs_cons ?_⟩
  go_wp2_with (first
    | (with_reducible refine wpl_load_row (o := ⟨some 65, _, _, _, _, _⟩) structCv rfl (.tmp 7) rfl rfl (t.out.s (g7, 36, (iv (fam 16 dc)).toArray) (by simp)) rfl ?_)
    | (with_reducible refine wpl_load_row (o := ⟨some 66, _, _, _, _, _⟩) structRt rfl (.tmp 10) rfl rfl (t.out.s (g10, 39, qd.c.toArray) (by simp)) (R4.size qd) ?_)
    | (with_reducible refine wpl_load_row (o := ⟨some 67, _, _, _, _, _⟩) arrB.row rfl (.tmp 4) rfl rfl (t.out.s (g4, 22, (bv y).toArray) (by simp)) (bsize (ny).out) ?_)
    | (go_at_call 22; (with_reducible refine (c13.out _).mono ?_); rintro e v ⟨rfl, kk⟩; replace t := Lib.hid (t.out.kept kk); clear kk))
  refine ⟨rfl, t.out, Txt.segs_cons ?_⟩
  go_wp2_with (first
    | (go_at_call 24; (with_reducible refine (c14.out _).mono ?_); rintro e v ⟨rfl, kk⟩; replace t := Lib.hid (t.out.kept kk); clear kk))
  refine ⟨rfl, t.out, Txt.segs_cons ?_⟩
  go_wp2_with (first
    | (with_reducible refine wpl_load_row (o := ⟨some 73, _, _, _, _, _⟩) arrB.row rfl (.tmp 3) rfl rfl (t.out.s (g3, 22, (bv x).toArray) (by simp)) (bsize (nx).out) ?_)
    | (with_reducible refine wpl_load_row (o := ⟨some 74, _, _, _, _, _⟩) structPt rfl (.tmp 8) rfl rfl (t.out.s (g8, 29, rp.c.toArray) (by simp)) (P4.size _) ?_)
    | (with_reducible refine wpl_load_row (o := ⟨some 75, _, _, _, _, _⟩) arrB.row rfl (.tmp 4) rfl rfl (t.out.s (g4, 22, (bv y).toArray) (by simp)) (bsize (ny).out) ?_)
    | (go_at_call 26; (with_reducible refine (c15.out _).mono ?_); rintro e v ⟨rfl, kk⟩; replace t := Lib.hid (t.out.kept kk); clear kk))
  refine ⟨rfl, t.out, Txt.segs_cons ?_⟩
  go_wp2_with (first
    | (go_at_call 14; (with_reducible refine (c16.out _).mono ?_); rintro e v ⟨rfl, kk⟩; replace t := Lib.hid (t.out.kept kk); clear kk))
  refine ⟨rfl, t.out, Txt.segs_cons ?_⟩
  go_wp2_with (first
    | (with_reducible refine wpl_load_row (o := ⟨some 78, _, _, _, _, _⟩) structCv rfl (.tmp 7) rfl rfl (t.out.s (g7, 36, (iv (fam 16 dc)).toArray) (by simp)) rfl ?_)
    | (with_reducible refine wpl_load_row (o := ⟨some 79, _, _, _, _, _⟩) structRt rfl (.tmp 13) rfl rfl (t.out.s (g13, 39, q4.c.toArray) (by simp)) (R4.size q4) ?_)
    | (with_reducible refine wpl_load_row (o := ⟨some 80, _, _, _, _, _⟩) structCv rfl (.tmp 7) rfl rfl (t.out.s (g7, 36, (iv (fam 16 dc)).toArray) (by simp)) rfl ?_)
    | (with_reducible refine wpl_load_row (o := ⟨some 81, _, _, _, _, _⟩) structRt rfl (.tmp 10) rfl rfl (t.out.s (g10, 39, qd.c.toArray) (by simp)) (R4.size qd) ?_)
    | (with_reducible refine wpl_load_row (o := ⟨some 82, _, _, _, _, _⟩) arrB.row rfl (.tmp 4) rfl rfl (t.out.s (g4, 22, (bv y).toArray) (by simp)) (bsize (ny).out) ?_)
    | (go_at_call 22; (with_reducible refine (c13.out _).mono ?_); rintro e v ⟨rfl, kk⟩; replace t := Lib.hid (t.out.kept kk); clear kk))
  refine ⟨rfl, t.out, Txt.segs_cons ?_⟩
  go_wp2_with (first
    | (go_at_call 25; (with_reducible refine (c17.out _).mono ?_); rintro e v ⟨rfl, kk⟩; replace t := Lib.hid (t.out.kept kk); clear kk))
  refine ⟨rfl, t.out, Txt.segs_cons ?_⟩
  go_wp2_with (first
    | (go_at_call 24; (with_reducible refine (c18.out _).mono ?_); rintro e v ⟨rfl, kk⟩; replace t := Lib.hid (t.out.kept kk); clear kk))
  refine ⟨rfl, t.out, Txt.segs_cons ?_⟩
  go_wp2_with (first
    | (with_reducible refine wpl_load_row (o := ⟨some 89, _, _, _, _, _⟩) structPt rfl (.tmp 12) rfl rfl (t.out.s (g12, 29, r3.c.toArray) (by simp)) (P4.size _) ?_)
    | (go_at_call 20; (with_reducible refine (c19.out _).mono ?_); rintro e v ⟨rfl, kk⟩; replace t := Lib.hid (t.out.kept kk); clear kk))
  refine ⟨rfl, t.out, Txt.segs_cons ?_⟩
  go_wp2_with (first
    | (go_at_call 14; (with_reducible refine (c20.out _).mono ?_); rintro e v ⟨rfl, kk⟩; replace t := Lib.hid (t.out.kept kk); clear kk))
  refine ⟨rfl, t.out, Txt.segs_cons ?_⟩
  go_wp2_with (first
    | (with_reducible refine wpl_load_row (o := ⟨some 92, _, _, _, _, _⟩) structRt rfl (.tmp 13) rfl rfl (t.out.s (g13, 39, q4.c.toArray) (by simp)) (R4.size q4) ?_)
    | (go_at_call 27; (with_reducible refine (c21.out _).mono ?_); rintro e v ⟨rfl, kk⟩; replace t := Lib.hid (t.out.kept kk); clear kk))
  refine ⟨rfl, t.out, Txt.segs_cons ?_⟩
  go_wp2_with (first
    | (go_at_call 24; (with_reducible refine (c22.out _).mono ?_); rintro e v ⟨rfl, kk⟩; replace t := Lib.hid (t.out.kept kk); clear kk))
  refine ⟨rfl, t.out, Txt.segs_cons ?_⟩
  go_wp2_with fail
  refine ⟨rfl, t.out, Txt.segs_nil ⟨⟨by kernel_rfl, ?_⟩, ?_⟩⟩
  · intro j hj o ho hw
    have hj2 : j = 0 ∨ j = 2 ∨ j = 4 ∨ j = 6 ∨ j = 7 ∨ j = 10 ∨ j = 11 ∨ j = 12 ∨ j = 15 ∨ j = 18 ∨ j = 19 ∨ j = 22 ∨ j = 23 ∨ j = 24 ∨ j = 27 ∨ j = 30 ∨ j = 31 ∨ j = 32 ∨ j = 35 ∨ j = 36 ∨ j = 37 ∨ j = 38 ∨ j = 39 ∨ j = 43 ∨ j = 46 ∨ j = 49 ∨ j = 52 := by simpa using hj
    rcases hj2 with rfl | rfl | rfl | rfl | rfl | rfl | rfl | rfl | rfl | rfl | rfl | rfl | rfl | rfl | rfl | rfl | rfl | rfl | rfl | rfl | rfl | rfl | rfl | rfl | rfl | rfl | rfl <;> cases ho
    · exact ⟨43, rfl, fun u hu => exec_load structPt (.tmp 12) rfl rfl (hu.s (g12, 29, r3.c.toArray) (by simp)) (P4.size _)⟩
    · exact ⟨45, rfl, fun u hu => exec_load structRt (.tmp 13) rfl rfl (hu.s (g13, 39, q4.c.toArray) (by simp)) (R4.size q4)⟩
    · exact ⟨47, rfl, fun u _ => exec_eqb (.tmp 44) (.tmp 46) rfl rfl rfl Q47.out nH0.out nH0.out⟩
    · exact ⟨49, rfl, fun u hu => exec_load structPt (.tmp 12) rfl rfl (hu.s (g12, 29, r3.c.toArray) (by simp)) (P4.size _)⟩
    · exact ⟨50, rfl, fun u hu => exec_load structPt (.tmp 8) rfl rfl (hu.s (g8, 29, rp.c.toArray) (by simp)) (P4.size _)⟩
    · exact ⟨53, rfl, fun u hu => exec_load structCv (.tmp 7) rfl rfl (hu.s (g7, 36, (iv (fam 16 dc)).toArray) (by simp)) rfl⟩
    · exact ⟨54, rfl, fun u hu => exec_load structRt (.tmp 13) rfl rfl (hu.s (g13, 39, q4.c.toArray) (by simp)) (R4.size q4)⟩
    · exact ⟨55, rfl, fun u hu => exec_load structRt (.tmp 10) rfl rfl (hu.s (g10, 39, qd.c.toArray) (by simp)) (R4.size qd)⟩
    · exact ⟨58, rfl, fun u _ => exec_eqb (.tmp 52) (.tmp 57) rfl rfl rfl Q58.out nH1.out nH1.out⟩
    · exact ⟨61, rfl, fun u hu => exec_load structPt (.tmp 8) rfl rfl (hu.s (g8, 29, rp.c.toArray) (by simp)) (P4.size _)⟩
    · exact ⟨62, rfl, fun u hu => exec_load arrB.row (.tmp 4) rfl rfl (hu.s (g4, 22, (bv y).toArray) (by simp)) (bsize (ny).out)⟩
    · exact ⟨65, rfl, fun u hu => exec_load structCv (.tmp 7) rfl rfl (hu.s (g7, 36, (iv (fam 16 dc)).toArray) (by simp)) rfl⟩
    · exact ⟨66, rfl, fun u hu => exec_load structRt (.tmp 10) rfl rfl (hu.s (g10, 39, qd.c.toArray) (by simp)) (R4.size qd)⟩
    · exact ⟨67, rfl, fun u hu => exec_load arrB.row (.tmp 4) rfl rfl (hu.s (g4, 22, (bv y).toArray) (by simp)) (bsize (ny).out)⟩
    · exact ⟨70, rfl, fun u _ => exec_eqb (.tmp 64) (.tmp 69) rfl rfl rfl Q70.out nH2.out nH2.out⟩
    · exact ⟨73, rfl, fun u hu => exec_load arrB.row (.tmp 3) rfl rfl (hu.s (g3, 22, (bv x).toArray) (by simp)) (bsize (nx).out)⟩
    · exact ⟨74, rfl, fun u hu => exec_load structPt (.tmp 8) rfl rfl (hu.s (g8, 29, rp.c.toArray) (by simp)) (P4.size _)⟩
    · exact ⟨75, rfl, fun u hu => exec_load arrB.row (.tmp 4) rfl rfl (hu.s (g4, 22, (bv y).toArray) (by simp)) (bsize (ny).out)⟩
    · exact ⟨78, rfl, fun u hu => exec_load structCv (.tmp 7) rfl rfl (hu.s (g7, 36, (iv (fam 16 dc)).toArray) (by simp)) rfl⟩
    · exact ⟨79, rfl, fun u hu => exec_load structRt (.tmp 13) rfl rfl (hu.s (g13, 39, q4.c.toArray) (by simp)) (R4.size q4)⟩
    · exact ⟨80, rfl, fun u hu => exec_load structCv (.tmp 7) rfl rfl (hu.s (g7, 36, (iv (fam 16 dc)).toArray) (by simp)) rfl⟩
    · exact ⟨81, rfl, fun u hu => exec_load structRt (.tmp 10) rfl rfl (hu.s (g10, 39, qd.c.toArray) (by simp)) (R4.size qd)⟩
    · exact ⟨82, rfl, fun u hu => exec_load arrB.row (.tmp 4) rfl rfl (hu.s (g4, 22, (bv y).toArray) (by simp)) (bsize (ny).out)⟩
    · exact ⟨86, rfl, fun u _ => exec_eqb (.tmp 77) (.tmp 85) rfl rfl rfl Q86.out nH3.out nH3.out⟩
    · exact ⟨89, rfl, fun u hu => exec_load structPt (.tmp 12) rfl rfl (hu.s (g12, 29, r3.c.toArray) (by simp)) (P4.size _)⟩
    · exact ⟨92, rfl, fun u hu => exec_load structRt (.tmp 13) rfl rfl (hu.s (g13, 39, q4.c.toArray) (by simp)) (R4.size q4)⟩
    · exact ⟨95, rfl, fun u _ => exec_eqb (.tmp 91) (.tmp 94) rfl rfl rfl Q95.out nH4.out nH4.out⟩
  go_wp2_with fail
  go_ret
  exact ⟨rfl, t.out.k⟩
set_option maxRecDepth 100000 in
set_option maxHeartbeats 4000000 in
theorem sums_no (x y z : List UInt8) (w : World) (nx : x.length = 32) (ny : y.length = 32) (nz : z.length = 32) (hno : ∀ P, enc P ≠ leV z) (hdec : ∀ dc, Dq 70000 dc Ed.D → RdC dc z rz false) : Calls Try.prog 8 #[ab x, ab y, ab z] w fun e w' => e = .returned (.bool true) ∧ Kept [] w w' := by
  have cf := Lib.hid first_any
  obtain ⟨dc, cnw, hD⟩ := new_r
  have crp := dec_no nz hno
  have cqd := hdec dc hD
  obtain ⟨q3, c3, h3⟩ := zero_r
  obtain ⟨b, cb, hb⟩ := base_e
  obtain ⟨r4, c4, h4⟩ := mul_s hb nx
  obtain ⟨bq, cbq, hbq⟩ := rbase_r hD
  obtain ⟨q5, c5, h5⟩ := rmult_r hD hbq nx
  obtain ⟨H0, hH0, nH0⟩ : ∃ l : List UInt8, l = le (enc (Ed.Pt.mul (leV x) BB)) 32 ∧ l.length = 32 := ⟨_, rfl, le_len _ _⟩
  have c6 : HsC r4 H0 := hash_l hH0 h4 rfl
  have c7 : BytC q5 H0 := rb_l hH0 h5 rfl
  obtain ⟨r8, c8, h8⟩ := add_e h4 rq_z
  obtain ⟨H1, hH1, nH1⟩ : ∃ l : List UInt8, l = le (enc ((Ed.Pt.mul (leV x) BB) + (Ed.Pt.zero))) 32 ∧ l.length = 32 := ⟨_, rfl, le_len _ _⟩
  have c9 : HsC r8 H1 := hash_l hH1 h8 rfl
  obtain ⟨q10, c10, h10⟩ := radd_r hD h5 h3
  have c11 : BytC q10 H1 := rb_l hH1 h10 rfl
  obtain ⟨r12, c12, h12⟩ := mul_s rq_z ny
  obtain ⟨H2, hH2, nH2⟩ : ∃ l : List UInt8, l = le (enc (Ed.Pt.mul (leV y) (Ed.Pt.zero))) 32 ∧ l.length = 32 := ⟨_, rfl, le_len _ _⟩
  have c13 : HsC r12 H2 := hash_l hH2 h12 rfl
  obtain ⟨q14, c14, h14⟩ := rmult_r hD h3 ny
  have c15 : BytC q14 H2 := rb_l hH2 h14 rfl
  obtain ⟨r16, c16, h16⟩ := both_s rq_z nx ny
  obtain ⟨H3, hH3, nH3⟩ : ∃ l : List UInt8, l = le (enc ((Ed.Pt.mul (leV x) BB) + (Ed.Pt.mul (leV y) (Ed.Pt.zero)))) 32 ∧ l.length = 32 := ⟨_, rfl, le_len _ _⟩
  have c17 : HsC r16 H3 := hash_l hH3 h16 rfl
  obtain ⟨q18, c18, h18⟩ := radd_r hD h5 h14
  have c19 : BytC q18 H3 := rb_l hH3 h18 rfl
  obtain ⟨r20, c20, h20⟩ := neg_e h4
  obtain ⟨H4, hH4, nH4⟩ : ∃ l : List UInt8, l = le (enc (Ed.Pt.neg (Ed.Pt.mul (leV x) BB))) 32 ∧ l.length = 32 := ⟨_, rfl, le_len _ _⟩
  have c21 : HsC r20 H4 := hash_l hH4 h20 rfl
  obtain ⟨q22, c22, h22⟩ := rneg_r h5
  have c23 : BytC q22 H4 := rb_l hH4 h22 rfl
  have Q47 : (H0 == H0) = true := beq_self_eq_true _
  have q47 := eql_run Q47 nH0 nH0
  have Q58 : (H1 == H1) = true := beq_self_eq_true _
  have q58 := eql_run Q58 nH1 nH1
  have Q70 : (H2 == H2) = true := beq_self_eq_true _
  have q70 := eql_run Q70 nH2 nH2
  have Q86 : (H3 == H3) = true := beq_self_eq_true _
  have q86 := eql_run Q86 nH3 nH3
  have Q95 : (H4 == H4) = true := beq_self_eq_true _
  have q95 := eql_run Q95 nH4 nH4
  replace Q47 := Lib.hid Q47
  replace Q58 := Lib.hid Q58
  replace Q70 := Lib.hid Q70
  replace Q86 := Lib.hid Q86
  replace Q95 := Lib.hid Q95
  replace c10 := Lib.hid c10
  replace c11 := Lib.hid c11
  replace c12 := Lib.hid c12
  replace c13 := Lib.hid c13
  replace c14 := Lib.hid c14
  replace c15 := Lib.hid c15
  replace c16 := Lib.hid c16
  replace c17 := Lib.hid c17
  replace c18 := Lib.hid c18
  replace c19 := Lib.hid c19
  replace c20 := Lib.hid c20
  replace c21 := Lib.hid c21
  replace c22 := Lib.hid c22
  replace c23 := Lib.hid c23
  replace c3 := Lib.hid c3
  replace c4 := Lib.hid c4
  replace c5 := Lib.hid c5
  replace c6 := Lib.hid c6
  replace c7 := Lib.hid c7
  replace c8 := Lib.hid c8
  replace c9 := Lib.hid c9
  replace cb := Lib.hid cb
  replace cbq := Lib.hid cbq
  replace cnw := Lib.hid cnw
  replace cqd := Lib.hid cqd
  replace crp := Lib.hid crp
  replace nx := Lib.hid nx
  replace ny := Lib.hid ny
  replace nz := Lib.hid nz
  replace nH0 := Lib.hid nH0
  replace nH1 := Lib.hid nH1
  replace nH2 := Lib.hid nH2
  replace nH3 := Lib.hid nH3
  replace nH4 := Lib.hid nH4
  clear hH0 hH1 hH2 hH3 hH4 hD h3 hb h4 hbq h5 h8 h10 h12 h14 h16 h18 h20 h22 hno hdec
  go_enter Try.func8, Try.ntmps8
  have t := Lib.hid (Pm.none w)
  go_wp2_with (first
    | ((with_reducible refine wpl_box (o := ⟨some 3, _, _, _, _, _⟩) (v := ab x) rfl (.tmp 0) rfl rfl ?_); intro g3 w3 m3; replace t := Lib.hid ((t.out.kept m3.kept).cons (show Blk w3 g3 22 (bv x).toArray from m3.blk)); clear m3)
    | ((with_reducible refine wpl_box (o := ⟨some 4, _, _, _, _, _⟩) (v := ab y) rfl (.tmp 1) rfl rfl ?_); intro g4 w4 m4; replace t := Lib.hid ((t.out.kept m4.kept).cons (show Blk w4 g4 22 (bv y).toArray from m4.blk)); clear m4)
    | ((with_reducible refine wpl_box (o := ⟨some 5, _, _, _, _, _⟩) (v := ab z) rfl (.tmp 2) rfl rfl ?_); intro g5 w5 m5; replace t := Lib.hid ((t.out.kept m5.kept).cons (show Blk w5 g5 22 (bv z).toArray from m5.blk)); clear m5)
    | (go_at_call 10; (with_reducible refine (cf.out _).mono ?_); rintro e v ⟨rfl, kk⟩; replace t := Lib.hid (t.out.kept kk); clear kk)
    | (go_at_call 12; (with_reducible refine (cnw.out _).mono ?_); rintro e v ⟨rfl, kk⟩; replace t := Lib.hid (t.out.kept kk); clear kk)
    | ((with_reducible refine wpl_new (o := ⟨some 7, _, _, _, _, _⟩) rfl rfl zeroCv ?_); intro g7 w7 m7)
    | ((refine wpl_store_row (o := ⟨none, .store 36 (.tmp 7) (.tmp 16), _, _, _, _⟩) structCv rfl (.tmp 7) (.tmp 16) rfl rfl rfl m7.blk rfl rfl (one_nu _) ?_); intro v7 b7 k7; replace t := Lib.hid (t.out.put m7 b7 k7); clear m7 b7 k7)
    | (with_reducible refine wpl_load_row (o := ⟨some 18, _, _, _, _, _⟩) arrB.row rfl (.tmp 5) rfl rfl (t.out.s (g5, 22, (bv z).toArray) (by simp)) (bsize (nz).out) ?_)
    | (go_at_call 11; (with_reducible refine (crp.out _).mono ?_); rintro e v ⟨rfl, kk⟩; replace t := Lib.hid (t.out.kept kk); clear kk)
    | ((with_reducible refine wpl_new (o := ⟨some 8, _, _, _, _, _⟩) rfl rfl zeroP4 ?_); intro g8 w8 m8)
    | ((refine wpl_store_row (o := ⟨none, .store 29 (.tmp 8) (.tmp 20), _, _, _, _⟩) structPt rfl (.tmp 8) (.tmp 20) rfl rfl rfl m8.blk pz.size (P4.size _) (P4.one _) ?_); intro v8 b8 k8; replace t := Lib.hid (t.out.put m8 b8 k8); clear m8 b8 k8)
    | (with_reducible refine wpl_load_row (o := ⟨some 23, _, _, _, _, _⟩) structCv rfl (.tmp 7) rfl rfl (t.out.s (g7, 36, (iv (fam 16 dc)).toArray) (by simp)) rfl ?_)
    | (with_reducible refine wpl_load_row (o := ⟨some 24, _, _, _, _, _⟩) arrB.row rfl (.tmp 5) rfl rfl (t.out.s (g5, 22, (bv z).toArray) (by simp)) (bsize (nz).out) ?_)
    | (go_at_call 13; (with_reducible refine (cqd.out _).mono ?_); rintro e v ⟨rfl, kk⟩; replace t := Lib.hid (t.out.kept kk); clear kk)
    | ((with_reducible refine wpl_new (o := ⟨some 10, _, _, _, _, _⟩) rfl rfl zeroRt ?_); intro g10 w10 m10; have N10 := Lib.hid (fun p hp => m10.ne (t.out.s p hp).lt); have L10 := Lib.hid (Nat.le_trans t.out.k.size m10.le))
    | ((refine wpl_store_row (o := ⟨none, .store 39 (.tmp 10) (.tmp 26), _, _, _, _⟩) structRt rfl (.tmp 10) (.tmp 26) rfl rfl rfl m10.blk (R4.size rz) (R4.size rz) (R4.one rz) ?_); intro v10 b10 k10; replace t := Lib.hid (t.out.put m10 b10 k10); clear m10 b10 k10)
    | (go_at_call 21; (with_reducible refine (c3.out _).mono ?_); rintro e v ⟨rfl, kk⟩; replace t := Lib.hid (t.out.kept kk); clear kk)
    | ((refine wpl_store_row (o := ⟨none, .store 39 (.tmp 10) (.tmp 34), _, _, _, _⟩) structRt rfl (.tmp 10) (.tmp 34) rfl rfl rfl (t.out.s (g10, 39, rz.c.toArray) (by simp)) (R4.size rz) (R4.size q3) (R4.one q3) ?_); intro v10 b10 k10; replace t := Lib.hid (t.out.again L10.out N10.out b10 k10); clear b10 k10))
  refine wp_multi (by kernel_rfl) [.val (b.v), .val (ab x), .val (r4.v), .new 29 (pz.v), .put 3 2 r4.c.toArray]
    (Pm w [(g10, 39, q3.c.toArray), (g8, 29, pz.c.toArray), (g7, 36, (iv (fam 16 dc)).toArray), (g5, 22, (bv z).toArray), (g4, 22, (bv y).toArray), (g3, 22, (bv x).toArray)]) (by kernel_rfl) (by kernel_rfl) t.out.drew (fun u u' T hS hk hT => t.out.fresh u u' T hS hk hT) ?_ ?_
  · refine ⟨?_, ?_, ?_, ⟨⟨_, rfl⟩, rfl, zeroP4⟩, ?_, trivial⟩
    · refine ⟨⟨_, rfl⟩, fun a' u K0 R hS hr ho h => wp_callf rfl enters_base (vs := #[]) ?_ (cb.out u) h⟩
      simp
    · exact ⟨⟨_, rfl⟩, fun a' u K0 R hS hr ho h => wp_loadr arrB.row (.tmp 3) rfl ((ho 3 (by decide)).trans rfl) (hS.s (g3, 22, (bv x).toArray) (by simp)) (bsize (nx).out) (h u (Kept.refl _ _))⟩
    · refine ⟨⟨_, rfl⟩, fun a' u K0 R hS hr ho h => wp_callf rfl enters_pmul (vs := #[b.v, ab x]) ?_ (c4.out u) h⟩
      have x0 := hr 0 (b.v) 35 _ rfl rfl rfl ⟨⟨0, .data⟩, by simp, rfl, rfl⟩
      have x1 := hr 1 (ab x) 36 _ rfl rfl rfl ⟨⟨1, .data⟩, by simp, rfl, rfl⟩
      simp [Act.eval] at x0 x1 ⊢
      exact ⟨x0, x1⟩
    · exact ⟨rfl, ⟨⟨3, .data⟩, by simp, rfl, rfl⟩, ⟨⟨2, .data⟩, by simp, rfl, rfl⟩, _, _, _, _, _, _, _, _, rfl, rfl, rfl, rfl, rfl, rfl, rfl, structPt, pz.size, P4.size _, P4.one _⟩
  intro γ wm hS hγ hne hput
  have b12 := hput 4 3 2 _ _ _ rfl rfl
  generalize e12 : γ 3 = g12 at *
  simp [actOf, VK, List.range, List.range.loop, Act.put, e12]
  replace t := Lib.hid (show Pm w [(g12, 29, r4.c.toArray), (g10, 39, q3.c.toArray), (g8, 29, pz.c.toArray), (g7, 36, (iv (fam 16 dc)).toArray), (g5, 22, (bv z).toArray), (g4, 22, (bv y).toArray), (g3, 22, (bv x).toArray)] wm from (hS).cons b12)
  clear b12 hput hne hγ hS e12
  go_wp2_with fail
  refine wp_multi (by kernel_rfl) [.val (nu dc), .val (nu dc), .val (bq.v), .val (ab x), .val (q5.v), .new 39 (rz.v), .put 5 4 q5.c.toArray]
    (Pm w [(g12, 29, r4.c.toArray), (g10, 39, q3.c.toArray), (g8, 29, pz.c.toArray), (g7, 36, (iv (fam 16 dc)).toArray), (g5, 22, (bv z).toArray), (g4, 22, (bv y).toArray), (g3, 22, (bv x).toArray)]) (by kernel_rfl) (by kernel_rfl) t.out.drew (fun u u' T hS hk hT => t.out.fresh u u' T hS hk hT) ?_ ?_
  · refine ⟨?_, ?_, ?_, ?_, ?_, ⟨⟨_, rfl⟩, rfl, zeroRt⟩, ?_, trivial⟩
    · exact ⟨⟨_, rfl⟩, fun a' u K0 R hS hr ho h => wp_loadr structCv (.tmp 7) rfl ((ho 7 (by decide)).trans rfl) (hS.s (g7, 36, (iv (fam 16 dc)).toArray) (by simp)) rfl (h u (Kept.refl _ _))⟩
    · exact ⟨⟨_, rfl⟩, fun a' u K0 R hS hr ho h => wp_loadr structCv (.tmp 7) rfl ((ho 7 (by decide)).trans rfl) (hS.s (g7, 36, (iv (fam 16 dc)).toArray) (by simp)) rfl (h u (Kept.refl _ _))⟩
    · refine ⟨⟨_, rfl⟩, fun a' u K0 R hS hr ho h => wp_callf rfl enters_qbase (vs := #[nu dc]) ?_ (cbq.out u) h⟩
      have x0 := hr 1 (nu dc) 39 _ rfl rfl rfl ⟨⟨1, .data⟩, by simp, rfl, rfl⟩
      simp [Act.eval] at x0 ⊢
      exact x0
    · exact ⟨⟨_, rfl⟩, fun a' u K0 R hS hr ho h => wp_loadr arrB.row (.tmp 3) rfl ((ho 3 (by decide)).trans rfl) (hS.s (g3, 22, (bv x).toArray) (by simp)) (bsize (nx).out) (h u (Kept.refl _ _))⟩
    · refine ⟨⟨_, rfl⟩, fun a' u K0 R hS hr ho h => wp_callf rfl enters_qmul (vs := #[nu dc, bq.v, ab x]) ?_ (c5.out u) h⟩
      have x0 := hr 0 (nu dc) 38 _ rfl rfl rfl ⟨⟨0, .data⟩, by simp, rfl, rfl⟩
      have x1 := hr 2 (bq.v) 40 _ rfl rfl rfl ⟨⟨2, .data⟩, by simp, rfl, rfl⟩
      have x2 := hr 3 (ab x) 41 _ rfl rfl rfl ⟨⟨3, .data⟩, by simp, rfl, rfl⟩
      simp [Act.eval] at x0 x1 x2 ⊢
      exact ⟨x0, x1, x2⟩
    · exact ⟨rfl, ⟨⟨5, .data⟩, by simp, rfl, rfl⟩, ⟨⟨4, .data⟩, by simp, rfl, rfl⟩, _, _, _, _, _, _, _, _, rfl, rfl, rfl, rfl, rfl, rfl, rfl, structRt, R4.size rz, R4.size q5, R4.one q5⟩
  intro γ wm hS hγ hne hput
  have b13 := hput 6 5 4 _ _ _ rfl rfl
  generalize e13 : γ 5 = g13 at *
  simp [actOf, VK, List.range, List.range.loop, Act.put, e13]
  replace t := Lib.hid (show Pm w [(g13, 39, q5.c.toArray), (g12, 29, r4.c.toArray), (g10, 39, q3.c.toArray), (g8, 29, pz.c.toArray), (g7, 36, (iv (fam 16 dc)).toArray), (g5, 22, (bv z).toArray), (g4, 22, (bv y).toArray), (g3, 22, (bv x).toArray)] wm from (hS).cons b13)
  clear b13 hput hne hγ hS e13
  go_wp2_with fail
  refine Txt.wp_textG [0, 2, 4, 6, 7, 10, 11, 12, 15, 18, 19, 22, 23, 24, 27, 30, 31, 32, 35, 36, 37, 38, 39, 43, 46, 49, 52] (Pm w [(g13, 39, q5.c.toArray), (g12, 29, r4.c.toArray), (g10, 39, q3.c.toArray), (g8, 29, pz.c.toArray), (g7, 36, (iv (fam 16 dc)).toArray), (g5, 22, (bv z).toArray), (g4, 22, (bv y).toArray), (g3, 22, (bv x).toArray)]) [[_, _], [_, _], [_, _, _, _, _], [_], [_, _, _, _], [_], [_, _, _, _, _, _], [_], [_, _, _, _], [_], [_, _, _, _, _, _, _], [_], [_, _, _, _, _, _], [_], [_], [_, _, _, _, _], [_], [_, _], [_], [_, _, _]] (by kernel_rfl) (by kernel_rfl) rfl t.out.drew (Txt.segs_cons ?_)
  replace t := Lib.hid t.out.drew
  go_wp2_with (first
    | (with_reducible refine wpl_load_row (o := ⟨some 43, _, _, _, _, _⟩) structPt rfl (.tmp 12) rfl rfl (t.out.s (g12, 29, r4.c.toArray) (by simp)) (P4.size _) ?_)
    | (go_at_call 14; (with_reducible refine (c6.out _).mono ?_); rintro e v ⟨rfl, kk⟩; replace t := Lib.hid (t.out.kept kk); clear kk))
  refine ⟨rfl, t.out, Txt.segs_cons ?_⟩
  go_wp2_with (first
    | (with_reducible refine wpl_load_row (o := ⟨some 45, _, _, _, _, _⟩) structRt rfl (.tmp 13) rfl rfl (t.out.s (g13, 39, q5.c.toArray) (by simp)) (R4.size q5) ?_)
    | (go_at_call 24; (with_reducible refine (c7.out _).mono ?_); rintro e v ⟨rfl, kk⟩; replace t := Lib.hid (t.out.kept kk); clear kk))
  refine ⟨rfl, t.out, Txt.segs_cons ?_⟩
  go_wp2_with (first
    | (with_reducible refine wpl_load_row (o := ⟨some 49, _, _, _, _, _⟩) structPt rfl (.tmp 12) rfl rfl (t.out.s (g12, 29, r4.c.toArray) (by simp)) (P4.size _) ?_)
    | (with_reducible refine wpl_load_row (o := ⟨some 50, _, _, _, _, _⟩) structPt rfl (.tmp 8) rfl rfl (t.out.s (g8, 29, pz.c.toArray) (by simp)) (P4.size _) ?_)
    | (go_at_call 19; (with_reducible refine (c8.out _).mono ?_); rintro e v ⟨rfl, kk⟩; replace t := Lib.hid (t.out.kept kk); clear kk))
  refine ⟨rfl, t.out, Txt.segs_cons ?_⟩
  go_wp2_with (first
    | (go_at_call 14; (with_reducible refine (c9.out _).mono ?_); rintro e v ⟨rfl, kk⟩; replace t := Lib.hid (t.out.kept kk); clear kk))
  refine ⟨rfl, t.out, Txt.segs_cons ?_⟩
  go_wp2_with (first
    | (with_reducible refine wpl_load_row (o := ⟨some 53, _, _, _, _, _⟩) structCv rfl (.tmp 7) rfl rfl (t.out.s (g7, 36, (iv (fam 16 dc)).toArray) (by simp)) rfl ?_)
    | (with_reducible refine wpl_load_row (o := ⟨some 54, _, _, _, _, _⟩) structRt rfl (.tmp 13) rfl rfl (t.out.s (g13, 39, q5.c.toArray) (by simp)) (R4.size q5) ?_)
    | (with_reducible refine wpl_load_row (o := ⟨some 55, _, _, _, _, _⟩) structRt rfl (.tmp 10) rfl rfl (t.out.s (g10, 39, q3.c.toArray) (by simp)) (R4.size q3) ?_)
    | (go_at_call 25; (with_reducible refine (c10.out _).mono ?_); rintro e v ⟨rfl, kk⟩; replace t := Lib.hid (t.out.kept kk); clear kk))
  refine ⟨rfl, t.out, Txt.segs_cons ?_⟩
  go_wp2_with (first
    | (go_at_call 24; (with_reducible refine (c11.out _).mono ?_); rintro e v ⟨rfl, kk⟩; replace t := Lib.hid (t.out.kept kk); clear kk))
  refine ⟨rfl, t.out, Txt.segs_cons ?_⟩
  go_wp2_with (first
    | (with_reducible refine wpl_load_row (o := ⟨some 61, _, _, _, _, _⟩) structPt rfl (.tmp 8) rfl rfl (t.out.s (g8, 29, pz.c.toArray) (by simp)) (P4.size _) ?_)
    | (with_reducible refine wpl_load_row (o := ⟨some 62, _, _, _, _, _⟩) arrB.row rfl (.tmp 4) rfl rfl (t.out.s (g4, 22, (bv y).toArray) (by simp)) (bsize (ny).out) ?_)
    | (go_at_call 18; (with_reducible refine (c12.out _).mono ?_); rintro e v ⟨rfl, kk⟩; replace t := Lib.hid (t.out.kept kk); clear kk))
  refine ⟨rfl, t.out, Txt.segs_cons ?_⟩
  go_wp2_with (first
    | (go_at_call 14; (with_reducible refine (c13.out _).mono ?_); rintro e v ⟨rfl, kk⟩; replace t := Lib.hid (t.out.kept kk); clear kk))
  refine ⟨rfl, t.out, Txt.segs_cons ?_⟩
  go_wp2_with (first
    | (with_reducible refine wpl_load_row (o := ⟨some 65, _, _, _, _, _⟩) structCv rfl (.tmp 7) rfl rfl (t.out.s (g7, 36, (iv (fam 16 dc)).toArray) (by simp)) rfl ?_)
    | (with_reducible refine wpl_load_row (o := ⟨some 66, _, _, _, _, _⟩) structRt rfl (.tmp 10) rfl rfl (t.out.s (g10, 39, q3.c.toArray) (by simp)) (R4.size q3) ?_)
    | (with_reducible refine wpl_load_row (o := ⟨some 67, _, _, _, _, _⟩) arrB.row rfl (.tmp 4) rfl rfl (t.out.s (g4, 22, (bv y).toArray) (by simp)) (bsize (ny).out) ?_)
    | (go_at_call 22; (with_reducible refine (c14.out _).mono ?_); rintro e v ⟨rfl, kk⟩; replace t := Lib.hid (t.out.kept kk); clear kk))
  refine ⟨rfl, t.out, Txt.segs_cons ?_⟩
  go_wp2_with (first
    | (go_at_call 24; (with_reducible refine (c15.out _).mono ?_); rintro e v ⟨rfl, kk⟩; replace t := Lib.hid (t.out.kept kk); clear kk))
  refine ⟨rfl, t.out, Txt.segs_cons ?_⟩
  go_wp2_with (first
    | (with_reducible refine wpl_load_row (o := ⟨some 73, _, _, _, _, _⟩) arrB.row rfl (.tmp 3) rfl rfl (t.out.s (g3, 22, (bv x).toArray) (by simp)) (bsize (nx).out) ?_)
    | (with_reducible refine wpl_load_row (o := ⟨some 74, _, _, _, _, _⟩) structPt rfl (.tmp 8) rfl rfl (t.out.s (g8, 29, pz.c.toArray) (by simp)) (P4.size _) ?_)
    | (with_reducible refine wpl_load_row (o := ⟨some 75, _, _, _, _, _⟩) arrB.row rfl (.tmp 4) rfl rfl (t.out.s (g4, 22, (bv y).toArray) (by simp)) (bsize (ny).out) ?_)
    | (go_at_call 26; (with_reducible refine (c16.out _).mono ?_); rintro e v ⟨rfl, kk⟩; replace t := Lib.hid (t.out.kept kk); clear kk))
  refine ⟨rfl, t.out, Txt.segs_cons ?_⟩
  go_wp2_with (first
    | (go_at_call 14; (with_reducible refine (c17.out _).mono ?_); rintro e v ⟨rfl, kk⟩; replace t := Lib.hid (t.out.kept kk); clear kk))
  refine ⟨rfl, t.out, Txt.segs_cons ?_⟩
  go_wp2_with (first
    | (with_reducible refine wpl_load_row (o := ⟨some 78, _, _, _, _, _⟩) structCv rfl (.tmp 7) rfl rfl (t.out.s (g7, 36, (iv (fam 16 dc)).toArray) (by simp)) rfl ?_)
    | (with_reducible refine wpl_load_row (o := ⟨some 79, _, _, _, _, _⟩) structRt rfl (.tmp 13) rfl rfl (t.out.s (g13, 39, q5.c.toArray) (by simp)) (R4.size q5) ?_)
    | (with_reducible refine wpl_load_row (o := ⟨some 80, _, _, _, _, _⟩) structCv rfl (.tmp 7) rfl rfl (t.out.s (g7, 36, (iv (fam 16 dc)).toArray) (by simp)) rfl ?_)
    | (with_reducible refine wpl_load_row (o := ⟨some 81, _, _, _, _, _⟩) structRt rfl (.tmp 10) rfl rfl (t.out.s (g10, 39, q3.c.toArray) (by simp)) (R4.size q3) ?_)
    | (with_reducible refine wpl_load_row (o := ⟨some 82, _, _, _, _, _⟩) arrB.row rfl (.tmp 4) rfl rfl (t.out.s (g4, 22, (bv y).toArray) (by simp)) (bsize (ny).out) ?_)
    | (go_at_call 22; (with_reducible refine (c14.out _).mono ?_); rintro e v ⟨rfl, kk⟩; replace t := Lib.hid (t.out.kept kk); clear kk))
  refine ⟨rfl, t.out, Txt.segs_cons ?_⟩
  go_wp2_with (first
    | (go_at_call 25; (with_reducible refine (c18.out _).mono ?_); rintro e v ⟨rfl, kk⟩; replace t := Lib.hid (t.out.kept kk); clear kk))
  refine ⟨rfl, t.out, Txt.segs_cons ?_⟩
  go_wp2_with (first
    | (go_at_call 24; (with_reducible refine (c19.out _).mono ?_); rintro e v ⟨rfl, kk⟩; replace t := Lib.hid (t.out.kept kk); clear kk))
  refine ⟨rfl, t.out, Txt.segs_cons ?_⟩
  go_wp2_with (first
    | (with_reducible refine wpl_load_row (o := ⟨some 89, _, _, _, _, _⟩) structPt rfl (.tmp 12) rfl rfl (t.out.s (g12, 29, r4.c.toArray) (by simp)) (P4.size _) ?_)
    | (go_at_call 20; (with_reducible refine (c20.out _).mono ?_); rintro e v ⟨rfl, kk⟩; replace t := Lib.hid (t.out.kept kk); clear kk))
  refine ⟨rfl, t.out, Txt.segs_cons ?_⟩
  go_wp2_with (first
    | (go_at_call 14; (with_reducible refine (c21.out _).mono ?_); rintro e v ⟨rfl, kk⟩; replace t := Lib.hid (t.out.kept kk); clear kk))
  refine ⟨rfl, t.out, Txt.segs_cons ?_⟩
  go_wp2_with (first
    | (with_reducible refine wpl_load_row (o := ⟨some 92, _, _, _, _, _⟩) structRt rfl (.tmp 13) rfl rfl (t.out.s (g13, 39, q5.c.toArray) (by simp)) (R4.size q5) ?_)
    | (go_at_call 27; (with_reducible refine (c22.out _).mono ?_); rintro e v ⟨rfl, kk⟩; replace t := Lib.hid (t.out.kept kk); clear kk))
  refine ⟨rfl, t.out, Txt.segs_cons ?_⟩
  go_wp2_with (first
    | (go_at_call 24; (with_reducible refine (c23.out _).mono ?_); rintro e v ⟨rfl, kk⟩; replace t := Lib.hid (t.out.kept kk); clear kk))
  refine ⟨rfl, t.out, Txt.segs_cons ?_⟩
  go_wp2_with fail
  refine ⟨rfl, t.out, Txt.segs_nil ⟨⟨by kernel_rfl, ?_⟩, ?_⟩⟩
  · intro j hj o ho hw
    have hj2 : j = 0 ∨ j = 2 ∨ j = 4 ∨ j = 6 ∨ j = 7 ∨ j = 10 ∨ j = 11 ∨ j = 12 ∨ j = 15 ∨ j = 18 ∨ j = 19 ∨ j = 22 ∨ j = 23 ∨ j = 24 ∨ j = 27 ∨ j = 30 ∨ j = 31 ∨ j = 32 ∨ j = 35 ∨ j = 36 ∨ j = 37 ∨ j = 38 ∨ j = 39 ∨ j = 43 ∨ j = 46 ∨ j = 49 ∨ j = 52 := by simpa using hj
    rcases hj2 with rfl | rfl | rfl | rfl | rfl | rfl | rfl | rfl | rfl | rfl | rfl | rfl | rfl | rfl | rfl | rfl | rfl | rfl | rfl | rfl | rfl | rfl | rfl | rfl | rfl | rfl | rfl <;> cases ho
    · exact ⟨43, rfl, fun u hu => exec_load structPt (.tmp 12) rfl rfl (hu.s (g12, 29, r4.c.toArray) (by simp)) (P4.size _)⟩
    · exact ⟨45, rfl, fun u hu => exec_load structRt (.tmp 13) rfl rfl (hu.s (g13, 39, q5.c.toArray) (by simp)) (R4.size q5)⟩
    · exact ⟨47, rfl, fun u _ => exec_eqb (.tmp 44) (.tmp 46) rfl rfl rfl Q47.out nH0.out nH0.out⟩
    · exact ⟨49, rfl, fun u hu => exec_load structPt (.tmp 12) rfl rfl (hu.s (g12, 29, r4.c.toArray) (by simp)) (P4.size _)⟩
    · exact ⟨50, rfl, fun u hu => exec_load structPt (.tmp 8) rfl rfl (hu.s (g8, 29, pz.c.toArray) (by simp)) (P4.size _)⟩
    · exact ⟨53, rfl, fun u hu => exec_load structCv (.tmp 7) rfl rfl (hu.s (g7, 36, (iv (fam 16 dc)).toArray) (by simp)) rfl⟩
    · exact ⟨54, rfl, fun u hu => exec_load structRt (.tmp 13) rfl rfl (hu.s (g13, 39, q5.c.toArray) (by simp)) (R4.size q5)⟩
    · exact ⟨55, rfl, fun u hu => exec_load structRt (.tmp 10) rfl rfl (hu.s (g10, 39, q3.c.toArray) (by simp)) (R4.size q3)⟩
    · exact ⟨58, rfl, fun u _ => exec_eqb (.tmp 52) (.tmp 57) rfl rfl rfl Q58.out nH1.out nH1.out⟩
    · exact ⟨61, rfl, fun u hu => exec_load structPt (.tmp 8) rfl rfl (hu.s (g8, 29, pz.c.toArray) (by simp)) (P4.size _)⟩
    · exact ⟨62, rfl, fun u hu => exec_load arrB.row (.tmp 4) rfl rfl (hu.s (g4, 22, (bv y).toArray) (by simp)) (bsize (ny).out)⟩
    · exact ⟨65, rfl, fun u hu => exec_load structCv (.tmp 7) rfl rfl (hu.s (g7, 36, (iv (fam 16 dc)).toArray) (by simp)) rfl⟩
    · exact ⟨66, rfl, fun u hu => exec_load structRt (.tmp 10) rfl rfl (hu.s (g10, 39, q3.c.toArray) (by simp)) (R4.size q3)⟩
    · exact ⟨67, rfl, fun u hu => exec_load arrB.row (.tmp 4) rfl rfl (hu.s (g4, 22, (bv y).toArray) (by simp)) (bsize (ny).out)⟩
    · exact ⟨70, rfl, fun u _ => exec_eqb (.tmp 64) (.tmp 69) rfl rfl rfl Q70.out nH2.out nH2.out⟩
    · exact ⟨73, rfl, fun u hu => exec_load arrB.row (.tmp 3) rfl rfl (hu.s (g3, 22, (bv x).toArray) (by simp)) (bsize (nx).out)⟩
    · exact ⟨74, rfl, fun u hu => exec_load structPt (.tmp 8) rfl rfl (hu.s (g8, 29, pz.c.toArray) (by simp)) (P4.size _)⟩
    · exact ⟨75, rfl, fun u hu => exec_load arrB.row (.tmp 4) rfl rfl (hu.s (g4, 22, (bv y).toArray) (by simp)) (bsize (ny).out)⟩
    · exact ⟨78, rfl, fun u hu => exec_load structCv (.tmp 7) rfl rfl (hu.s (g7, 36, (iv (fam 16 dc)).toArray) (by simp)) rfl⟩
    · exact ⟨79, rfl, fun u hu => exec_load structRt (.tmp 13) rfl rfl (hu.s (g13, 39, q5.c.toArray) (by simp)) (R4.size q5)⟩
    · exact ⟨80, rfl, fun u hu => exec_load structCv (.tmp 7) rfl rfl (hu.s (g7, 36, (iv (fam 16 dc)).toArray) (by simp)) rfl⟩
    · exact ⟨81, rfl, fun u hu => exec_load structRt (.tmp 10) rfl rfl (hu.s (g10, 39, q3.c.toArray) (by simp)) (R4.size q3)⟩
    · exact ⟨82, rfl, fun u hu => exec_load arrB.row (.tmp 4) rfl rfl (hu.s (g4, 22, (bv y).toArray) (by simp)) (bsize (ny).out)⟩
    · exact ⟨86, rfl, fun u _ => exec_eqb (.tmp 77) (.tmp 85) rfl rfl rfl Q86.out nH3.out nH3.out⟩
    · exact ⟨89, rfl, fun u hu => exec_load structPt (.tmp 12) rfl rfl (hu.s (g12, 29, r4.c.toArray) (by simp)) (P4.size _)⟩
    · exact ⟨92, rfl, fun u hu => exec_load structRt (.tmp 13) rfl rfl (hu.s (g13, 39, q5.c.toArray) (by simp)) (R4.size q5)⟩
    · exact ⟨95, rfl, fun u _ => exec_eqb (.tmp 91) (.tmp 94) rfl rfl rfl Q95.out nH4.out nH4.out⟩
  go_wp2_with fail
  go_ret
  exact ⟨rfl, t.out.k⟩
theorem sums_walk (x y z : List UInt8) (w : World) (nx : x.length = 32) (ny : y.length = 32) (nz : z.length = 32) : Calls Try.prog 8 #[ab x, ab y, ab z] w fun e w' => e = .returned (.bool true) ∧ Kept [] w w' := by
  have hle := le_of nz
  by_cases hP : ∃ P, enc P = leV z
  · obtain ⟨P, hP⟩ := hP
    refine sums_ok x y z w nx ny nz (P := P) (by rw [hP, hle]) fun dc hdc => ?_
    rcases rdec_r hdc (leV_T nz) with ⟨Q, r, e, c, hr⟩ | ⟨_, hn⟩
    · rw [hle] at c
      rw [enc_inj (e.trans hP.symm)] at hr
      exact ⟨r, c, hr⟩
    · exact absurd hP (hn P)
  · have hno : ∀ P, enc P ≠ leV z := fun P e => hP ⟨P, e⟩
    refine sums_no x y z w nx ny nz hno fun dc hdc => ?_
    rcases rdec_r hdc (leV_T nz) with ⟨Q, r, e, c, hr⟩ | ⟨c, _⟩
    · exact absurd e (hno Q)
    · rwa [hle] at c
end Go.Proofs.Ytkflljjcgihaoaa
