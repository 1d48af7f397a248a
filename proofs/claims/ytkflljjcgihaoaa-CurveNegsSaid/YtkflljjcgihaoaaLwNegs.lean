/-
  The curve's laws: negatives (CurveNegs).
-/
import Derived.Test.YtkflljjcgihaoaaLw1
namespace Go.Proofs.Ytkflljjcgihaoaa
open Go.RowKit Go.Mem Go.Txt

/-- A block's last byte: what it is, what the block is once it has been masked. -/
abbrev GetC (H : List UInt8) (c : Nat) : Prop := ∀ (u : World) (g : Nat) (bt : TypeId), Blk u g bt (bv H).toArray → u.cell? ⟨g, 31, none⟩ = some (.int .u8 (c : Int))
abbrev SetC (H M : List UInt8) (d : Nat) : Prop := ∀ (u : World) (g : Nat) (bt : TypeId), Blk u g bt (bv H).toArray → Blk (u.setCell ⟨g, 31, none⟩ (.int .u8 (d : Int))) g bt (bv M).toArray
theorem mask_e (X Y : Nat) (h : X % T255 = Y) : GetC (le X 32) (c31 X) ∧ SetC (le X 32) (le Y 32) (c31 Y) ∧ bits .and .u8 ((c31 X : Nat) : Int) 127 = ((c31 Y : Nat) : Int) := by
  subst h
  have e := c31_T255 X
  exact ⟨fun u g bt h => Blk.get31 h, fun u g bt h => Blk.set31 h e.2, by rw [e.1]; exact and127 _ (c31_lt X)⟩
theorem enc_mask (P : Ed.Pt) : enc P % T255 = P.y.v := by
  have hyl := v_lt P.y
  unfold enc T255 PP at *
  split <;> omega
theorem masks (P : Ed.Pt) {H G : List UInt8} (hH : H = le (enc P) 32) (hG : G = le (enc P.neg) 32) : ∃ (c0 c1 d : Nat) (M : List UInt8), M.length = 32 ∧ GetC H c0 ∧ GetC G c1 ∧ SetC H M d ∧ SetC G M d ∧ bits .and .u8 (c0 : Int) 127 = (d : Int) ∧ bits .and .u8 (c1 : Int) 127 = (d : Int) := by
  obtain ⟨g1, s1, a1⟩ := mask_e (enc P) P.y.v (enc_mask P)
  obtain ⟨g2, s2, a2⟩ := mask_e (enc P.neg) P.y.v (by rw [enc_mask, pneg_y])
  subst hH hG
  exact ⟨_, _, _, _, le_len _ _, g1, g2, s1, s2, a1, a2⟩
theorem Pm.sub {w0 : World} {L L' : List (Nat × TypeId × Array Value)} {u : World} (h : Pm w0 L u) (hs : ∀ p ∈ L', p ∈ L) : Pm w0 L' u := ⟨fun p hp => h.s p (hs p hp), h.k⟩

set_option maxRecDepth 100000 in
set_option maxHeartbeats 4000000 in
theorem negs_walk (x y : List UInt8) (w : World) (nx : x.length = 32) (ny : y.length = 32) : Calls Try.prog 5 #[ab x, ab y] w fun e w' => e = .returned (.bool true) ∧ Kept [] w w' := by
  have cf := Lib.hid first_any
  obtain ⟨l1, hl1, nl1, vl1, u1⟩ := lit_1
  obtain ⟨b, cb, hb⟩ := base_e
  obtain ⟨r1, c1, h1⟩ := mul_s hb nx
  obtain ⟨H0, hH0, nH0⟩ : ∃ l : List UInt8, l = le (enc (Ed.Pt.mul (leV x) BB)) 32 ∧ l.length = 32 := ⟨_, rfl, le_len _ _⟩
  have c2 : HsC r1 H0 := hash_l hH0 h1 rfl
  obtain ⟨r3, c3, h3⟩ := neg_e h1
  obtain ⟨H1, hH1, nH1⟩ : ∃ l : List UInt8, l = le (enc (Ed.Pt.neg (Ed.Pt.mul (leV x) BB))) 32 ∧ l.length = 32 := ⟨_, rfl, le_len _ _⟩
  have c4 : HsC r3 H1 := hash_l hH1 h3 rfl
  obtain ⟨r5, c5, h5⟩ := dec_s hH1 (P := Ed.Pt.neg (Ed.Pt.mul (leV x) BB)) rfl
  obtain ⟨r6, c6, h6⟩ := add_e h5 h1
  have c7 : HsC r6 l1 := hash_1 hl1 h6 ((Ed.Pt.comm _ _).trans (Ed.Pt.add_neg _))
  obtain ⟨r8, c8, h8⟩ := mul_s h3 ny
  obtain ⟨H2, hH2, nH2⟩ : ∃ l : List UInt8, l = le (enc (Ed.Pt.neg (Ed.Pt.mul (leV y) (Ed.Pt.mul (leV x) BB)))) 32 ∧ l.length = 32 := ⟨_, rfl, le_len _ _⟩
  have c9 : HsC r8 H2 := hash_l hH2 h8 (Ed.Pt.mul_neg _ _)
  obtain ⟨r10, c10, h10⟩ := mul_s h1 ny
  obtain ⟨r11, c11, h11⟩ := neg_e h10
  have c12 : HsC r11 H2 := hash_l hH2 h11 rfl
  obtain ⟨r13, c13, h13⟩ := neg_e h3
  have c14 : HsC r13 H0 := hash_l hH0 h13 (Ed.Pt.neg_neg _)
  obtain ⟨kc, ke, kd, M, nM, gH, gG, sH, sG, aH, aG⟩ := masks (Ed.Pt.mul (leV x) BB) hH0 hH1
  have Q37 : (M == M) = true := beq_self_eq_true _
  have q37 := eql_run Q37 nM nM
  have Q48 : (l1 == l1) = true := beq_self_eq_true _
  have q48 := eql_run Q48 nl1 nl1
  have Q61 : (H2 == H2) = true := beq_self_eq_true _
  have q61 := eql_run Q61 nH2 nH2
  have Q70 : (H0 == H0) = true := beq_self_eq_true _
  have q70 := eql_run Q70 nH0 nH0
  replace Q37 := Lib.hid Q37
  replace Q48 := Lib.hid Q48
  replace Q61 := Lib.hid Q61
  replace Q70 := Lib.hid Q70
  replace c1 := Lib.hid c1
  replace c10 := Lib.hid c10
  replace c11 := Lib.hid c11
  replace c12 := Lib.hid c12
  replace c13 := Lib.hid c13
  replace c14 := Lib.hid c14
  replace c2 := Lib.hid c2
  replace c3 := Lib.hid c3
  replace c4 := Lib.hid c4
  replace c5 := Lib.hid c5
  replace c6 := Lib.hid c6
  replace c7 := Lib.hid c7
  replace c8 := Lib.hid c8
  replace c9 := Lib.hid c9
  replace cb := Lib.hid cb
  replace nx := Lib.hid nx
  replace ny := Lib.hid ny
  replace nH0 := Lib.hid nH0
  replace nH1 := Lib.hid nH1
  replace nH2 := Lib.hid nH2
  replace nl1 := Lib.hid nl1
  replace u1 := Lib.hid u1
  clear hH0 hH1 hH2 hl1 vl1 hb h1 h3 h5 h6 h8 h10 h11 h13
  replace nM := Lib.hid nM
  replace gH := Lib.hid gH
  replace gG := Lib.hid gG
  replace sH := Lib.hid sH
  replace sG := Lib.hid sG
  go_enter Try.func5, Try.ntmps5
  have t := Lib.hid (Pm.none w)
  go_wp2_with (first
    | ((with_reducible refine wpl_box (o := ⟨some 2, _, _, _, _, _⟩) (v := ab x) rfl (.tmp 0) rfl rfl ?_); intro g2 w2 m2; replace t := Lib.hid ((t.out.kept m2.kept).cons (show Blk w2 g2 22 (bv x).toArray from m2.blk)); clear m2)
    | ((with_reducible refine wpl_box (o := ⟨some 3, _, _, _, _, _⟩) (v := ab y) rfl (.tmp 1) rfl rfl ?_); intro g3 w3 m3; replace t := Lib.hid ((t.out.kept m3.kept).cons (show Blk w3 g3 22 (bv y).toArray from m3.blk)); clear m3)
    | (go_at_call 10; (with_reducible refine (cf.out _).mono ?_); rintro e v ⟨rfl, kk⟩; replace t := Lib.hid (t.out.kept kk); clear kk))
  refine wp_multi (by kernel_rfl) [.val (b.v), .val (ab x), .val (r1.v), .new 29 (pz.v), .put 3 2 r1.c.toArray]
    (Pm w [(g3, 22, (bv y).toArray), (g2, 22, (bv x).toArray)]) (by kernel_rfl) (by kernel_rfl) t.out.drew (fun u u' T hS hk hT => t.out.fresh u u' T hS hk hT) ?_ ?_
  · refine ⟨?_, ?_, ?_, ⟨⟨_, rfl⟩, rfl, zeroP4⟩, ?_, trivial⟩
    · refine ⟨⟨_, rfl⟩, fun a' u K0 R hS hr ho h => wp_callf rfl enters_base (vs := #[]) ?_ (cb.out u) h⟩
      simp
    · exact ⟨⟨_, rfl⟩, fun a' u K0 R hS hr ho h => wp_loadr arrB.row (.tmp 2) rfl ((ho 2 (by decide)).trans rfl) (hS.s (g2, 22, (bv x).toArray) (by simp)) (bsize (nx).out) (h u (Kept.refl _ _))⟩
    · refine ⟨⟨_, rfl⟩, fun a' u K0 R hS hr ho h => wp_callf rfl enters_pmul (vs := #[b.v, ab x]) ?_ (c1.out u) h⟩
      have x0 := hr 0 (b.v) 12 _ rfl rfl rfl ⟨⟨0, .data⟩, by simp, rfl, rfl⟩
      have x1 := hr 1 (ab x) 13 _ rfl rfl rfl ⟨⟨1, .data⟩, by simp, rfl, rfl⟩
      simp [Act.eval] at x0 x1 ⊢
      exact ⟨x0, x1⟩
    · exact ⟨rfl, ⟨⟨3, .data⟩, by simp, rfl, rfl⟩, ⟨⟨2, .data⟩, by simp, rfl, rfl⟩, _, _, _, _, _, _, _, _, rfl, rfl, rfl, rfl, rfl, rfl, rfl, structPt, pz.size, P4.size _, P4.one _⟩
  intro γ wm hS hγ hne hput
  have b5 := hput 4 3 2 _ _ _ rfl rfl
  generalize e5 : γ 3 = g5 at *
  simp [actOf, VK, List.range, List.range.loop, Act.put, e5]
  replace t := Lib.hid (show Pm w [(g5, 29, r1.c.toArray), (g3, 22, (bv y).toArray), (g2, 22, (bv x).toArray)] wm from (hS).cons b5)
  clear b5 hput hne hγ hS e5
  go_wp2_with fail
  refine wp_multi (by kernel_rfl) [.val (r1.v), .val (ab H0), .val (r1.v), .val (r3.v), .val (ab H1), .new 22 (ab (noughts 32)), .new 22 (ab (noughts 32)), .put 5 1 (bv H0).toArray, .put 6 4 (bv H1).toArray]
    (Pm w [(g5, 29, r1.c.toArray), (g3, 22, (bv y).toArray), (g2, 22, (bv x).toArray)]) (by kernel_rfl) (by kernel_rfl) t.out.drew (fun u u' T hS hk hT => t.out.fresh u u' T hS hk hT) ?_ ?_
  · refine ⟨?_, ?_, ?_, ?_, ?_, ⟨⟨_, rfl⟩, rfl, zeroB⟩, ⟨⟨_, rfl⟩, rfl, zeroB⟩, ?_, ?_, trivial⟩
    · exact ⟨⟨_, rfl⟩, fun a' u K0 R hS hr ho h => wp_loadr structPt (.tmp 5) rfl ((ho 5 (by decide)).trans rfl) (hS.s (g5, 29, r1.c.toArray) (by simp)) (P4.size _) (h u (Kept.refl _ _))⟩
    · refine ⟨⟨_, rfl⟩, fun a' u K0 R hS hr ho h => wp_callf rfl enters_phash (vs := #[r1.v]) ?_ (c2.out u) h⟩
      have x0 := hr 0 (r1.v) 15 _ rfl rfl rfl ⟨⟨0, .data⟩, by simp, rfl, rfl⟩
      simp [Act.eval] at x0 ⊢
      exact x0
    · exact ⟨⟨_, rfl⟩, fun a' u K0 R hS hr ho h => wp_loadr structPt (.tmp 5) rfl ((ho 5 (by decide)).trans rfl) (hS.s (g5, 29, r1.c.toArray) (by simp)) (P4.size _) (h u (Kept.refl _ _))⟩
    · refine ⟨⟨_, rfl⟩, fun a' u K0 R hS hr ho h => wp_callf rfl enters_pneg (vs := #[r1.v]) ?_ (c3.out u) h⟩
      have x0 := hr 2 (r1.v) 17 _ rfl rfl rfl ⟨⟨2, .data⟩, by simp, rfl, rfl⟩
      simp [Act.eval] at x0 ⊢
      exact x0
    · refine ⟨⟨_, rfl⟩, fun a' u K0 R hS hr ho h => wp_callf rfl enters_phash (vs := #[r3.v]) ?_ (c4.out u) h⟩
      have x0 := hr 3 (r3.v) 18 _ rfl rfl rfl ⟨⟨3, .data⟩, by simp, rfl, rfl⟩
      simp [Act.eval] at x0 ⊢
      exact x0
    · exact ⟨rfl, ⟨⟨5, .data⟩, by simp, rfl, rfl⟩, ⟨⟨1, .data⟩, by simp, rfl, rfl⟩, _, _, _, _, _, _, _, _, rfl, rfl, rfl, rfl, rfl, rfl, rfl, arrB.row, rfl, bsize nH0.out, one_ab _⟩
    · exact ⟨rfl, ⟨⟨6, .data⟩, by simp, rfl, rfl⟩, ⟨⟨4, .data⟩, by simp, rfl, rfl⟩, _, _, _, _, _, _, _, _, rfl, rfl, rfl, rfl, rfl, rfl, rfl, arrB.row, rfl, bsize nH1.out, one_ab _⟩
  intro γ wm hS hγ hne hput
  have hf6 := hγ 5 _ _ rfl
  have hf7 := hγ 6 _ _ rfl
  have hd6_7 := hne 5 6 _ _ _ _ rfl rfl (by decide)
  have tP := t
  have b6 := hput 7 5 1 _ _ _ rfl rfl
  have b7 := hput 8 6 4 _ _ _ rfl rfl
  generalize e6 : γ 5 = g6 at *
  generalize e7 : γ 6 = g7 at *
  simp [actOf, VK, List.range, List.range.loop, Act.put, e6, e7]
  replace t := Lib.hid (show Pm w [(g7, 22, (bv H1).toArray), (g6, 22, (bv H0).toArray), (g5, 29, r1.c.toArray), (g3, 22, (bv y).toArray), (g2, 22, (bv x).toArray)] wm from ((hS).cons b6).cons b7)
  clear b6 b7 hput hne hγ hS e6 e7
  have N6 := Lib.hid (fun p hp => Nat.ne_of_lt (Nat.lt_of_lt_of_le (tP.out.s p hp).lt hf6))
  have N7 := Lib.hid (fun p hp => Nat.ne_of_lt (Nat.lt_of_lt_of_le (tP.out.s p hp).lt hf7))
  have L6 := Lib.hid (Nat.le_trans tP.out.k.size hf6)
  have L7 := Lib.hid (Nat.le_trans tP.out.k.size hf7)
  clear tP hf6 hf7
  have D := Lib.hid hd6_7
  clear hd6_7
  replace t := Lib.hid (show Pm w [(g6, 22, (bv H0).toArray), (g7, 22, (bv H1).toArray), (g5, 29, r1.c.toArray), (g3, 22, (bv y).toArray), (g2, 22, (bv x).toArray)] wm from t.out.sub (by simp))
  have b6 := Lib.hid (t.out.s (g6, 22, (bv H0).toArray) (by simp))
  have q6 := gH.out _ _ _ b6.out
  have f6 := b6.out.frozen 31
  have t1 := Lib.hid (t.out.again L6.out (fun p hp => (List.mem_cons.1 hp).elim (fun e => by subst e; exact D.out.symm) (N6.out p)) (sH.out _ _ _ b6.out) ((Kept.refl [g6] wm).setCell (p := ⟨g6, 31, none⟩) (.inl (by simp)) (.int .u8 (kd : Int))))
  have t2 := Lib.hid (show Pm w [(g7, 22, (bv H1).toArray), (g6, 22, (bv M).toArray), (g5, 29, r1.c.toArray), (g3, 22, (bv y).toArray), (g2, 22, (bv x).toArray)] _ from t1.out.sub (by simp))
  have b7 := Lib.hid (t2.out.s (g7, 22, (bv H1).toArray) (by simp))
  have q7 := gG.out _ _ _ b7.out
  have f7 := b7.out.frozen 31
  have t3 := Lib.hid (t2.out.again L7.out (fun p hp => (List.mem_cons.1 hp).elim (fun e => by subst e; exact D.out) (N7.out p)) (sG.out _ _ _ b7.out) ((Kept.refl [g7] _).setCell (p := ⟨g7, 31, none⟩) (.inl (by simp)) (.int .u8 (kd : Int))))
  replace t := t3
  clear t1 t2 t3 b6 b7
  go_wp2_with (first
    | (with_reducible refine wpl_load_row (o := ⟨some 29, _, _, _, _, _⟩) structPt rfl (.tmp 5) rfl rfl (t.out.s (g5, 29, r1.c.toArray) (by simp)) (P4.size _) ?_)
    | (go_at_call 20; (with_reducible refine (c3.out _).mono ?_); rintro e v ⟨rfl, kk⟩; replace t := Lib.hid (t.out.kept kk); clear kk)
    | (go_at_call 14; (with_reducible refine (c4.out _).mono ?_); rintro e v ⟨rfl, kk⟩; replace t := Lib.hid (t.out.kept kk); clear kk)
    | (go_at_call 11; (with_reducible refine (c5.out _).mono ?_); rintro e v ⟨rfl, kk⟩; replace t := Lib.hid (t.out.kept kk); clear kk)
    | ((with_reducible refine wpl_new (o := ⟨some 8, _, _, _, _, _⟩) rfl rfl zeroP4 ?_); intro g8 w8 m8)
    | ((refine wpl_store_row (o := ⟨none, .store 29 (.tmp 8) (.tmp 33), _, _, _, _⟩) structPt rfl (.tmp 8) (.tmp 33) rfl rfl rfl m8.blk pz.size (P4.size _) (P4.one _) ?_); intro v8 b8 k8; replace t := Lib.hid (t.out.put m8 b8 k8); clear m8 b8 k8))
  refine Txt.wp_textG [0, 1, 2, 8, 9, 12, 13, 16, 18, 21, 22, 26, 29, 33, 35] (Pm w [(g8, 29, r5.c.toArray), (g7, 22, (bv M).toArray), (g6, 22, (bv M).toArray), (g5, 29, r1.c.toArray), (g3, 22, (bv y).toArray), (g2, 22, (bv x).toArray)]) [[_, _, _, _, _, _, _, _, _, _, _], [_], [_], [_, _, _, _, _], [_, _], [_], [_, _, _], [_], [_], [_, _, _, _, _], [_], [_], [_, _], [_, _, _]] (by kernel_rfl) (by kernel_rfl) rfl t.out.drew (Txt.segs_cons ?_)
  replace t := Lib.hid t.out.drew
  go_wp2_with (first
    | (with_reducible refine wpl_load_row (o := ⟨some 35, _, _, _, _, _⟩) arrB.row rfl (.tmp 6) rfl rfl (t.out.s (g6, 22, (bv M).toArray) (by simp)) (bsize (nM).out) ?_)
    | (with_reducible refine wpl_load_row (o := ⟨some 36, _, _, _, _, _⟩) arrB.row rfl (.tmp 7) rfl rfl (t.out.s (g7, 22, (bv M).toArray) (by simp)) (bsize (nM).out) ?_)
    | (with_reducible refine wpl_load_row (o := ⟨some 43, _, _, _, _, _⟩) structPt rfl (.tmp 8) rfl rfl (t.out.s (g8, 29, r5.c.toArray) (by simp)) (P4.size _) ?_)
    | (with_reducible refine wpl_load_row (o := ⟨some 44, _, _, _, _, _⟩) structPt rfl (.tmp 5) rfl rfl (t.out.s (g5, 29, r1.c.toArray) (by simp)) (P4.size _) ?_)
    | (go_at_call 19; (with_reducible refine (c6.out _).mono ?_); rintro e v ⟨rfl, kk⟩; replace t := Lib.hid (t.out.kept kk); clear kk))
  refine ⟨rfl, t.out, Txt.segs_cons ?_⟩
  go_wp2_with (first
    | (go_at_call 14; (with_reducible refine (c7.out _).mono ?_); rintro e v ⟨rfl, kk⟩; replace t := Lib.hid (t.out.kept kk); clear kk))
  refine ⟨rfl, t.out, Txt.segs_cons ?_⟩
  go_wp2_with (first
    | (refine wpl_build1 (o := ⟨some 47, _, _, _, _, _⟩) rfl 0 (.const (.int .u8 1)) rfl rfl u1.out ?_))
  refine ⟨rfl, t.out, Txt.segs_cons ?_⟩
  go_wp2_with (first
    | (with_reducible refine wpl_load_row (o := ⟨some 51, _, _, _, _, _⟩) structPt rfl (.tmp 5) rfl rfl (t.out.s (g5, 29, r1.c.toArray) (by simp)) (P4.size _) ?_)
    | (go_at_call 20; (with_reducible refine (c3.out _).mono ?_); rintro e v ⟨rfl, kk⟩; replace t := Lib.hid (t.out.kept kk); clear kk))
  refine ⟨rfl, t.out, Txt.segs_cons ?_⟩
  go_wp2_with (first
    | (with_reducible refine wpl_load_row (o := ⟨some 53, _, _, _, _, _⟩) arrB.row rfl (.tmp 3) rfl rfl (t.out.s (g3, 22, (bv y).toArray) (by simp)) (bsize (ny).out) ?_)
    | (go_at_call 18; (with_reducible refine (c8.out _).mono ?_); rintro e v ⟨rfl, kk⟩; replace t := Lib.hid (t.out.kept kk); clear kk))
  refine ⟨rfl, t.out, Txt.segs_cons ?_⟩
  go_wp2_with (first
    | (go_at_call 14; (with_reducible refine (c9.out _).mono ?_); rintro e v ⟨rfl, kk⟩; replace t := Lib.hid (t.out.kept kk); clear kk))
  refine ⟨rfl, t.out, Txt.segs_cons ?_⟩
  go_wp2_with (first
    | (with_reducible refine wpl_load_row (o := ⟨some 56, _, _, _, _, _⟩) structPt rfl (.tmp 5) rfl rfl (t.out.s (g5, 29, r1.c.toArray) (by simp)) (P4.size _) ?_)
    | (with_reducible refine wpl_load_row (o := ⟨some 57, _, _, _, _, _⟩) arrB.row rfl (.tmp 3) rfl rfl (t.out.s (g3, 22, (bv y).toArray) (by simp)) (bsize (ny).out) ?_)
    | (go_at_call 18; (with_reducible refine (c10.out _).mono ?_); rintro e v ⟨rfl, kk⟩; replace t := Lib.hid (t.out.kept kk); clear kk))
  refine ⟨rfl, t.out, Txt.segs_cons ?_⟩
  go_wp2_with (first
    | (go_at_call 20; (with_reducible refine (c11.out _).mono ?_); rintro e v ⟨rfl, kk⟩; replace t := Lib.hid (t.out.kept kk); clear kk))
  refine ⟨rfl, t.out, Txt.segs_cons ?_⟩
  go_wp2_with (first
    | (go_at_call 14; (with_reducible refine (c12.out _).mono ?_); rintro e v ⟨rfl, kk⟩; replace t := Lib.hid (t.out.kept kk); clear kk))
  refine ⟨rfl, t.out, Txt.segs_cons ?_⟩
  go_wp2_with (first
    | (with_reducible refine wpl_load_row (o := ⟨some 64, _, _, _, _, _⟩) structPt rfl (.tmp 5) rfl rfl (t.out.s (g5, 29, r1.c.toArray) (by simp)) (P4.size _) ?_)
    | (go_at_call 20; (with_reducible refine (c3.out _).mono ?_); rintro e v ⟨rfl, kk⟩; replace t := Lib.hid (t.out.kept kk); clear kk))
  refine ⟨rfl, t.out, Txt.segs_cons ?_⟩
  go_wp2_with (first
    | (go_at_call 20; (with_reducible refine (c13.out _).mono ?_); rintro e v ⟨rfl, kk⟩; replace t := Lib.hid (t.out.kept kk); clear kk))
  refine ⟨rfl, t.out, Txt.segs_cons ?_⟩
  go_wp2_with (first
    | (go_at_call 14; (with_reducible refine (c14.out _).mono ?_); rintro e v ⟨rfl, kk⟩; replace t := Lib.hid (t.out.kept kk); clear kk))
  refine ⟨rfl, t.out, Txt.segs_cons ?_⟩
  go_wp2_with (first
    | (with_reducible refine wpl_load_row (o := ⟨some 68, _, _, _, _, _⟩) structPt rfl (.tmp 5) rfl rfl (t.out.s (g5, 29, r1.c.toArray) (by simp)) (P4.size _) ?_)
    | (go_at_call 14; (with_reducible refine (c2.out _).mono ?_); rintro e v ⟨rfl, kk⟩; replace t := Lib.hid (t.out.kept kk); clear kk))
  refine ⟨rfl, t.out, Txt.segs_cons ?_⟩
  go_wp2_with fail
  refine ⟨rfl, t.out, Txt.segs_nil ⟨⟨by kernel_rfl, ?_⟩, ?_⟩⟩
  · intro j hj o ho hw
    have hj2 : j = 0 ∨ j = 1 ∨ j = 2 ∨ j = 8 ∨ j = 9 ∨ j = 12 ∨ j = 13 ∨ j = 16 ∨ j = 18 ∨ j = 21 ∨ j = 22 ∨ j = 26 ∨ j = 29 ∨ j = 33 ∨ j = 35 := by simpa using hj
    rcases hj2 with rfl | rfl | rfl | rfl | rfl | rfl | rfl | rfl | rfl | rfl | rfl | rfl | rfl | rfl | rfl <;> cases ho
    · exact ⟨35, rfl, fun u hu => exec_load arrB.row (.tmp 6) rfl rfl (hu.s (g6, 22, (bv M).toArray) (by simp)) (bsize (nM).out)⟩
    · exact ⟨36, rfl, fun u hu => exec_load arrB.row (.tmp 7) rfl rfl (hu.s (g7, 22, (bv M).toArray) (by simp)) (bsize (nM).out)⟩
    · exact ⟨37, rfl, fun u _ => exec_eqb (.tmp 35) (.tmp 36) rfl rfl rfl Q37.out nM.out nM.out⟩
    · exact ⟨43, rfl, fun u hu => exec_load structPt (.tmp 8) rfl rfl (hu.s (g8, 29, r5.c.toArray) (by simp)) (P4.size _)⟩
    · exact ⟨44, rfl, fun u hu => exec_load structPt (.tmp 5) rfl rfl (hu.s (g5, 29, r1.c.toArray) (by simp)) (P4.size _)⟩
    · exact ⟨47, rfl, fun u _ => exec_build1 0 (.const (.int .u8 1)) rfl rfl u1.out⟩
    · exact ⟨48, rfl, fun u _ => exec_eqb (.tmp 46) (.tmp 47) rfl rfl rfl Q48.out nl1.out nl1.out⟩
    · exact ⟨51, rfl, fun u hu => exec_load structPt (.tmp 5) rfl rfl (hu.s (g5, 29, r1.c.toArray) (by simp)) (P4.size _)⟩
    · exact ⟨53, rfl, fun u hu => exec_load arrB.row (.tmp 3) rfl rfl (hu.s (g3, 22, (bv y).toArray) (by simp)) (bsize (ny).out)⟩
    · exact ⟨56, rfl, fun u hu => exec_load structPt (.tmp 5) rfl rfl (hu.s (g5, 29, r1.c.toArray) (by simp)) (P4.size _)⟩
    · exact ⟨57, rfl, fun u hu => exec_load arrB.row (.tmp 3) rfl rfl (hu.s (g3, 22, (bv y).toArray) (by simp)) (bsize (ny).out)⟩
    · exact ⟨61, rfl, fun u _ => exec_eqb (.tmp 55) (.tmp 60) rfl rfl rfl Q61.out nH2.out nH2.out⟩
    · exact ⟨64, rfl, fun u hu => exec_load structPt (.tmp 5) rfl rfl (hu.s (g5, 29, r1.c.toArray) (by simp)) (P4.size _)⟩
    · exact ⟨68, rfl, fun u hu => exec_load structPt (.tmp 5) rfl rfl (hu.s (g5, 29, r1.c.toArray) (by simp)) (P4.size _)⟩
    · exact ⟨70, rfl, fun u _ => exec_eqb (.tmp 67) (.tmp 69) rfl rfl rfl Q70.out nH0.out nH0.out⟩
  go_wp2_with fail
  go_ret
  exact ⟨rfl, t.out.k⟩
end Go.Proofs.Ytkflljjcgihaoaa
