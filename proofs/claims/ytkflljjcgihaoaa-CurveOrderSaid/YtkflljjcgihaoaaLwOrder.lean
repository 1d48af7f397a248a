/-
  The curve's laws: small multiples of the base point are neutral (CurveOrder).
-/
import Derived.Test.YtkflljjcgihaoaaLw1
namespace Go.Proofs.Ytkflljjcgihaoaa
open Go.RowKit Go.Mem Go.Txt

theorem eight (n : Nat) : enc (Ed.Pt.mul n BB) = 1 ↔ enc (Ed.Pt.mul 8 (Ed.Pt.mul n BB)) = 1 := by
  rw [enc_one, enc_one]
  constructor
  · intro h
    rw [h, Ed.Pt.mul_zero]
  · intro h
    have e : Ed.Pt.mul n BB = Ed.Pt.mul (n * 8 * 2713877091499598330239944961141122840321418634767465352250731601857045344121) BB := by
      rw [Ed.Pt.mul_mod BB order_B n, Ed.Pt.mul_mod BB order_B (n * 8 * _), Nat.mul_assoc, Nat.mul_mod n (8 * _), show 8 * 2713877091499598330239944961141122840321418634767465352250731601857045344121 % LL = 1 from by decide +kernel, Nat.mul_one, Nat.mod_mod]
    rw [e, Ed.Pt.mul_mul, Ed.Pt.mul_mul, h, Ed.Pt.mul_zero]
theorem small_h {H l : List UInt8} {n : Nat} {s : Bool} (hH : H = le (enc (Ed.Pt.mul n BB)) 32) (hl : l = le 1 32) (hs : s = decide (enc (Ed.Pt.mul 8 (Ed.Pt.mul n BB)) = 1)) : (H == l) = s := by
  rw [hH, hl, hs, le_beq2 _ _ (lt_pow (enc_lt _)) (lt_pow one_lt)]
  exact decide_eq_decide.2 (eight n)

set_option maxRecDepth 100000 in
set_option maxHeartbeats 4000000 in
theorem order_walk (x : List UInt8) (w : World) (nx : x.length = 32) : Calls Try.prog 7 #[ab x] w fun e w' => e = .returned (.bool true) ∧ Kept [] w w' := by
  have cf := Lib.hid first_any
  obtain ⟨l1, hl1, nl1, vl1, u1⟩ := lit_1
  obtain ⟨b, cb, hb⟩ := base_e
  obtain ⟨r1, c1, h1⟩ := mul_s hb nx
  obtain ⟨H0, hH0, nH0⟩ : ∃ l : List UInt8, l = le (enc (Ed.Pt.mul (leV x) BB)) 32 ∧ l.length = 32 := ⟨_, rfl, le_len _ _⟩
  have c2 : HsC r1 H0 := hash_l hH0 h1 rfl
  obtain ⟨r3, c3, h3⟩ := dec_s hH0 (P := Ed.Pt.mul (leV x) BB) rfl
  have c4 : HsC r3 H0 := hash_l hH0 h3 rfl
  obtain ⟨sB, hsB⟩ : ∃ s : Bool, s = decide (enc (Ed.Pt.mul 8 (Ed.Pt.mul (leV x) BB)) = 1) := ⟨_, rfl⟩
  have c5 : SaC r1 sB := by rw [hsB]; exact small_e h1
  obtain ⟨r6, c6, h6⟩ := neg_e h1
  obtain ⟨r7, c7, h7⟩ := add_e h3 h6
  have c8 : HsC r7 l1 := hash_1 hl1 h7 (Ed.Pt.add_neg _)
  have Q25 : (H0 == H0) = true := beq_self_eq_true _
  have q25 := eql_run Q25 nH0 nH0
  have Q32 : (H0 == l1) = sB := small_h hH0 hl1 hsB
  have q32 := eql_run Q32 nH0 nl1
  have Q42 : (l1 == l1) = true := beq_self_eq_true _
  have q42 := eql_run Q42 nl1 nl1
  replace Q25 := Lib.hid Q25
  replace Q32 := Lib.hid Q32
  replace Q42 := Lib.hid Q42
  replace c1 := Lib.hid c1
  replace c2 := Lib.hid c2
  replace c3 := Lib.hid c3
  replace c4 := Lib.hid c4
  replace c5 := Lib.hid c5
  replace c6 := Lib.hid c6
  replace c7 := Lib.hid c7
  replace c8 := Lib.hid c8
  replace cb := Lib.hid cb
  replace nx := Lib.hid nx
  replace nH0 := Lib.hid nH0
  replace nl1 := Lib.hid nl1
  replace u1 := Lib.hid u1
  clear hH0 hl1 vl1 hb h1 h3 h6 h7
  clear hsB
  go_enter Try.func7, Try.ntmps7
  have t := Lib.hid (Pm.none w)
  go_wp2_with (first
    | ((with_reducible refine wpl_box (o := ⟨some 1, _, _, _, _, _⟩) (v := ab x) rfl (.tmp 0) rfl rfl ?_); intro g1 w1 m1; replace t := Lib.hid ((t.out.kept m1.kept).cons (show Blk w1 g1 22 (bv x).toArray from m1.blk)); clear m1)
    | (go_at_call 10; (with_reducible refine (cf.out _).mono ?_); rintro e v ⟨rfl, kk⟩; replace t := Lib.hid (t.out.kept kk); clear kk))
  refine wp_multi (by kernel_rfl) [.val (b.v), .val (ab x), .val (r1.v), .new 29 (pz.v), .put 3 2 r1.c.toArray]
    (Pm w [(g1, 22, (bv x).toArray)]) (by kernel_rfl) (by kernel_rfl) t.out.drew (fun u u' T hS hk hT => t.out.fresh u u' T hS hk hT) ?_ ?_
  · refine ⟨?_, ?_, ?_, ⟨⟨_, rfl⟩, rfl, zeroP4⟩, ?_, trivial⟩
    · refine ⟨⟨_, rfl⟩, fun a' u K0 R hS hr ho h => wp_callf rfl enters_base (vs := #[]) ?_ (cb.out u) h⟩
      simp
    · exact ⟨⟨_, rfl⟩, fun a' u K0 R hS hr ho h => wp_loadr arrB.row (.tmp 1) rfl ((ho 1 (by decide)).trans rfl) (hS.s (g1, 22, (bv x).toArray) (by simp)) (bsize (nx).out) (h u (Kept.refl _ _))⟩
    · refine ⟨⟨_, rfl⟩, fun a' u K0 R hS hr ho h => wp_callf rfl enters_pmul (vs := #[b.v, ab x]) ?_ (c1.out u) h⟩
      have x0 := hr 0 (b.v) 9 _ rfl rfl rfl ⟨⟨0, .data⟩, by simp, rfl, rfl⟩
      have x1 := hr 1 (ab x) 10 _ rfl rfl rfl ⟨⟨1, .data⟩, by simp, rfl, rfl⟩
      simp [Act.eval] at x0 x1 ⊢
      exact ⟨x0, x1⟩
    · exact ⟨rfl, ⟨⟨3, .data⟩, by simp, rfl, rfl⟩, ⟨⟨2, .data⟩, by simp, rfl, rfl⟩, _, _, _, _, _, _, _, _, rfl, rfl, rfl, rfl, rfl, rfl, rfl, structPt, pz.size, P4.size _, P4.one _⟩
  intro γ wm hS hγ hne hput
  have b3 := hput 4 3 2 _ _ _ rfl rfl
  generalize e3 : γ 3 = g3 at *
  simp [actOf, VK, List.range, List.range.loop, Act.put, e3]
  replace t := Lib.hid (show Pm w [(g3, 29, r1.c.toArray), (g1, 22, (bv x).toArray)] wm from (hS).cons b3)
  clear b3 hput hne hγ hS e3
  go_wp2_with (first
    | (with_reducible refine wpl_load_row (o := ⟨some 12, _, _, _, _, _⟩) structPt rfl (.tmp 3) rfl rfl (t.out.s (g3, 29, r1.c.toArray) (by simp)) (P4.size _) ?_)
    | (go_at_call 14; (with_reducible refine (c2.out _).mono ?_); rintro e v ⟨rfl, kk⟩; replace t := Lib.hid (t.out.kept kk); clear kk)
    | ((with_reducible refine wpl_new (o := ⟨some 4, _, _, _, _, _⟩) rfl rfl zeroB ?_); intro g4 w4 m4)
    | ((refine wpl_store_arr (o := ⟨none, .store 22 (.tmp 4) (.tmp 13), _, _, _, _⟩) arrB rfl (.tmp 4) (.tmp 13) rfl rfl rfl m4.blk rfl (by simp [nH0.out]) (one_ab _) ?_); intro v4 b4 k4; replace t := Lib.hid (t.out.put m4 b4 k4); clear m4 b4 k4)
    | (with_reducible refine wpl_load_row (o := ⟨some 15, _, _, _, _, _⟩) arrB.row rfl (.tmp 4) rfl rfl (t.out.s (g4, 22, (bv H0).toArray) (by simp)) (bsize (nH0).out) ?_)
    | (go_at_call 11; (with_reducible refine (c3.out _).mono ?_); rintro e v ⟨rfl, kk⟩; replace t := Lib.hid (t.out.kept kk); clear kk)
    | ((with_reducible refine wpl_new (o := ⟨some 5, _, _, _, _, _⟩) rfl rfl zeroP4 ?_); intro g5 w5 m5)
    | ((refine wpl_store_row (o := ⟨none, .store 29 (.tmp 5) (.tmp 17), _, _, _, _⟩) structPt rfl (.tmp 5) (.tmp 17) rfl rfl rfl m5.blk pz.size (P4.size _) (P4.one _) ?_); intro v5 b5 k5; replace t := Lib.hid (t.out.put m5 b5 k5); clear m5 b5 k5))
  refine Txt.wp_textG [3, 5, 6, 9, 11, 12, 13, 17, 18, 22, 23] (Pm w [(g5, 29, r3.c.toArray), (g4, 22, (bv H0).toArray), (g3, 29, r1.c.toArray), (g1, 22, (bv x).toArray)]) [[_, _, _, _, _], [_, _, _, _, _, _], [_, _], [_, _, _, _, _, _, _], [_], [_], [_], [_, _, _]] (by kernel_rfl) (by kernel_rfl) rfl t.out.drew (Txt.segs_cons ?_)
  replace t := Lib.hid t.out.drew
  go_wp2_with (first
    | (with_reducible refine wpl_load_row (o := ⟨some 22, _, _, _, _, _⟩) structPt rfl (.tmp 5) rfl rfl (t.out.s (g5, 29, r3.c.toArray) (by simp)) (P4.size _) ?_)
    | (go_at_call 14; (with_reducible refine (c4.out _).mono ?_); rintro e v ⟨rfl, kk⟩; replace t := Lib.hid (t.out.kept kk); clear kk))
  refine ⟨rfl, t.out, Txt.segs_cons ?_⟩
  go_wp2_with (first
    | (with_reducible refine wpl_load_row (o := ⟨some 24, _, _, _, _, _⟩) arrB.row rfl (.tmp 4) rfl rfl (t.out.s (g4, 22, (bv H0).toArray) (by simp)) (bsize (nH0).out) ?_)
    | (with_reducible refine wpl_load_row (o := ⟨some 28, _, _, _, _, _⟩) structPt rfl (.tmp 3) rfl rfl (t.out.s (g3, 29, r1.c.toArray) (by simp)) (P4.size _) ?_)
    | (go_at_call 15; (with_reducible refine (c5.out _).mono ?_); rintro e v ⟨rfl, kk⟩; replace t := Lib.hid (t.out.kept kk); clear kk))
  refine ⟨rfl, t.out, Txt.segs_cons ?_⟩
  go_wp2_with (first
    | (with_reducible refine wpl_load_row (o := ⟨some 30, _, _, _, _, _⟩) arrB.row rfl (.tmp 4) rfl rfl (t.out.s (g4, 22, (bv H0).toArray) (by simp)) (bsize (nH0).out) ?_)
    | (refine wpl_build1 (o := ⟨some 31, _, _, _, _, _⟩) rfl 0 (.const (.int .u8 1)) rfl rfl u1.out ?_))
  refine ⟨rfl, t.out, Txt.segs_cons ?_⟩
  go_wp2_with (first
    | (with_reducible refine wpl_load_row (o := ⟨some 36, _, _, _, _, _⟩) structPt rfl (.tmp 5) rfl rfl (t.out.s (g5, 29, r3.c.toArray) (by simp)) (P4.size _) ?_)
    | (with_reducible refine wpl_load_row (o := ⟨some 37, _, _, _, _, _⟩) structPt rfl (.tmp 3) rfl rfl (t.out.s (g3, 29, r1.c.toArray) (by simp)) (P4.size _) ?_)
    | (go_at_call 20; (with_reducible refine (c6.out _).mono ?_); rintro e v ⟨rfl, kk⟩; replace t := Lib.hid (t.out.kept kk); clear kk))
  refine ⟨rfl, t.out, Txt.segs_cons ?_⟩
  go_wp2_with (first
    | (go_at_call 19; (with_reducible refine (c7.out _).mono ?_); rintro e v ⟨rfl, kk⟩; replace t := Lib.hid (t.out.kept kk); clear kk))
  refine ⟨rfl, t.out, Txt.segs_cons ?_⟩
  go_wp2_with (first
    | (go_at_call 14; (with_reducible refine (c8.out _).mono ?_); rintro e v ⟨rfl, kk⟩; replace t := Lib.hid (t.out.kept kk); clear kk))
  refine ⟨rfl, t.out, Txt.segs_cons ?_⟩
  go_wp2_with (first
    | (refine wpl_build1 (o := ⟨some 41, _, _, _, _, _⟩) rfl 0 (.const (.int .u8 1)) rfl rfl u1.out ?_))
  refine ⟨rfl, t.out, Txt.segs_cons ?_⟩
  go_wp2_with fail
  refine ⟨rfl, t.out, Txt.segs_nil ⟨⟨by kernel_rfl, ?_⟩, ?_⟩⟩
  · intro j hj o ho hw
    have hj2 : j = 3 ∨ j = 5 ∨ j = 6 ∨ j = 9 ∨ j = 11 ∨ j = 12 ∨ j = 13 ∨ j = 17 ∨ j = 18 ∨ j = 22 ∨ j = 23 := by simpa using hj
    rcases hj2 with rfl | rfl | rfl | rfl | rfl | rfl | rfl | rfl | rfl | rfl | rfl <;> cases ho
    · exact ⟨22, rfl, fun u hu => exec_load structPt (.tmp 5) rfl rfl (hu.s (g5, 29, r3.c.toArray) (by simp)) (P4.size _)⟩
    · exact ⟨24, rfl, fun u hu => exec_load arrB.row (.tmp 4) rfl rfl (hu.s (g4, 22, (bv H0).toArray) (by simp)) (bsize (nH0).out)⟩
    · exact ⟨25, rfl, fun u _ => exec_eqb (.tmp 23) (.tmp 24) rfl rfl rfl Q25.out nH0.out nH0.out⟩
    · exact ⟨28, rfl, fun u hu => exec_load structPt (.tmp 3) rfl rfl (hu.s (g3, 29, r1.c.toArray) (by simp)) (P4.size _)⟩
    · exact ⟨30, rfl, fun u hu => exec_load arrB.row (.tmp 4) rfl rfl (hu.s (g4, 22, (bv H0).toArray) (by simp)) (bsize (nH0).out)⟩
    · exact ⟨31, rfl, fun u _ => exec_build1 0 (.const (.int .u8 1)) rfl rfl u1.out⟩
    · exact ⟨32, rfl, fun u _ => exec_eqb (.tmp 30) (.tmp 31) rfl rfl rfl Q32.out nH0.out nl1.out⟩
    · exact ⟨36, rfl, fun u hu => exec_load structPt (.tmp 5) rfl rfl (hu.s (g5, 29, r3.c.toArray) (by simp)) (P4.size _)⟩
    · exact ⟨37, rfl, fun u hu => exec_load structPt (.tmp 3) rfl rfl (hu.s (g3, 29, r1.c.toArray) (by simp)) (P4.size _)⟩
    · exact ⟨41, rfl, fun u _ => exec_build1 0 (.const (.int .u8 1)) rfl rfl u1.out⟩
    · exact ⟨42, rfl, fun u _ => exec_eqb (.tmp 40) (.tmp 41) rfl rfl rfl Q42.out nl1.out nl1.out⟩
  go_wp2_with fail
  go_ret
  exact ⟨rfl, t.out.k⟩
end Go.Proofs.Ytkflljjcgihaoaa
