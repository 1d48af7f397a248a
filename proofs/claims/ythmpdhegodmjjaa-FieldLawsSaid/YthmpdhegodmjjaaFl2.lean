/-
  Field's laws: sums and products in any order (FieldLaws).
-/
import Derived.Test.YthmpdhegodmjjaaFl1
namespace Go.Proofs.Ythmpdhegodmjjaa
open Go.RowKit Go.Mem Go.Txt

theorem sb_self (x : Nat) : sbM x x % PP = 0 := by
  unfold sbM
  have hp := PP_pos
  have hm := Nat.mod_lt x hp
  have hd := Nat.div_add_mod x PP
  rw [show x + (PP - x % PP) = PP * (1 + x / PP) from by rw [Nat.mul_add]; omega, Nat.mul_mod_right]

set_option maxRecDepth 100000 in
set_option maxHeartbeats 4000000 in
theorem laws_walk (a b c : List UInt8) (w : World) (ha : a.length = 32) (hb : b.length = 32) (hc : c.length = 32) :
    Calls Try.prog 8 #[ab a, ab b, ab c] w fun e w' => e = .returned (.bool true) ∧ Kept [] w w' := by
  obtain ⟨l0, hl0, z0, u0⟩ := lit_zero
  replace z0 := Lib.hid z0
  replace u0 := Lib.hid u0
  have iX := in_any a ha
  have iY := in_any b hb
  have iZ := in_any c hc
  have rX := in_rep a
  have rY := in_rep b
  have rZ := in_rep c
  generalize inF a = X, inF b = Y, inF c = Z, inV a = x, inV b = y, inV c = z at *
  have hl := Lib.hid (And.intro (show (bv a).length = 32 by simp [ha]) (And.intro (show (bv b).length = 32 by simp [hb]) (show (bv c).length = 32 by simp [hc])))
  clear ha hb hc
  have k0 : AdC X Y (adF X Y) := ad_c rX rY
  replace k0 := Lib.hid k0
  have k1 : HbC (adF X Y) := hb_c (Rep.ad rX rY)
  replace k1 := Lib.hid k1
  have k2 : AdC Y X (adF Y X) := ad_c rY rX
  replace k2 := Lib.hid k2
  have k3 : HbC (adF Y X) := hb_c (Rep.ad rY rX)
  replace k3 := Lib.hid k3
  have k4 : AdC (adF X Y) Z (adF (adF X Y) Z) := ad_c (Rep.ad rX rY) rZ
  replace k4 := Lib.hid k4
  have k5 : HbC (adF (adF X Y) Z) := hb_c (Rep.ad (Rep.ad rX rY) rZ)
  replace k5 := Lib.hid k5
  have k6 : AdC Y Z (adF Y Z) := ad_c rY rZ
  replace k6 := Lib.hid k6
  have k7 : AdC X (adF Y Z) (adF X (adF Y Z)) := ad_c rX (Rep.ad rY rZ)
  replace k7 := Lib.hid k7
  have k8 : HbC (adF X (adF Y Z)) := hb_c (Rep.ad rX (Rep.ad rY rZ))
  replace k8 := Lib.hid k8
  have k9 : MlC X Y (mlF X Y) := ml_c rX rY
  replace k9 := Lib.hid k9
  have k10 : HbC (mlF X Y) := hb_c (Rep.m rX rY)
  replace k10 := Lib.hid k10
  have k11 : MlC Y X (mlF Y X) := ml_c rY rX
  replace k11 := Lib.hid k11
  have k12 : HbC (mlF Y X) := hb_c (Rep.m rY rX)
  replace k12 := Lib.hid k12
  have k13 : MlC (mlF X Y) Z (mlF (mlF X Y) Z) := ml_c (Rep.m rX rY) rZ
  replace k13 := Lib.hid k13
  have k14 : HbC (mlF (mlF X Y) Z) := hb_c (Rep.m (Rep.m rX rY) rZ)
  replace k14 := Lib.hid k14
  have k15 : MlC Y Z (mlF Y Z) := ml_c rY rZ
  replace k15 := Lib.hid k15
  have k16 : MlC X (mlF Y Z) (mlF X (mlF Y Z)) := ml_c rX (Rep.m rY rZ)
  replace k16 := Lib.hid k16
  have k17 : HbC (mlF X (mlF Y Z)) := hb_c (Rep.m rX (Rep.m rY rZ))
  replace k17 := Lib.hid k17
  have k18 : MlC X (adF Y Z) (mlF X (adF Y Z)) := ml_c rX (Rep.ad rY rZ)
  replace k18 := Lib.hid k18
  have k19 : HbC (mlF X (adF Y Z)) := hb_c (Rep.m rX (Rep.ad rY rZ))
  replace k19 := Lib.hid k19
  have k20 : MlC X Z (mlF X Z) := ml_c rX rZ
  replace k20 := Lib.hid k20
  have k21 : AdC (mlF X Y) (mlF X Z) (adF (mlF X Y) (mlF X Z)) := ad_c (Rep.m rX rY) (Rep.m rX rZ)
  replace k21 := Lib.hid k21
  have k22 : HbC (adF (mlF X Y) (mlF X Z)) := hb_c (Rep.ad (Rep.m rX rY) (Rep.m rX rZ))
  replace k22 := Lib.hid k22
  have k23 : SuC X Y (suF X Y) := su_c rX rY
  replace k23 := Lib.hid k23
  have k24 : AdC (suF X Y) Y (adF (suF X Y) Y) := ad_c (Rep.su rX rY) rY
  replace k24 := Lib.hid k24
  have k25 : HbC (adF (suF X Y) Y) := hb_c (Rep.ad (Rep.su rX rY) rY)
  replace k25 := Lib.hid k25
  have k26 : HbC X := hb_c rX
  replace k26 := Lib.hid k26
  have k27 : SuC X X (suF X X) := su_c rX rX
  replace k27 := Lib.hid k27
  have k28 : HbC (suF X X) := hb_c (Rep.su rX rX)
  replace k28 := Lib.hid k28
  have k29 : ∀ W, Calls Try.prog 12 #[.int .u64 1] W fun e w' => e = .returned (el (smL 1)) ∧ Kept [] W w' := fun W => small_any 1 W (by omega)
  replace k29 := Lib.hid k29
  have k30 : MlC X (smL 1) (mlF X (smL 1)) := ml_c rX (Rep.small 1 (by omega))
  replace k30 := Lib.hid k30
  have k31 : HbC (mlF X (smL 1)) := hb_c (Rep.m rX (Rep.small 1 (by omega)))
  replace k31 := Lib.hid k31
  have Q26 : ((hb (adF X Y)) == (hb (adF Y X))) = true := hb_eq (Rep.ad rX rY) (Rep.ad rY rX) (congrArg (· % PP) (by grind))
  have q26 := eql_run Q26 (hb_len _) (hb_len _)
  replace Q26 := Lib.hid Q26
  have Q40 : ((hb (adF (adF X Y) Z)) == (hb (adF X (adF Y Z)))) = true := hb_eq (Rep.ad (Rep.ad rX rY) rZ) (Rep.ad rX (Rep.ad rY rZ)) (congrArg (· % PP) (by grind))
  have q40 := eql_run Q40 (hb_len _) (hb_len _)
  replace Q40 := Lib.hid Q40
  have Q51 : ((hb (mlF X Y)) == (hb (mlF Y X))) = true := hb_eq (Rep.m rX rY) (Rep.m rY rX) (congrArg (· % PP) (by grind))
  have q51 := eql_run Q51 (hb_len _) (hb_len _)
  replace Q51 := Lib.hid Q51
  have Q66 : ((hb (mlF (mlF X Y) Z)) == (hb (mlF X (mlF Y Z)))) = true := hb_eq (Rep.m (Rep.m rX rY) rZ) (Rep.m rX (Rep.m rY rZ)) (congrArg (· % PP) (by grind))
  have q66 := eql_run Q66 (hb_len _) (hb_len _)
  replace Q66 := Lib.hid Q66
  have Q83 : ((hb (mlF X (adF Y Z))) == (hb (adF (mlF X Y) (mlF X Z)))) = true := hb_eq (Rep.m rX (Rep.ad rY rZ)) (Rep.ad (Rep.m rX rY) (Rep.m rX rZ)) (congrArg (· % PP) (by grind))
  have q83 := eql_run Q83 (hb_len _) (hb_len _)
  replace Q83 := Lib.hid Q83
  have Q94 : ((hb (adF (suF X Y) Y)) == (hb X)) = true := hb_eq (Rep.ad (Rep.su rX rY) rY) rX (sb_add _ _)
  have q94 := eql_run Q94 (hb_len _) (hb_len _)
  replace Q94 := Lib.hid Q94
  have Q102 : ((hb (suF X X)) == l0) = true := (z0.out _ _ (Rep.su rX rX)).trans (decide_eq_true (sb_self _))
  have q102 := eql_run Q102 (hb_len _) hl0
  replace Q102 := Lib.hid Q102
  have Q111 : ((hb (mlF X (smL 1))) == (hb X)) = true := hb_eq (Rep.m rX (Rep.small 1 (by omega))) rX (by rw [Nat.mul_one])
  have q111 := eql_run Q111 (hb_len _) (hb_len _)
  replace Q111 := Lib.hid Q111
  replace iX := Lib.hid iX
  replace iY := Lib.hid iY
  replace iZ := Lib.hid iZ
  clear rX rY rZ
  go_enter Try.func8, Try.ntmps8
  go_wp2_with (first
    | ((with_reducible refine wpl_box (o := ⟨some 3, _, _, _, _, _⟩) (v := ab a) rfl (.tmp 0) rfl rfl ?_); intro g1 w1 m1)
    | ((with_reducible refine wpl_box (o := ⟨some 4, _, _, _, _, _⟩) (v := ab b) rfl (.tmp 1) rfl rfl ?_); intro g2 w2 m2)
    | ((with_reducible refine wpl_box (o := ⟨some 5, _, _, _, _, _⟩) (v := ab c) rfl (.tmp 2) rfl rfl ?_); intro g3 w3 m3)
    | (go_at_call 11; refine (first_true _).mono ?_; rintro e w5 ⟨rfl, kk4⟩))
  have t := Lib.hid (show Mm w [(g3, c), (g2, b), (g1, a)] [] [] w5 from ((((((Mm.none w).kept m1.kept).bcons m1.blk).kept m2.kept).bcons m2.blk).kept m3.kept |>.bcons m3.blk).kept kk4)
  clear m1 m2 m3 kk4
  refine wp_multi (by kernel_rfl) [.val (ab a), .val (el X), .val (ab b), .val (el Y), .val (ab c), .val (el Z), .new 27 (el nought), .new 27 (el nought), .new 27 (el nought), .put 6 1 (uv (fam 5 X)).toArray, .put 7 3 (uv (fam 5 Y)).toArray, .put 8 5 (uv (fam 5 Z)).toArray]
    (Mm w [(g3, c), (g2, b), (g1, a)] [] []) (by kernel_rfl) (by kernel_rfl) t.out.drew (fun u u' T hS hk hT => ?_) ?_ ?_
  · exact t.out.fresh u u' T hS hk hT
  · refine ⟨?_, ?_, ?_, ?_, ?_, ?_, ⟨⟨_, rfl⟩, rfl, zeroEl⟩, ⟨⟨_, rfl⟩, rfl, zeroEl⟩, ⟨⟨_, rfl⟩, rfl, zeroEl⟩, ?_, ?_, ?_, trivial⟩
    · refine ⟨⟨_, rfl⟩, fun a' u K0 R hS hr ho h => ?_⟩
      exact wp_loadr arrB.row (.tmp 3) rfl ((ho 3 (by decide)).trans rfl) (hS.b (g1, a) (by simp)) hl.out.1 (h u (Kept.refl _ _))
    · refine ⟨⟨_, rfl⟩, fun a' u K0 R hS hr ho h => ?_⟩
      refine wp_callf rfl enters_in (vs := #[ab a]) ?_ (iX.out u) h
      have := hr 0 (ab a) 12 _ rfl rfl rfl ⟨⟨0, .data⟩, by simp, rfl, rfl⟩
      simpa [Act.eval] using this
    · refine ⟨⟨_, rfl⟩, fun a' u K0 R hS hr ho h => ?_⟩
      exact wp_loadr arrB.row (.tmp 4) rfl ((ho 4 (by decide)).trans rfl) (hS.b (g2, b) (by simp)) hl.out.2.1 (h u (Kept.refl _ _))
    · refine ⟨⟨_, rfl⟩, fun a' u K0 R hS hr ho h => ?_⟩
      refine wp_callf rfl enters_in (vs := #[ab b]) ?_ (iY.out u) h
      have := hr 2 (ab b) 14 _ rfl rfl rfl ⟨⟨2, .data⟩, by simp, rfl, rfl⟩
      simpa [Act.eval] using this
    · refine ⟨⟨_, rfl⟩, fun a' u K0 R hS hr ho h => ?_⟩
      exact wp_loadr arrB.row (.tmp 5) rfl ((ho 5 (by decide)).trans rfl) (hS.b (g3, c) (by simp)) hl.out.2.2 (h u (Kept.refl _ _))
    · refine ⟨⟨_, rfl⟩, fun a' u K0 R hS hr ho h => ?_⟩
      refine wp_callf rfl enters_in (vs := #[ab c]) ?_ (iZ.out u) h
      have := hr 4 (ab c) 16 _ rfl rfl rfl ⟨⟨4, .data⟩, by simp, rfl, rfl⟩
      simpa [Act.eval] using this
    · exact ⟨rfl, ⟨⟨6, .data⟩, by simp, rfl, rfl⟩, ⟨⟨1, .data⟩, by simp, rfl, rfl⟩, _, _, _, _, _, _, _, _, rfl, rfl, rfl, rfl, rfl, rfl, rfl, structEl, rfl, rfl, one_el _⟩
    · exact ⟨rfl, ⟨⟨7, .data⟩, by simp, rfl, rfl⟩, ⟨⟨3, .data⟩, by simp, rfl, rfl⟩, _, _, _, _, _, _, _, _, rfl, rfl, rfl, rfl, rfl, rfl, rfl, structEl, rfl, rfl, one_el _⟩
    · exact ⟨rfl, ⟨⟨8, .data⟩, by simp, rfl, rfl⟩, ⟨⟨5, .data⟩, by simp, rfl, rfl⟩, _, _, _, _, _, _, _, _, rfl, rfl, rfl, rfl, rfl, rfl, rfl, structEl, rfl, rfl, one_el _⟩
  · intro γ w6 hS hγ hne hput
    have b7 := hput 9 6 1 _ _ _ rfl rfl
    have b8 := hput 10 7 3 _ _ _ rfl rfl
    have b9 := hput 11 8 5 _ _ _ rfl rfl
    generalize e7 : γ 6 = g7 at *
    generalize e8 : γ 7 = g8 at *
    generalize e9 : γ 8 = g9 at *
    simp [actOf, VK, List.range, List.range.loop, Act.put, e7, e8, e9]
    replace t := Lib.hid (show Mm w [(g3, c), (g2, b), (g1, a)] [(g7, X), (g8, Y), (g9, Z)] [] w6 from (((hS).econs b9).econs b8).econs b7)
    clear b7 b8 b9 hput hne hγ hS e7 e8 e9
    go_wp2_with fail
    refine Txt.wp_textG [0, 1, 4, 5, 8, 10, 11, 13, 16, 17, 18, 22, 25, 26, 29, 30, 33, 36, 37, 39, 42, 43, 44, 48, 51, 52, 53, 57, 58, 60, 61, 65, 68, 69, 71, 74, 76, 79, 80, 83, 84, 87, 91, 93] (Mm w [(g3, c), (g2, b), (g1, a)] [(g7, X), (g8, Y), (g9, Z)] []) [[_, _, _], [_], [_, _, _], [_], [_, _, _, _, _], [_, _], [_], [_, _, _, _], [_], [_], [_, _, _, _, _, _], [_], [_, _, _], [_], [_, _, _, _, _, _], [_, _], [_], [_, _, _, _], [_], [_], [_, _, _, _, _, _, _], [_], [_], [_, _, _], [_, _, _], [_], [_], [_, _, _, _, _, _], [_, _], [_], [_, _], [_, _, _, _, _, _], [_], [_], [_, _, _, _, _], [_], [_], [_, _], [_, _, _]] (by kernel_rfl) (by kernel_rfl) rfl t.out.drew (Txt.segs_cons ?_)
    replace t := Lib.hid t.out.drew
    go_wp2_with (first
      | (with_reducible refine wpl_load_row (o := ⟨some 18, _, _, _, _, _⟩) structEl rfl (.tmp 7) rfl rfl (t.out.e (g7, X) (by simp)) rfl ?_)
      | (with_reducible refine wpl_load_row (o := ⟨some 19, _, _, _, _, _⟩) structEl rfl (.tmp 8) rfl rfl (t.out.e (g8, Y) (by simp)) rfl ?_)
      | (go_at_call 13; (with_reducible refine (k0.out _).mono ?_); rintro e v ⟨rfl, kk⟩; have t := Lib.hid (t.out.kept kk); clear kk))
    refine ⟨rfl, t.out, Txt.segs_cons ?_⟩
    go_wp2_with (first
      | (go_at_call 14; (with_reducible refine (k1.out _).mono ?_); rintro e v ⟨rfl, kk⟩; have t := Lib.hid (t.out.kept kk); clear kk))
    refine ⟨rfl, t.out, Txt.segs_cons ?_⟩
    go_wp2_with (first
      | (with_reducible refine wpl_load_row (o := ⟨some 22, _, _, _, _, _⟩) structEl rfl (.tmp 8) rfl rfl (t.out.e (g8, Y) (by simp)) rfl ?_)
      | (with_reducible refine wpl_load_row (o := ⟨some 23, _, _, _, _, _⟩) structEl rfl (.tmp 7) rfl rfl (t.out.e (g7, X) (by simp)) rfl ?_)
      | (go_at_call 13; (with_reducible refine (k2.out _).mono ?_); rintro e v ⟨rfl, kk⟩; have t := Lib.hid (t.out.kept kk); clear kk))
    refine ⟨rfl, t.out, Txt.segs_cons ?_⟩
    go_wp2_with (first
      | (go_at_call 14; (with_reducible refine (k3.out _).mono ?_); rintro e v ⟨rfl, kk⟩; have t := Lib.hid (t.out.kept kk); clear kk))
    refine ⟨rfl, t.out, Txt.segs_cons ?_⟩
    go_wp2_with (first
      | (with_reducible refine wpl_load_row (o := ⟨some 28, _, _, _, _, _⟩) structEl rfl (.tmp 7) rfl rfl (t.out.e (g7, X) (by simp)) rfl ?_)
      | (with_reducible refine wpl_load_row (o := ⟨some 29, _, _, _, _, _⟩) structEl rfl (.tmp 8) rfl rfl (t.out.e (g8, Y) (by simp)) rfl ?_)
      | (go_at_call 13; (with_reducible refine (k0.out _).mono ?_); rintro e v ⟨rfl, kk⟩; have t := Lib.hid (t.out.kept kk); clear kk))
    refine ⟨rfl, t.out, Txt.segs_cons ?_⟩
    go_wp2_with (first
      | (with_reducible refine wpl_load_row (o := ⟨some 31, _, _, _, _, _⟩) structEl rfl (.tmp 9) rfl rfl (t.out.e (g9, Z) (by simp)) rfl ?_)
      | (go_at_call 13; (with_reducible refine (k4.out _).mono ?_); rintro e v ⟨rfl, kk⟩; have t := Lib.hid (t.out.kept kk); clear kk))
    refine ⟨rfl, t.out, Txt.segs_cons ?_⟩
    go_wp2_with (first
      | (go_at_call 14; (with_reducible refine (k5.out _).mono ?_); rintro e v ⟨rfl, kk⟩; have t := Lib.hid (t.out.kept kk); clear kk))
    refine ⟨rfl, t.out, Txt.segs_cons ?_⟩
    go_wp2_with (first
      | (with_reducible refine wpl_load_row (o := ⟨some 34, _, _, _, _, _⟩) structEl rfl (.tmp 7) rfl rfl (t.out.e (g7, X) (by simp)) rfl ?_)
      | (with_reducible refine wpl_load_row (o := ⟨some 35, _, _, _, _, _⟩) structEl rfl (.tmp 8) rfl rfl (t.out.e (g8, Y) (by simp)) rfl ?_)
      | (with_reducible refine wpl_load_row (o := ⟨some 36, _, _, _, _, _⟩) structEl rfl (.tmp 9) rfl rfl (t.out.e (g9, Z) (by simp)) rfl ?_)
      | (go_at_call 13; (with_reducible refine (k6.out _).mono ?_); rintro e v ⟨rfl, kk⟩; have t := Lib.hid (t.out.kept kk); clear kk))
    refine ⟨rfl, t.out, Txt.segs_cons ?_⟩
    go_wp2_with (first
      | (go_at_call 13; (with_reducible refine (k7.out _).mono ?_); rintro e v ⟨rfl, kk⟩; have t := Lib.hid (t.out.kept kk); clear kk))
    refine ⟨rfl, t.out, Txt.segs_cons ?_⟩
    go_wp2_with (first
      | (go_at_call 14; (with_reducible refine (k8.out _).mono ?_); rintro e v ⟨rfl, kk⟩; have t := Lib.hid (t.out.kept kk); clear kk))
    refine ⟨rfl, t.out, Txt.segs_cons ?_⟩
    go_wp2_with (first
      | (with_reducible refine wpl_load_row (o := ⟨some 43, _, _, _, _, _⟩) structEl rfl (.tmp 7) rfl rfl (t.out.e (g7, X) (by simp)) rfl ?_)
      | (with_reducible refine wpl_load_row (o := ⟨some 44, _, _, _, _, _⟩) structEl rfl (.tmp 8) rfl rfl (t.out.e (g8, Y) (by simp)) rfl ?_)
      | (go_at_call 15; (with_reducible refine (k9.out _).mono ?_); rintro e v ⟨rfl, kk⟩; have t := Lib.hid (t.out.kept kk); clear kk))
    refine ⟨rfl, t.out, Txt.segs_cons ?_⟩
    go_wp2_with (first
      | (go_at_call 14; (with_reducible refine (k10.out _).mono ?_); rintro e v ⟨rfl, kk⟩; have t := Lib.hid (t.out.kept kk); clear kk))
    refine ⟨rfl, t.out, Txt.segs_cons ?_⟩
    go_wp2_with (first
      | (with_reducible refine wpl_load_row (o := ⟨some 47, _, _, _, _, _⟩) structEl rfl (.tmp 8) rfl rfl (t.out.e (g8, Y) (by simp)) rfl ?_)
      | (with_reducible refine wpl_load_row (o := ⟨some 48, _, _, _, _, _⟩) structEl rfl (.tmp 7) rfl rfl (t.out.e (g7, X) (by simp)) rfl ?_)
      | (go_at_call 15; (with_reducible refine (k11.out _).mono ?_); rintro e v ⟨rfl, kk⟩; have t := Lib.hid (t.out.kept kk); clear kk))
    refine ⟨rfl, t.out, Txt.segs_cons ?_⟩
    go_wp2_with (first
      | (go_at_call 14; (with_reducible refine (k12.out _).mono ?_); rintro e v ⟨rfl, kk⟩; have t := Lib.hid (t.out.kept kk); clear kk))
    refine ⟨rfl, t.out, Txt.segs_cons ?_⟩
    go_wp2_with (first
      | (with_reducible refine wpl_load_row (o := ⟨some 54, _, _, _, _, _⟩) structEl rfl (.tmp 7) rfl rfl (t.out.e (g7, X) (by simp)) rfl ?_)
      | (with_reducible refine wpl_load_row (o := ⟨some 55, _, _, _, _, _⟩) structEl rfl (.tmp 8) rfl rfl (t.out.e (g8, Y) (by simp)) rfl ?_)
      | (go_at_call 15; (with_reducible refine (k9.out _).mono ?_); rintro e v ⟨rfl, kk⟩; have t := Lib.hid (t.out.kept kk); clear kk))
    refine ⟨rfl, t.out, Txt.segs_cons ?_⟩
    go_wp2_with (first
      | (with_reducible refine wpl_load_row (o := ⟨some 57, _, _, _, _, _⟩) structEl rfl (.tmp 9) rfl rfl (t.out.e (g9, Z) (by simp)) rfl ?_)
      | (go_at_call 15; (with_reducible refine (k13.out _).mono ?_); rintro e v ⟨rfl, kk⟩; have t := Lib.hid (t.out.kept kk); clear kk))
    refine ⟨rfl, t.out, Txt.segs_cons ?_⟩
    go_wp2_with (first
      | (go_at_call 14; (with_reducible refine (k14.out _).mono ?_); rintro e v ⟨rfl, kk⟩; have t := Lib.hid (t.out.kept kk); clear kk))
    refine ⟨rfl, t.out, Txt.segs_cons ?_⟩
    go_wp2_with (first
      | (with_reducible refine wpl_load_row (o := ⟨some 60, _, _, _, _, _⟩) structEl rfl (.tmp 7) rfl rfl (t.out.e (g7, X) (by simp)) rfl ?_)
      | (with_reducible refine wpl_load_row (o := ⟨some 61, _, _, _, _, _⟩) structEl rfl (.tmp 8) rfl rfl (t.out.e (g8, Y) (by simp)) rfl ?_)
      | (with_reducible refine wpl_load_row (o := ⟨some 62, _, _, _, _, _⟩) structEl rfl (.tmp 9) rfl rfl (t.out.e (g9, Z) (by simp)) rfl ?_)
      | (go_at_call 15; (with_reducible refine (k15.out _).mono ?_); rintro e v ⟨rfl, kk⟩; have t := Lib.hid (t.out.kept kk); clear kk))
    refine ⟨rfl, t.out, Txt.segs_cons ?_⟩
    go_wp2_with (first
      | (go_at_call 15; (with_reducible refine (k16.out _).mono ?_); rintro e v ⟨rfl, kk⟩; have t := Lib.hid (t.out.kept kk); clear kk))
    refine ⟨rfl, t.out, Txt.segs_cons ?_⟩
    go_wp2_with (first
      | (go_at_call 14; (with_reducible refine (k17.out _).mono ?_); rintro e v ⟨rfl, kk⟩; have t := Lib.hid (t.out.kept kk); clear kk))
    refine ⟨rfl, t.out, Txt.segs_cons ?_⟩
    go_wp2_with (first
      | (with_reducible refine wpl_load_row (o := ⟨some 69, _, _, _, _, _⟩) structEl rfl (.tmp 7) rfl rfl (t.out.e (g7, X) (by simp)) rfl ?_)
      | (with_reducible refine wpl_load_row (o := ⟨some 70, _, _, _, _, _⟩) structEl rfl (.tmp 8) rfl rfl (t.out.e (g8, Y) (by simp)) rfl ?_)
      | (with_reducible refine wpl_load_row (o := ⟨some 71, _, _, _, _, _⟩) structEl rfl (.tmp 9) rfl rfl (t.out.e (g9, Z) (by simp)) rfl ?_)
      | (go_at_call 13; (with_reducible refine (k6.out _).mono ?_); rintro e v ⟨rfl, kk⟩; have t := Lib.hid (t.out.kept kk); clear kk))
    refine ⟨rfl, t.out, Txt.segs_cons ?_⟩
    go_wp2_with (first
      | (go_at_call 15; (with_reducible refine (k18.out _).mono ?_); rintro e v ⟨rfl, kk⟩; have t := Lib.hid (t.out.kept kk); clear kk))
    refine ⟨rfl, t.out, Txt.segs_cons ?_⟩
    go_wp2_with (first
      | (go_at_call 14; (with_reducible refine (k19.out _).mono ?_); rintro e v ⟨rfl, kk⟩; have t := Lib.hid (t.out.kept kk); clear kk))
    refine ⟨rfl, t.out, Txt.segs_cons ?_⟩
    go_wp2_with (first
      | (with_reducible refine wpl_load_row (o := ⟨some 75, _, _, _, _, _⟩) structEl rfl (.tmp 7) rfl rfl (t.out.e (g7, X) (by simp)) rfl ?_)
      | (with_reducible refine wpl_load_row (o := ⟨some 76, _, _, _, _, _⟩) structEl rfl (.tmp 8) rfl rfl (t.out.e (g8, Y) (by simp)) rfl ?_)
      | (go_at_call 15; (with_reducible refine (k9.out _).mono ?_); rintro e v ⟨rfl, kk⟩; have t := Lib.hid (t.out.kept kk); clear kk))
    refine ⟨rfl, t.out, Txt.segs_cons ?_⟩
    go_wp2_with (first
      | (with_reducible refine wpl_load_row (o := ⟨some 78, _, _, _, _, _⟩) structEl rfl (.tmp 7) rfl rfl (t.out.e (g7, X) (by simp)) rfl ?_)
      | (with_reducible refine wpl_load_row (o := ⟨some 79, _, _, _, _, _⟩) structEl rfl (.tmp 9) rfl rfl (t.out.e (g9, Z) (by simp)) rfl ?_)
      | (go_at_call 15; (with_reducible refine (k20.out _).mono ?_); rintro e v ⟨rfl, kk⟩; have t := Lib.hid (t.out.kept kk); clear kk))
    refine ⟨rfl, t.out, Txt.segs_cons ?_⟩
    go_wp2_with (first
      | (go_at_call 13; (with_reducible refine (k21.out _).mono ?_); rintro e v ⟨rfl, kk⟩; have t := Lib.hid (t.out.kept kk); clear kk))
    refine ⟨rfl, t.out, Txt.segs_cons ?_⟩
    go_wp2_with (first
      | (go_at_call 14; (with_reducible refine (k22.out _).mono ?_); rintro e v ⟨rfl, kk⟩; have t := Lib.hid (t.out.kept kk); clear kk))
    refine ⟨rfl, t.out, Txt.segs_cons ?_⟩
    go_wp2_with (first
      | (with_reducible refine wpl_load_row (o := ⟨some 86, _, _, _, _, _⟩) structEl rfl (.tmp 7) rfl rfl (t.out.e (g7, X) (by simp)) rfl ?_)
      | (with_reducible refine wpl_load_row (o := ⟨some 87, _, _, _, _, _⟩) structEl rfl (.tmp 8) rfl rfl (t.out.e (g8, Y) (by simp)) rfl ?_)
      | (go_at_call 16; (with_reducible refine (k23.out _).mono ?_); rintro e v ⟨rfl, kk⟩; have t := Lib.hid (t.out.kept kk); clear kk))
    refine ⟨rfl, t.out, Txt.segs_cons ?_⟩
    go_wp2_with (first
      | (with_reducible refine wpl_load_row (o := ⟨some 89, _, _, _, _, _⟩) structEl rfl (.tmp 8) rfl rfl (t.out.e (g8, Y) (by simp)) rfl ?_)
      | (go_at_call 13; (with_reducible refine (k24.out _).mono ?_); rintro e v ⟨rfl, kk⟩; have t := Lib.hid (t.out.kept kk); clear kk))
    refine ⟨rfl, t.out, Txt.segs_cons ?_⟩
    go_wp2_with (first
      | (go_at_call 14; (with_reducible refine (k25.out _).mono ?_); rintro e v ⟨rfl, kk⟩; have t := Lib.hid (t.out.kept kk); clear kk))
    refine ⟨rfl, t.out, Txt.segs_cons ?_⟩
    go_wp2_with (first
      | (with_reducible refine wpl_load_row (o := ⟨some 92, _, _, _, _, _⟩) structEl rfl (.tmp 7) rfl rfl (t.out.e (g7, X) (by simp)) rfl ?_)
      | (go_at_call 14; (with_reducible refine (k26.out _).mono ?_); rintro e v ⟨rfl, kk⟩; have t := Lib.hid (t.out.kept kk); clear kk))
    refine ⟨rfl, t.out, Txt.segs_cons ?_⟩
    go_wp2_with (first
      | (with_reducible refine wpl_load_row (o := ⟨some 97, _, _, _, _, _⟩) structEl rfl (.tmp 7) rfl rfl (t.out.e (g7, X) (by simp)) rfl ?_)
      | (with_reducible refine wpl_load_row (o := ⟨some 98, _, _, _, _, _⟩) structEl rfl (.tmp 7) rfl rfl (t.out.e (g7, X) (by simp)) rfl ?_)
      | (go_at_call 16; (with_reducible refine (k27.out _).mono ?_); rintro e v ⟨rfl, kk⟩; have t := Lib.hid (t.out.kept kk); clear kk))
    refine ⟨rfl, t.out, Txt.segs_cons ?_⟩
    go_wp2_with (first
      | (go_at_call 14; (with_reducible refine (k28.out _).mono ?_); rintro e v ⟨rfl, kk⟩; have t := Lib.hid (t.out.kept kk); clear kk))
    refine ⟨rfl, t.out, Txt.segs_cons ?_⟩
    go_wp2_with (first
      | (with_reducible refine wpl_build0 (o := ⟨some 101, _, _, _, _, _⟩) rfl rfl u0.out ?_))
    refine ⟨rfl, t.out, Txt.segs_cons ?_⟩
    go_wp2_with (first
      | (with_reducible refine wpl_load_row (o := ⟨some 105, _, _, _, _, _⟩) structEl rfl (.tmp 7) rfl rfl (t.out.e (g7, X) (by simp)) rfl ?_)
      | (go_at_call 12; (with_reducible refine (k29.out _).mono ?_); rintro e v ⟨rfl, kk⟩; have t := Lib.hid (t.out.kept kk); clear kk))
    refine ⟨rfl, t.out, Txt.segs_cons ?_⟩
    go_wp2_with (first
      | (go_at_call 15; (with_reducible refine (k30.out _).mono ?_); rintro e v ⟨rfl, kk⟩; have t := Lib.hid (t.out.kept kk); clear kk))
    refine ⟨rfl, t.out, Txt.segs_cons ?_⟩
    go_wp2_with (first
      | (go_at_call 14; (with_reducible refine (k31.out _).mono ?_); rintro e v ⟨rfl, kk⟩; have t := Lib.hid (t.out.kept kk); clear kk))
    refine ⟨rfl, t.out, Txt.segs_cons ?_⟩
    go_wp2_with (first
      | (with_reducible refine wpl_load_row (o := ⟨some 109, _, _, _, _, _⟩) structEl rfl (.tmp 7) rfl rfl (t.out.e (g7, X) (by simp)) rfl ?_)
      | (go_at_call 14; (with_reducible refine (k26.out _).mono ?_); rintro e v ⟨rfl, kk⟩; have t := Lib.hid (t.out.kept kk); clear kk))
    refine ⟨rfl, t.out, Txt.segs_cons ?_⟩
    go_wp2_with fail
    refine ⟨rfl, t.out, Txt.segs_nil ⟨⟨by kernel_rfl, ?_⟩, ?_⟩⟩
    · intro j hj o ho hw
      have hj2 : j = 0 ∨ j = 1 ∨ j = 4 ∨ j = 5 ∨ j = 8 ∨ j = 10 ∨ j = 11 ∨ j = 13 ∨ j = 16 ∨ j = 17 ∨ j = 18 ∨ j = 22 ∨ j = 25 ∨ j = 26 ∨ j = 29 ∨ j = 30 ∨ j = 33 ∨ j = 36 ∨ j = 37 ∨ j = 39 ∨ j = 42 ∨ j = 43 ∨ j = 44 ∨ j = 48 ∨ j = 51 ∨ j = 52 ∨ j = 53 ∨ j = 57 ∨ j = 58 ∨ j = 60 ∨ j = 61 ∨ j = 65 ∨ j = 68 ∨ j = 69 ∨ j = 71 ∨ j = 74 ∨ j = 76 ∨ j = 79 ∨ j = 80 ∨ j = 83 ∨ j = 84 ∨ j = 87 ∨ j = 91 ∨ j = 93 := by simpa using hj
      rcases hj2 with rfl | rfl | rfl | rfl | rfl | rfl | rfl | rfl | rfl | rfl | rfl | rfl | rfl | rfl | rfl | rfl | rfl | rfl | rfl | rfl | rfl | rfl | rfl | rfl | rfl | rfl | rfl | rfl | rfl | rfl | rfl | rfl | rfl | rfl | rfl | rfl | rfl | rfl | rfl | rfl | rfl | rfl | rfl | rfl <;> cases ho
      · exact ⟨18, rfl, fun u hu => exec_load structEl (.tmp 7) rfl rfl (hu.e (g7, X) (by simp)) rfl⟩
      · exact ⟨19, rfl, fun u hu => exec_load structEl (.tmp 8) rfl rfl (hu.e (g8, Y) (by simp)) rfl⟩
      · exact ⟨22, rfl, fun u hu => exec_load structEl (.tmp 8) rfl rfl (hu.e (g8, Y) (by simp)) rfl⟩
      · exact ⟨23, rfl, fun u hu => exec_load structEl (.tmp 7) rfl rfl (hu.e (g7, X) (by simp)) rfl⟩
      · exact ⟨26, rfl, fun u _ => exec_eqb (.tmp 21) (.tmp 25) rfl rfl rfl Q26.out (hb_len _) (hb_len _)⟩
      · exact ⟨28, rfl, fun u hu => exec_load structEl (.tmp 7) rfl rfl (hu.e (g7, X) (by simp)) rfl⟩
      · exact ⟨29, rfl, fun u hu => exec_load structEl (.tmp 8) rfl rfl (hu.e (g8, Y) (by simp)) rfl⟩
      · exact ⟨31, rfl, fun u hu => exec_load structEl (.tmp 9) rfl rfl (hu.e (g9, Z) (by simp)) rfl⟩
      · exact ⟨34, rfl, fun u hu => exec_load structEl (.tmp 7) rfl rfl (hu.e (g7, X) (by simp)) rfl⟩
      · exact ⟨35, rfl, fun u hu => exec_load structEl (.tmp 8) rfl rfl (hu.e (g8, Y) (by simp)) rfl⟩
      · exact ⟨36, rfl, fun u hu => exec_load structEl (.tmp 9) rfl rfl (hu.e (g9, Z) (by simp)) rfl⟩
      · exact ⟨40, rfl, fun u _ => exec_eqb (.tmp 33) (.tmp 39) rfl rfl rfl Q40.out (hb_len _) (hb_len _)⟩
      · exact ⟨43, rfl, fun u hu => exec_load structEl (.tmp 7) rfl rfl (hu.e (g7, X) (by simp)) rfl⟩
      · exact ⟨44, rfl, fun u hu => exec_load structEl (.tmp 8) rfl rfl (hu.e (g8, Y) (by simp)) rfl⟩
      · exact ⟨47, rfl, fun u hu => exec_load structEl (.tmp 8) rfl rfl (hu.e (g8, Y) (by simp)) rfl⟩
      · exact ⟨48, rfl, fun u hu => exec_load structEl (.tmp 7) rfl rfl (hu.e (g7, X) (by simp)) rfl⟩
      · exact ⟨51, rfl, fun u _ => exec_eqb (.tmp 46) (.tmp 50) rfl rfl rfl Q51.out (hb_len _) (hb_len _)⟩
      · exact ⟨54, rfl, fun u hu => exec_load structEl (.tmp 7) rfl rfl (hu.e (g7, X) (by simp)) rfl⟩
      · exact ⟨55, rfl, fun u hu => exec_load structEl (.tmp 8) rfl rfl (hu.e (g8, Y) (by simp)) rfl⟩
      · exact ⟨57, rfl, fun u hu => exec_load structEl (.tmp 9) rfl rfl (hu.e (g9, Z) (by simp)) rfl⟩
      · exact ⟨60, rfl, fun u hu => exec_load structEl (.tmp 7) rfl rfl (hu.e (g7, X) (by simp)) rfl⟩
      · exact ⟨61, rfl, fun u hu => exec_load structEl (.tmp 8) rfl rfl (hu.e (g8, Y) (by simp)) rfl⟩
      · exact ⟨62, rfl, fun u hu => exec_load structEl (.tmp 9) rfl rfl (hu.e (g9, Z) (by simp)) rfl⟩
      · exact ⟨66, rfl, fun u _ => exec_eqb (.tmp 59) (.tmp 65) rfl rfl rfl Q66.out (hb_len _) (hb_len _)⟩
      · exact ⟨69, rfl, fun u hu => exec_load structEl (.tmp 7) rfl rfl (hu.e (g7, X) (by simp)) rfl⟩
      · exact ⟨70, rfl, fun u hu => exec_load structEl (.tmp 8) rfl rfl (hu.e (g8, Y) (by simp)) rfl⟩
      · exact ⟨71, rfl, fun u hu => exec_load structEl (.tmp 9) rfl rfl (hu.e (g9, Z) (by simp)) rfl⟩
      · exact ⟨75, rfl, fun u hu => exec_load structEl (.tmp 7) rfl rfl (hu.e (g7, X) (by simp)) rfl⟩
      · exact ⟨76, rfl, fun u hu => exec_load structEl (.tmp 8) rfl rfl (hu.e (g8, Y) (by simp)) rfl⟩
      · exact ⟨78, rfl, fun u hu => exec_load structEl (.tmp 7) rfl rfl (hu.e (g7, X) (by simp)) rfl⟩
      · exact ⟨79, rfl, fun u hu => exec_load structEl (.tmp 9) rfl rfl (hu.e (g9, Z) (by simp)) rfl⟩
      · exact ⟨83, rfl, fun u _ => exec_eqb (.tmp 74) (.tmp 82) rfl rfl rfl Q83.out (hb_len _) (hb_len _)⟩
      · exact ⟨86, rfl, fun u hu => exec_load structEl (.tmp 7) rfl rfl (hu.e (g7, X) (by simp)) rfl⟩
      · exact ⟨87, rfl, fun u hu => exec_load structEl (.tmp 8) rfl rfl (hu.e (g8, Y) (by simp)) rfl⟩
      · exact ⟨89, rfl, fun u hu => exec_load structEl (.tmp 8) rfl rfl (hu.e (g8, Y) (by simp)) rfl⟩
      · exact ⟨92, rfl, fun u hu => exec_load structEl (.tmp 7) rfl rfl (hu.e (g7, X) (by simp)) rfl⟩
      · exact ⟨94, rfl, fun u _ => exec_eqb (.tmp 91) (.tmp 93) rfl rfl rfl Q94.out (hb_len _) (hb_len _)⟩
      · exact ⟨97, rfl, fun u hu => exec_load structEl (.tmp 7) rfl rfl (hu.e (g7, X) (by simp)) rfl⟩
      · exact ⟨98, rfl, fun u hu => exec_load structEl (.tmp 7) rfl rfl (hu.e (g7, X) (by simp)) rfl⟩
      · exact ⟨101, rfl, fun u _ => exec_build0 rfl u0.out⟩
      · exact ⟨102, rfl, fun u _ => exec_eqb (.tmp 100) (.tmp 101) rfl rfl rfl Q102.out (hb_len _) hl0⟩
      · exact ⟨105, rfl, fun u hu => exec_load structEl (.tmp 7) rfl rfl (hu.e (g7, X) (by simp)) rfl⟩
      · exact ⟨109, rfl, fun u hu => exec_load structEl (.tmp 7) rfl rfl (hu.e (g7, X) (by simp)) rfl⟩
      · exact ⟨111, rfl, fun u _ => exec_eqb (.tmp 108) (.tmp 110) rfl rfl rfl Q111.out (hb_len _) (hb_len _)⟩
    go_wp2_with fail
    go_ret
    exact ⟨rfl, t.out.k⟩
end Go.Proofs.Ythmpdhegodmjjaa
