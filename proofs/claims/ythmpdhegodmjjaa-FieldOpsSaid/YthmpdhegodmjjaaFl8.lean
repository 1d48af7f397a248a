/-
  Field's laws: sums, differences, products are the document's (FieldOps).
-/
import Derived.Test.YthmpdhegodmjjaaRf11
namespace Go.Proofs.Ythmpdhegodmjjaa
open Go.RowKit Go.Mem Go.Txt

theorem enters_load (xs : Array Value) (w : World) : (callFunc 25 xs).run Try.prog w = .ok (.enter 25 xs) w := enters_of (c := _) Try.func25 (by kernel_rfl) rfl xs w
theorem dv_sn (a b : Nat → Int) (n : Nat) : dv (sN a b) n = dv a n - dv b n := dv_sub a b n
theorem aN_sm {a b : Nat → Int} (ha : Sm 65535 a) (hb : Sm 65535 b) : Sm 131070 (aN a b) := fun i hi => by have := ha i hi; have := hb i hi; unfold aN; omega
theorem sN_sm {a b : Nat → Int} (ha : Sm 65535 a) (hb : Sm 65535 b) : Sm 131070 (sN a b) := fun i hi => by have := ha i hi; have := hb i hi; unfold sN; omega
theorem val_sub (U V : Nat) : ((U : Int) - (V : Int)) % PZ = (((sbM U V % PP : Nat)) : Int) := by
  have h := sb_add U V
  have e : ((sbM U V + V : Nat) : Int) % PZ = (U : Int) % PZ := by rw [PZ_eq, ← Int.natCast_emod, ← Int.natCast_emod, h]
  rw [Int.sub_emod, ← e, ← Int.sub_emod, Int.natCast_add, Int.add_sub_cancel, PZ_eq, Int.natCast_emod]
theorem odd_byte (y : Nat) (od : Bool) (h : od = decide (y % 2 = 1)) : ((((y % 256 : Nat) : Int) % 2 == 1)) = od := by
  rw [h, Bool.eq_iff_iff]
  simp only [beq_iff_eq, decide_eq_true_eq]
  omega

set_option maxRecDepth 100000 in
set_option maxHeartbeats 3200000 in
theorem ops_walk (a b : List UInt8) (w : World) (ha : a.length = 32) (hbl : b.length = 32) :
    Calls Try.prog 7 #[ab a, ab b] w fun e w' => e = .returned (.bool true) ∧ Kept [] w w' := by
  have iX := Lib.hid (in_any a ha)
  have iY := Lib.hid (in_any b hbl)
  have rX := in_rep a
  have rY := in_rep b
  have hD := dr_dgN (leV a % T255) (Nat.lt_trans (Nat.mod_lt _ (by decide +kernel)) (by decide +kernel))
  have hE := dr_dgN (leV b % T255) (Nat.lt_trans (Nat.mod_lt _ (by decide +kernel)) (by decide +kernel))
  have cD := Lib.hid (load_any a ha)
  have cE := Lib.hid (load_any b hbl)
  have sD := dgN_sm (leV a % T255)
  have sE := dgN_sm (leV b % T255)
  have cAd := Lib.hid (fun W => radd_any (dgN (leV a % T255)) (dgN (leV b % T255)) hD.sm hE.sm W)
  have cSb := Lib.hid (fun W => rsub_any (dgN (leV a % T255)) (dgN (leV b % T255)) hD.sm hE.sm W)
  have cMl := Lib.hid (show RmC (dgN (leV a % T255)) (dgN (leV b % T255)) (muN (dgN (leV a % T255)) (dgN (leV b % T255))) from fun W => rmul_any _ _ hD.sm hE.sm W)
  obtain ⟨U, hU⟩ : ∃ U, U = leV a % T255 := ⟨_, rfl⟩
  obtain ⟨V, hV⟩ : ∃ V, V = leV b % T255 := ⟨_, rfl⟩
  obtain ⟨ya, hya0⟩ : ∃ y, y = (U + V) % PP := ⟨_, rfl⟩
  obtain ⟨yb, hyb0⟩ : ∃ y, y = sbM U V % PP := ⟨_, rfl⟩
  obtain ⟨ym, hym0⟩ : ∃ y, y = U * V % PP := ⟨_, rfl⟩
  obtain ⟨yd, hyd0⟩ : ∃ y, y = U % PP := ⟨_, rfl⟩
  have hx : inV a = U % PP := by rw [hU]; rfl
  have hy : inV b = V % PP := by rw [hV]; rfl
  have dD := load_dv a
  have dE := load_dv b
  rw [← hU] at hD cD sD cAd cSb cMl dD
  rw [← hV] at hE cE sE cAd cSb cMl dE
  have cPya := Lib.hid (pack_le (aN (dgN U) (dgN V)) ((aN_sm sD sE).le (by omega)) (U + V) ya (by rw [dv_add, dD, dE]; rfl) hya0.symm)
  have cPyb := Lib.hid (pack_le (sN (dgN U) (dgN V)) ((sN_sm sD sE).le (by omega)) (sbM U V) yb (by rw [dv_sn, dD, dE, val_sub, PZ_eq]; rfl) hyb0.symm)
  have cPym := Lib.hid (dr_pk (hD.mu hE) hym0.symm)
  have cPyd := Lib.hid (dr_pk hD hyd0.symm)
  have hya := Lib.hid (show (inV a + inV b) % PP = ya from by rw [hya0, hx, hy]; exact (Nat.add_mod _ _ _).symm)
  have hyb := Lib.hid (show sbM (inV a) (inV b) % PP = yb from by
    rw [hyb0, hx, hy]
    unfold sbM
    rw [Nat.mod_mod, Nat.add_mod, Nat.mod_mod, ← Nat.add_mod])
  have hym := Lib.hid (show inV a * inV b % PP = ym from by rw [hym0, hx, hy]; exact (Nat.mul_mod _ _ _).symm)
  have hodd := odd_c rX
  obtain ⟨od, hod⟩ : ∃ o, o = decide (yd % 2 = 1) := ⟨_, rfl⟩
  rw [show inV a % PP = yd from by rw [hyd0, hx, Nat.mod_mod], ← hod] at hodd
  have cOd := Lib.hid hodd
  have hob := odd_byte yd od hod
  obtain ⟨b0, hb0⟩ : ∃ b, b = yd % 256 := ⟨_, rfl⟩
  have hix : ∀ W, (Instr.index 29 (ab (le yd 32)) (.int .i64 0)).run Try.prog W = .ok (.int .u8 ((b0 : Nat) : Int)) W := fun W => by
    have := run_index_arr arrB Try.underlying5 rfl (by kernel_rfl) .i64 0 (by omega) (byte0 yd) W
    rw [← hb0] at this
    exact this
  have hlb : b0 < 256 := by omega
  rw [← hb0] at hob
  clear sD sE dD dE hb0 hya0 hyb0 hym0 hyd0 hx hy hodd hod hU hV
  generalize dgN U = D at *
  generalize dgN V = E at *
  clear hD hE
  generalize inF a = X, inF b = Y, inV a = x, inV b = y at *
  have hl := Lib.hid (And.intro (show (bv a).length = 32 by simp [ha]) (show (bv b).length = 32 by simp [hbl]))
  clear ha hbl
  have k0 : AdC X Y (adF X Y) := ad_c rX rY
  replace k0 := Lib.hid k0
  have k1 : HbC (adF X Y) := hb_c (Rep.ad rX rY)
  replace k1 := Lib.hid k1
  have k2 : ∀ W, Calls Try.prog 28 #[nu D, nu E] W fun e w' => e = .returned (nu (aN D E)) ∧ Kept [] W w' := cAd.out
  replace k2 := Lib.hid k2
  have k3 : PkC (aN D E) ya := cPya.out
  replace k3 := Lib.hid k3
  have k4 : SuC X Y (suF X Y) := su_c rX rY
  replace k4 := Lib.hid k4
  have k5 : HbC (suF X Y) := hb_c (Rep.su rX rY)
  replace k5 := Lib.hid k5
  have k6 : ∀ W, Calls Try.prog 29 #[nu D, nu E] W fun e w' => e = .returned (nu (sN D E)) ∧ Kept [] W w' := cSb.out
  replace k6 := Lib.hid k6
  have k7 : PkC (sN D E) yb := cPyb.out
  replace k7 := Lib.hid k7
  have k8 : MlC X Y (mlF X Y) := ml_c rX rY
  replace k8 := Lib.hid k8
  have k9 : HbC (mlF X Y) := hb_c (Rep.m rX rY)
  replace k9 := Lib.hid k9
  have k10 : RmC D E (muN D E) := cMl.out
  replace k10 := Lib.hid k10
  have k11 : PkC (muN D E) ym := cPym.out
  replace k11 := Lib.hid k11
  have k12 : OdC X od := cOd.out
  replace k12 := Lib.hid k12
  have k13 : PkC D yd := cPyd.out
  replace k13 := Lib.hid k13
  have Q27 : ((hb (adF X Y)) == (le ya 32)) = true := hb_le_eq (Rep.ad rX rY) hya.out
  have q27 := eql_run Q27 (hb_len _) (le_len _ _)
  replace Q27 := Lib.hid Q27
  have Q37 : ((hb (suF X Y)) == (le yb 32)) = true := hb_le_eq (Rep.su rX rY) hyb.out
  have q37 := eql_run Q37 (hb_len _) (le_len _ _)
  replace Q37 := Lib.hid Q37
  have Q48 : ((hb (mlF X Y)) == (le ym 32)) = true := hb_le_eq (Rep.m rX rY) hym.out
  have q48 := eql_run Q48 (hb_len _) (le_len _ _)
  replace Q48 := Lib.hid Q48
  clear rX rY
  go_enter Try.func7, Try.ntmps7
  go_wp2_with (first
    | ((with_reducible refine wpl_box (o := ⟨some 2, _, _, _, _, _⟩) (v := ab a) rfl (.tmp 0) rfl rfl ?_); intro g2 w1 m1)
    | ((with_reducible refine wpl_box (o := ⟨some 3, _, _, _, _, _⟩) (v := ab b) rfl (.tmp 1) rfl rfl ?_); intro g3 w2 m2)
    | (go_at_call 11; refine (first_true _).mono ?_; rintro e w5 ⟨rfl, kk4⟩))
  have t := Lib.hid (show Mm w [(g3, b), (g2, a)] [] [] w5 from ((((Mm.none w).kept m1.kept).bcons m1.blk).kept m2.kept |>.bcons m2.blk).kept kk4)
  clear m1 m2 kk4
  refine wp_multi (by kernel_rfl) [.val (ab a), .val (el X), .val (ab b), .val (el Y), .new 27 (el nought), .new 27 (el nought), .put 4 1 (uv (fam 5 X)).toArray, .put 5 3 (uv (fam 5 Y)).toArray]
    (Mm w [(g3, b), (g2, a)] [] []) (by kernel_rfl) (by kernel_rfl) t.out.drew (fun u u' T hS hk hT => ?_) ?_ ?_
  · exact t.out.fresh u u' T hS hk hT
  · refine ⟨?_, ?_, ?_, ?_, ⟨⟨_, rfl⟩, rfl, zeroEl⟩, ⟨⟨_, rfl⟩, rfl, zeroEl⟩, ?_, ?_, trivial⟩
    · refine ⟨⟨_, rfl⟩, fun a' u K0 R hS hr ho h => ?_⟩
      exact wp_loadr arrB.row (.tmp 2) rfl ((ho 2 (by decide)).trans rfl) (hS.b (g2, a) (by simp)) hl.out.1 (h u (Kept.refl _ _))
    · refine ⟨⟨_, rfl⟩, fun a' u K0 R hS hr ho h => ?_⟩
      refine wp_callf rfl enters_in (vs := #[ab a]) ?_ (iX.out u) h
      have := hr 0 (ab a) 11 _ rfl rfl rfl ⟨⟨0, .data⟩, by simp, rfl, rfl⟩
      simpa [Act.eval] using this
    · refine ⟨⟨_, rfl⟩, fun a' u K0 R hS hr ho h => ?_⟩
      exact wp_loadr arrB.row (.tmp 3) rfl ((ho 3 (by decide)).trans rfl) (hS.b (g3, b) (by simp)) hl.out.2 (h u (Kept.refl _ _))
    · refine ⟨⟨_, rfl⟩, fun a' u K0 R hS hr ho h => ?_⟩
      refine wp_callf rfl enters_in (vs := #[ab b]) ?_ (iY.out u) h
      have := hr 2 (ab b) 13 _ rfl rfl rfl ⟨⟨2, .data⟩, by simp, rfl, rfl⟩
      simpa [Act.eval] using this
    · exact ⟨rfl, ⟨⟨4, .data⟩, by simp, rfl, rfl⟩, ⟨⟨1, .data⟩, by simp, rfl, rfl⟩, _, _, _, _, _, _, _, _, rfl, rfl, rfl, rfl, rfl, rfl, rfl, structEl, rfl, rfl, one_el _⟩
    · exact ⟨rfl, ⟨⟨5, .data⟩, by simp, rfl, rfl⟩, ⟨⟨3, .data⟩, by simp, rfl, rfl⟩, _, _, _, _, _, _, _, _, rfl, rfl, rfl, rfl, rfl, rfl, rfl, structEl, rfl, rfl, one_el _⟩
  · intro γ w6 hS hγ hne hput
    have b5 := hput 6 4 1 _ _ _ rfl rfl
    have b6 := hput 7 5 3 _ _ _ rfl rfl
    generalize e5 : γ 4 = g5 at *
    generalize e6 : γ 5 = g6 at *
    simp [actOf, VK, List.range, List.range.loop, Act.put, e5, e6]
    replace t := Lib.hid (show Mm w [(g3, b), (g2, a)] [(g5, X), (g6, Y)] [] w6 from ((hS).econs b6).econs b5)
    clear b5 b6 hput hne hγ hS e5 e6
    go_wp2_with fail
    refine wp_multi (by kernel_rfl) [.val (ab a), .val (nu D), .val (ab b), .val (nu E), .new 38 (nu zd), .new 38 (nu zd), .put 4 1 (iv (fam 16 D)).toArray, .put 5 3 (iv (fam 16 E)).toArray]
      (Mm w [(g3, b), (g2, a)] [(g5, X), (g6, Y)] []) (by kernel_rfl) (by kernel_rfl) t.out.drew (fun u u' T hS hk hT => ?_) ?_ ?_
    · exact t.out.fresh u u' T hS hk hT
    · refine ⟨?_, ?_, ?_, ?_, ⟨⟨_, rfl⟩, rfl, zeroN⟩, ⟨⟨_, rfl⟩, rfl, zeroN⟩, ?_, ?_, trivial⟩
      · refine ⟨⟨_, rfl⟩, fun a' u K0 R hS hr ho h => ?_⟩
        exact wp_loadr arrB.row (.tmp 2) rfl ((ho 2 (by decide)).trans rfl) (hS.b (g2, a) (by simp)) hl.out.1 (h u (Kept.refl _ _))
      · refine ⟨⟨_, rfl⟩, fun a' u K0 R hS hr ho h => ?_⟩
        refine wp_callf rfl enters_load (vs := #[ab a]) ?_ (cD.out u) h
        have := hr 0 (ab a) 15 _ rfl rfl rfl ⟨⟨0, .data⟩, by simp, rfl, rfl⟩
        simpa [Act.eval] using this
      · refine ⟨⟨_, rfl⟩, fun a' u K0 R hS hr ho h => ?_⟩
        exact wp_loadr arrB.row (.tmp 3) rfl ((ho 3 (by decide)).trans rfl) (hS.b (g3, b) (by simp)) hl.out.2 (h u (Kept.refl _ _))
      · refine ⟨⟨_, rfl⟩, fun a' u K0 R hS hr ho h => ?_⟩
        refine wp_callf rfl enters_load (vs := #[ab b]) ?_ (cE.out u) h
        have := hr 2 (ab b) 17 _ rfl rfl rfl ⟨⟨2, .data⟩, by simp, rfl, rfl⟩
        simpa [Act.eval] using this
      · exact ⟨rfl, ⟨⟨4, .data⟩, by simp, rfl, rfl⟩, ⟨⟨1, .data⟩, by simp, rfl, rfl⟩, _, _, _, _, _, _, _, _, rfl, rfl, rfl, rfl, rfl, rfl, rfl, arrN.row, rfl, rfl, one_nu _⟩
      · exact ⟨rfl, ⟨⟨5, .data⟩, by simp, rfl, rfl⟩, ⟨⟨3, .data⟩, by simp, rfl, rfl⟩, _, _, _, _, _, _, _, _, rfl, rfl, rfl, rfl, rfl, rfl, rfl, arrN.row, rfl, rfl, one_nu _⟩
    · intro γ w6 hS hγ hne hput
      have b7 := hput 6 4 1 _ _ _ rfl rfl
      have b8 := hput 7 5 3 _ _ _ rfl rfl
      generalize e7 : γ 4 = g7 at *
      generalize e8 : γ 5 = g8 at *
      simp [actOf, VK, List.range, List.range.loop, Act.put, e7, e8]
      replace t := Lib.hid (show Mm w [(g3, b), (g2, a)] [(g5, X), (g6, Y)] [(g7, D), (g8, E)] w6 from ((hS).ncons b8).ncons b7)
      clear b7 b8 hput hne hγ hS e7 e8
      go_wp2_with fail
      refine Txt.wp_textG [0, 1, 4, 5, 8, 10, 11, 14, 15, 18, 21, 22, 25, 26, 29, 32, 34] (Mm w [(g3, b), (g2, a)] [(g5, X), (g6, Y)] [(g7, D), (g8, E)]) [[_, _, _], [_], [_, _, _], [_], [_, _, _, _, _], [_], [_, _, _], [_], [_, _, _, _, _, _], [_], [_, _, _], [_], [_, _, _, _, _], [_, _], [_, _, _, _, _, _]] (by kernel_rfl) (by kernel_rfl) rfl t.out.drew (Txt.segs_cons ?_)
      replace t := Lib.hid t.out.drew
      go_wp2_with (first
        | (with_reducible refine wpl_load_row (o := ⟨some 19, _, _, _, _, _⟩) structEl rfl (.tmp 5) rfl rfl (t.out.e (g5, X) (by simp)) rfl ?_)
        | (with_reducible refine wpl_load_row (o := ⟨some 20, _, _, _, _, _⟩) structEl rfl (.tmp 6) rfl rfl (t.out.e (g6, Y) (by simp)) rfl ?_)
        | (go_at_call 13; (with_reducible refine (k0.out _).mono ?_); rintro e v ⟨rfl, kk⟩; have t := Lib.hid (t.out.kept kk); clear kk))
      refine ⟨rfl, t.out, Txt.segs_cons ?_⟩
      go_wp2_with (first
        | (go_at_call 14; (with_reducible refine (k1.out _).mono ?_); rintro e v ⟨rfl, kk⟩; have t := Lib.hid (t.out.kept kk); clear kk))
      refine ⟨rfl, t.out, Txt.segs_cons ?_⟩
      go_wp2_with (first
        | (with_reducible refine wpl_load_row (o := ⟨some 23, _, _, _, _, _⟩) arrN.row rfl (.tmp 7) rfl rfl (t.out.n (g7, D) (by simp)) rfl ?_)
        | (with_reducible refine wpl_load_row (o := ⟨some 24, _, _, _, _, _⟩) arrN.row rfl (.tmp 8) rfl rfl (t.out.n (g8, E) (by simp)) rfl ?_)
        | (go_at_call 28; (with_reducible refine (k2.out _).mono ?_); rintro e v ⟨rfl, kk⟩; have t := Lib.hid (t.out.kept kk); clear kk))
      refine ⟨rfl, t.out, Txt.segs_cons ?_⟩
      go_wp2_with (first
        | (go_at_call 20; (with_reducible refine (k3.out _).mono ?_); rintro e v ⟨rfl, kk⟩; have t := Lib.hid (t.out.kept kk); clear kk))
      refine ⟨rfl, t.out, Txt.segs_cons ?_⟩
      go_wp2_with (first
        | (with_reducible refine wpl_load_row (o := ⟨some 29, _, _, _, _, _⟩) structEl rfl (.tmp 5) rfl rfl (t.out.e (g5, X) (by simp)) rfl ?_)
        | (with_reducible refine wpl_load_row (o := ⟨some 30, _, _, _, _, _⟩) structEl rfl (.tmp 6) rfl rfl (t.out.e (g6, Y) (by simp)) rfl ?_)
        | (go_at_call 16; (with_reducible refine (k4.out _).mono ?_); rintro e v ⟨rfl, kk⟩; have t := Lib.hid (t.out.kept kk); clear kk))
      refine ⟨rfl, t.out, Txt.segs_cons ?_⟩
      go_wp2_with (first
        | (go_at_call 14; (with_reducible refine (k5.out _).mono ?_); rintro e v ⟨rfl, kk⟩; have t := Lib.hid (t.out.kept kk); clear kk))
      refine ⟨rfl, t.out, Txt.segs_cons ?_⟩
      go_wp2_with (first
        | (with_reducible refine wpl_load_row (o := ⟨some 33, _, _, _, _, _⟩) arrN.row rfl (.tmp 7) rfl rfl (t.out.n (g7, D) (by simp)) rfl ?_)
        | (with_reducible refine wpl_load_row (o := ⟨some 34, _, _, _, _, _⟩) arrN.row rfl (.tmp 8) rfl rfl (t.out.n (g8, E) (by simp)) rfl ?_)
        | (go_at_call 29; (with_reducible refine (k6.out _).mono ?_); rintro e v ⟨rfl, kk⟩; have t := Lib.hid (t.out.kept kk); clear kk))
      refine ⟨rfl, t.out, Txt.segs_cons ?_⟩
      go_wp2_with (first
        | (go_at_call 20; (with_reducible refine (k7.out _).mono ?_); rintro e v ⟨rfl, kk⟩; have t := Lib.hid (t.out.kept kk); clear kk))
      refine ⟨rfl, t.out, Txt.segs_cons ?_⟩
      go_wp2_with (first
        | (with_reducible refine wpl_load_row (o := ⟨some 40, _, _, _, _, _⟩) structEl rfl (.tmp 5) rfl rfl (t.out.e (g5, X) (by simp)) rfl ?_)
        | (with_reducible refine wpl_load_row (o := ⟨some 41, _, _, _, _, _⟩) structEl rfl (.tmp 6) rfl rfl (t.out.e (g6, Y) (by simp)) rfl ?_)
        | (go_at_call 15; (with_reducible refine (k8.out _).mono ?_); rintro e v ⟨rfl, kk⟩; have t := Lib.hid (t.out.kept kk); clear kk))
      refine ⟨rfl, t.out, Txt.segs_cons ?_⟩
      go_wp2_with (first
        | (go_at_call 14; (with_reducible refine (k9.out _).mono ?_); rintro e v ⟨rfl, kk⟩; have t := Lib.hid (t.out.kept kk); clear kk))
      refine ⟨rfl, t.out, Txt.segs_cons ?_⟩
      go_wp2_with (first
        | (with_reducible refine wpl_load_row (o := ⟨some 44, _, _, _, _, _⟩) arrN.row rfl (.tmp 7) rfl rfl (t.out.n (g7, D) (by simp)) rfl ?_)
        | (with_reducible refine wpl_load_row (o := ⟨some 45, _, _, _, _, _⟩) arrN.row rfl (.tmp 8) rfl rfl (t.out.n (g8, E) (by simp)) rfl ?_)
        | (go_at_call 30; (with_reducible refine (k10.out _).mono ?_); rintro e v ⟨rfl, kk⟩; have t := Lib.hid (t.out.kept kk); clear kk))
      refine ⟨rfl, t.out, Txt.segs_cons ?_⟩
      go_wp2_with (first
        | (go_at_call 20; (with_reducible refine (k11.out _).mono ?_); rintro e v ⟨rfl, kk⟩; have t := Lib.hid (t.out.kept kk); clear kk))
      refine ⟨rfl, t.out, Txt.segs_cons ?_⟩
      go_wp2_with (first
        | (with_reducible refine wpl_load_row (o := ⟨some 51, _, _, _, _, _⟩) structEl rfl (.tmp 5) rfl rfl (t.out.e (g5, X) (by simp)) rfl ?_)
        | (go_at_call 17; (with_reducible refine (k12.out _).mono ?_); rintro e v ⟨rfl, kk⟩; have t := Lib.hid (t.out.kept kk); clear kk))
      refine ⟨rfl, t.out, Txt.segs_cons ?_⟩
      go_wp2_with (first
        | (with_reducible refine wpl_load_row (o := ⟨some 53, _, _, _, _, _⟩) arrN.row rfl (.tmp 7) rfl rfl (t.out.n (g7, D) (by simp)) rfl ?_)
        | (go_at_call 20; (with_reducible refine (k13.out _).mono ?_); rintro e v ⟨rfl, kk⟩; have t := Lib.hid (t.out.kept kk); clear kk))
      refine ⟨rfl, t.out, Txt.segs_cons ?_⟩
      go_wp2_with fail
      refine ⟨rfl, t.out, Txt.segs_nil ⟨⟨by kernel_rfl, ?_⟩, ?_⟩⟩
      · intro j hj o ho hw
        have hj2 : j = 0 ∨ j = 1 ∨ j = 4 ∨ j = 5 ∨ j = 8 ∨ j = 10 ∨ j = 11 ∨ j = 14 ∨ j = 15 ∨ j = 18 ∨ j = 21 ∨ j = 22 ∨ j = 25 ∨ j = 26 ∨ j = 29 ∨ j = 32 ∨ j = 34 := by simpa using hj
        rcases hj2 with rfl | rfl | rfl | rfl | rfl | rfl | rfl | rfl | rfl | rfl | rfl | rfl | rfl | rfl | rfl | rfl | rfl <;> cases ho
        · exact ⟨19, rfl, fun u hu => exec_load structEl (.tmp 5) rfl rfl (hu.e (g5, X) (by simp)) rfl⟩
        · exact ⟨20, rfl, fun u hu => exec_load structEl (.tmp 6) rfl rfl (hu.e (g6, Y) (by simp)) rfl⟩
        · exact ⟨23, rfl, fun u hu => exec_load arrN.row (.tmp 7) rfl rfl (hu.n (g7, D) (by simp)) rfl⟩
        · exact ⟨24, rfl, fun u hu => exec_load arrN.row (.tmp 8) rfl rfl (hu.n (g8, E) (by simp)) rfl⟩
        · exact ⟨27, rfl, fun u _ => exec_eqb (.tmp 22) (.tmp 26) rfl rfl rfl Q27.out (hb_len _) (le_len _ _)⟩
        · exact ⟨29, rfl, fun u hu => exec_load structEl (.tmp 5) rfl rfl (hu.e (g5, X) (by simp)) rfl⟩
        · exact ⟨30, rfl, fun u hu => exec_load structEl (.tmp 6) rfl rfl (hu.e (g6, Y) (by simp)) rfl⟩
        · exact ⟨33, rfl, fun u hu => exec_load arrN.row (.tmp 7) rfl rfl (hu.n (g7, D) (by simp)) rfl⟩
        · exact ⟨34, rfl, fun u hu => exec_load arrN.row (.tmp 8) rfl rfl (hu.n (g8, E) (by simp)) rfl⟩
        · exact ⟨37, rfl, fun u _ => exec_eqb (.tmp 32) (.tmp 36) rfl rfl rfl Q37.out (hb_len _) (le_len _ _)⟩
        · exact ⟨40, rfl, fun u hu => exec_load structEl (.tmp 5) rfl rfl (hu.e (g5, X) (by simp)) rfl⟩
        · exact ⟨41, rfl, fun u hu => exec_load structEl (.tmp 6) rfl rfl (hu.e (g6, Y) (by simp)) rfl⟩
        · exact ⟨44, rfl, fun u hu => exec_load arrN.row (.tmp 7) rfl rfl (hu.n (g7, D) (by simp)) rfl⟩
        · exact ⟨45, rfl, fun u hu => exec_load arrN.row (.tmp 8) rfl rfl (hu.n (g8, E) (by simp)) rfl⟩
        · exact ⟨48, rfl, fun u _ => exec_eqb (.tmp 43) (.tmp 47) rfl rfl rfl Q48.out (hb_len _) (le_len _ _)⟩
        · exact ⟨51, rfl, fun u hu => exec_load structEl (.tmp 5) rfl rfl (hu.e (g5, X) (by simp)) rfl⟩
        · exact ⟨53, rfl, fun u hu => exec_load arrN.row (.tmp 7) rfl rfl (hu.n (g7, D) (by simp)) rfl⟩
      go_wp2_with fail
      go_ret
      exact ⟨rfl, t.out.k⟩
end Go.Proofs.Ythmpdhegodmjjaa
