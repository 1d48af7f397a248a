/-
  Field: products: the walk.
-/
import Derived.Test.YthmpdhegodmjjaaFe10
namespace Go.Proofs.Ythmpdhegodmjjaa
open Go.RowKit Go.Mem

set_option maxRecDepth 100000 in
set_option maxHeartbeats 4000000 in
theorem fmul_any (F G : Nat → Nat) (w : World) (hF : Lim F) (hG : Lim G) :
    Calls Try.prog 15 #[el F, el G] w fun e w' => e = .returned (el (carL (gaL (mulT F G)))) ∧ Kept [] w w' := by
  have hgat := fun W => gathered_any (mulT F G) W (mulT_fit hF hG)
  obtain ⟨R, hR⟩ : ∃ R, R = carL (gaL (mulT F G)) := ⟨_, rfl⟩
  rw [← hR] at hgat ⊢
  clear hR
  obtain ⟨a0, ha0⟩ : ∃ x, x = F 0 := ⟨_, rfl⟩
  have ka0 := hF 0 (by omega)
  rw [← ha0] at ka0
  obtain ⟨a1, ha1⟩ : ∃ x, x = F 1 := ⟨_, rfl⟩
  have ka1 := hF 1 (by omega)
  rw [← ha1] at ka1
  obtain ⟨a2, ha2⟩ : ∃ x, x = F 2 := ⟨_, rfl⟩
  have ka2 := hF 2 (by omega)
  rw [← ha2] at ka2
  obtain ⟨a3, ha3⟩ : ∃ x, x = F 3 := ⟨_, rfl⟩
  have ka3 := hF 3 (by omega)
  rw [← ha3] at ka3
  obtain ⟨a4, ha4⟩ : ∃ x, x = F 4 := ⟨_, rfl⟩
  have ka4 := hF 4 (by omega)
  rw [← ha4] at ka4
  obtain ⟨b0, hb0⟩ : ∃ x, x = G 0 := ⟨_, rfl⟩
  have kb0 := hG 0 (by omega)
  rw [← hb0] at kb0
  obtain ⟨b1, hb1⟩ : ∃ x, x = G 1 := ⟨_, rfl⟩
  have kb1 := hG 1 (by omega)
  rw [← hb1] at kb1
  obtain ⟨b2, hb2⟩ : ∃ x, x = G 2 := ⟨_, rfl⟩
  have kb2 := hG 2 (by omega)
  rw [← hb2] at kb2
  obtain ⟨b3, hb3⟩ : ∃ x, x = G 3 := ⟨_, rfl⟩
  have kb3 := hG 3 (by omega)
  rw [← hb3] at kb3
  obtain ⟨b4, hb4⟩ : ∃ x, x = G 4 := ⟨_, rfl⟩
  have kb4 := hG 4 (by omega)
  rw [← hb4] at kb4
  obtain ⟨f1, hf1⟩ : ∃ x, x = 19 * a1 := ⟨_, rfl⟩
  obtain ⟨f2, hf2⟩ : ∃ x, x = 19 * a2 := ⟨_, rfl⟩
  obtain ⟨f3, hf3⟩ : ∃ x, x = 19 * a3 := ⟨_, rfl⟩
  obtain ⟨f4, hf4⟩ : ∃ x, x = 19 * a4 := ⟨_, rfl⟩
  obtain ⟨s00, s01, s02, s03, T0, c00, c01, c02, c03, c04, hT0⟩ := chain5 (a0 := a0) (b0 := b0) (a1 := f1) (b1 := b4) (a2 := f2) (b2 := b3) (a3 := f3) (b3 := b2) (a4 := f4) (b4 := b1) ⟨by omega, by omega⟩ ⟨by omega, by omega⟩ ⟨by omega, by omega⟩ ⟨by omega, by omega⟩ ⟨by omega, by omega⟩
  obtain ⟨s10, s11, s12, s13, T1, c10, c11, c12, c13, c14, hT1⟩ := chain5 (a0 := a0) (b0 := b1) (a1 := a1) (b1 := b0) (a2 := f2) (b2 := b4) (a3 := f3) (b3 := b3) (a4 := f4) (b4 := b2) ⟨by omega, by omega⟩ ⟨by omega, by omega⟩ ⟨by omega, by omega⟩ ⟨by omega, by omega⟩ ⟨by omega, by omega⟩
  obtain ⟨s20, s21, s22, s23, T2, c20, c21, c22, c23, c24, hT2⟩ := chain5 (a0 := a0) (b0 := b2) (a1 := a1) (b1 := b1) (a2 := a2) (b2 := b0) (a3 := f3) (b3 := b4) (a4 := f4) (b4 := b3) ⟨by omega, by omega⟩ ⟨by omega, by omega⟩ ⟨by omega, by omega⟩ ⟨by omega, by omega⟩ ⟨by omega, by omega⟩
  obtain ⟨s30, s31, s32, s33, T3, c30, c31, c32, c33, c34, hT3⟩ := chain5 (a0 := a0) (b0 := b3) (a1 := a1) (b1 := b2) (a2 := a2) (b2 := b1) (a3 := a3) (b3 := b0) (a4 := f4) (b4 := b4) ⟨by omega, by omega⟩ ⟨by omega, by omega⟩ ⟨by omega, by omega⟩ ⟨by omega, by omega⟩ ⟨by omega, by omega⟩
  obtain ⟨s40, s41, s42, s43, T4, c40, c41, c42, c43, c44, hT4⟩ := chain5 (a0 := a0) (b0 := b4) (a1 := a1) (b1 := b3) (a2 := a2) (b2 := b2) (a3 := a3) (b3 := b1) (a4 := a4) (b4 := b0) ⟨by omega, by omega⟩ ⟨by omega, by omega⟩ ⟨by omega, by omega⟩ ⟨by omega, by omega⟩ ⟨by omega, by omega⟩
  have e0 : mulT F G 0 = T0 := by
    rw [hT0]
    simp only [hf1, hf2, hf3, hf4, ha0, ha1, ha2, ha3, ha4, hb0, hb1, hb2, hb3, hb4]
    rfl
  have e1 : mulT F G 1 = T1 := by
    rw [hT1]
    simp only [hf2, hf3, hf4, ha0, ha1, ha2, ha3, ha4, hb0, hb1, hb2, hb3, hb4]
    rfl
  have e2 : mulT F G 2 = T2 := by
    rw [hT2]
    simp only [hf3, hf4, ha0, ha1, ha2, ha3, ha4, hb0, hb1, hb2, hb3, hb4]
    rfl
  have e3 : mulT F G 3 = T3 := by
    rw [hT3]
    simp only [hf4, ha0, ha1, ha2, ha3, ha4, hb0, hb1, hb2, hb3, hb4]
    rfl
  have e4 : mulT F G 4 = T4 := by
    rw [hT4]
    simp only [ha0, ha1, ha2, ha3, ha4, hb0, hb1, hb2, hb3, hb4]
    rfl
  rw [e0, e1, e2, e3, e4] at hgat
  have hg := Lib.hid (show GaC T0 T1 T2 T3 T4 R from fun W => by rw [← pr_flat, ← pr_flat, ← pr_flat, ← pr_flat, ← pr_flat]; exact hgat W)
  clear hgat e0 e1 e2 e3 e4 hT0 hT1 hT2 hT3 hT4
  replace c00 := Lib.hid c00
  replace c01 := Lib.hid c01
  replace c02 := Lib.hid c02
  replace c03 := Lib.hid c03
  replace c04 := Lib.hid c04
  replace c10 := Lib.hid c10
  replace c11 := Lib.hid c11
  replace c12 := Lib.hid c12
  replace c13 := Lib.hid c13
  replace c14 := Lib.hid c14
  replace c20 := Lib.hid c20
  replace c21 := Lib.hid c21
  replace c22 := Lib.hid c22
  replace c23 := Lib.hid c23
  replace c24 := Lib.hid c24
  replace c30 := Lib.hid c30
  replace c31 := Lib.hid c31
  replace c32 := Lib.hid c32
  replace c33 := Lib.hid c33
  replace c34 := Lib.hid c34
  replace c40 := Lib.hid c40
  replace c41 := Lib.hid c41
  replace c42 := Lib.hid c42
  replace c43 := Lib.hid c43
  replace c44 := Lib.hid c44
  have mf1 : (19 : Int) * ((a1 : Nat) : Int) = ((f1 : Nat) : Int) := by rw [hf1]; omega
  have mf2 : (19 : Int) * ((a2 : Nat) : Int) = ((f2 : Nat) : Int) := by rw [hf2]; omega
  have mf3 : (19 : Int) * ((a3 : Nat) : Int) = ((f3 : Nat) : Int) := by rw [hf3]; omega
  have mf4 : (19 : Int) * ((a4 : Nat) : Int) = ((f4 : Nat) : Int) := by rw [hf4]; omega
  have kk : True := trivial
  clear hf1 hf2 hf3 hf4
  have Va0 := Lib.hid ha0
  have Va1 := Lib.hid ha1
  have Va2 := Lib.hid ha2
  have Va3 := Lib.hid ha3
  have Va4 := Lib.hid ha4
  have Vb0 := Lib.hid hb0
  have Vb1 := Lib.hid hb1
  have Vb2 := Lib.hid hb2
  have Vb3 := Lib.hid hb3
  have Vb4 := Lib.hid hb4
  clear ha0 ha1 ha2 ha3 ha4 hb0 hb1 hb2 hb3 hb4
  clear hF hG
  go_enter Try.func15, Try.ntmps15
  go_wp2_with (first
    | ((with_reducible refine wpl_box (o := ⟨some 2, _, _, _, _, _⟩) (v := el F) rfl (.tmp 0) rfl rfl ?_); intro g1 w1 m1)
    | ((with_reducible refine wpl_box (o := ⟨some 3, _, _, _, _, _⟩) (v := el G) rfl (.tmp 1) rfl rfl ?_); intro g2 w2 m2)
    | ((with_reducible refine wpl_new (o := ⟨some 4, _, _, _, _, _⟩) rfl rfl zeroEl ?_); intro g3 w3 m3))
  have A := Lib.hid ((m1.blk.kept m2.kept (by simp)).kept m3.kept (by simp))
  have B := Lib.hid (m2.blk.kept m3.kept (by simp))
  have H := Lib.hid (show Sums w g3 [] w3 from ⟨m3.blk, fun p hp => absurd hp (by simp), (m1.kept.then0 m2.kept).then0 m3.kept, Nat.le_trans (m1.kept.then0 m2.kept).size m3.le⟩)
  clear m1 m2 m3
  have pa0 := Blk.eget A.out 0 (by omega)
  rw [← Va0.out] at pa0
  have pa1 := Blk.eget A.out 1 (by omega)
  rw [← Va1.out] at pa1
  have pa2 := Blk.eget A.out 2 (by omega)
  rw [← Va2.out] at pa2
  have pa3 := Blk.eget A.out 3 (by omega)
  rw [← Va3.out] at pa3
  have pa4 := Blk.eget A.out 4 (by omega)
  rw [← Va4.out] at pa4
  have pb0 := Blk.eget B.out 0 (by omega)
  rw [← Vb0.out] at pb0
  have pb1 := Blk.eget B.out 1 (by omega)
  rw [← Vb1.out] at pb1
  have pb2 := Blk.eget B.out 2 (by omega)
  rw [← Vb2.out] at pb2
  have pb3 := Blk.eget B.out 3 (by omega)
  rw [← Vb3.out] at pb3
  have pb4 := Blk.eget B.out 4 (by omega)
  rw [← Vb4.out] at pb4
  clear A B
  clear Va0 Va1 Va2 Va3 Va4 Vb0 Vb1 Vb2 Vb3 Vb4
  refine Txt.wp_text (by kernel_rfl) (by kernel_rfl) ?_
  go_wp2_with fail
  refine ⟨rfl, by kernel_rfl, ?_⟩
  go_wp2_with fail
  refine Txt.wp_text (by kernel_rfl) (by kernel_rfl) ?_
  go_wp2_with fail
  refine ⟨rfl, by kernel_rfl, ?_⟩
  have H := Lib.hid (H.out.kept ((Kept.refl [] w3).drew.drew))
  clear pa0 pa1 pa2 pa3 pa4 pb0 pb1 pb2 pb3 pb4
  go_wp2_with (first
    | (go_at_call 32; (with_reducible refine (c00.out _).mono ?_); rintro e u00 ⟨rfl, kk⟩; have H := Lib.hid (H.out.kept kk); clear kk)
    | (go_at_call 33; (with_reducible refine (c01.out _).mono ?_); rintro e u01 ⟨rfl, kk⟩; have H := Lib.hid (H.out.kept kk); clear kk)
    | (go_at_call 33; (with_reducible refine (c02.out _).mono ?_); rintro e u02 ⟨rfl, kk⟩; have H := Lib.hid (H.out.kept kk); clear kk)
    | (go_at_call 33; (with_reducible refine (c03.out _).mono ?_); rintro e u03 ⟨rfl, kk⟩; have H := Lib.hid (H.out.kept kk); clear kk)
    | (go_at_call 33; (with_reducible refine (c04.out _).mono ?_); rintro e u04 ⟨rfl, kk⟩; have H := Lib.hid (H.out.kept kk); clear kk)
    | ((with_reducible refine wpl_new (o := ⟨some 19, _, _, _, _, _⟩) rfl rfl zeroPr ?_); intro q0 x0 m0)
    | ((with_reducible refine wpl_store_row (o := ⟨none, .store 55 (.tmp 19) (.tmp 76), _, _, _, _⟩) structPr rfl (.tmp 19) (.tmp 76) rfl rfl rfl m0.blk rfl rfl (one_uva _) ?_); intro y0 b0 k0; have H := Lib.hid (H.out.put m0 b0 k0); clear m0 b0 k0))
  go_wp2_with (first
    | (go_at_call 32; (with_reducible refine (c10.out _).mono ?_); rintro e u10 ⟨rfl, kk⟩; have H := Lib.hid (H.out.kept kk); clear kk)
    | (go_at_call 33; (with_reducible refine (c11.out _).mono ?_); rintro e u11 ⟨rfl, kk⟩; have H := Lib.hid (H.out.kept kk); clear kk)
    | (go_at_call 33; (with_reducible refine (c12.out _).mono ?_); rintro e u12 ⟨rfl, kk⟩; have H := Lib.hid (H.out.kept kk); clear kk)
    | (go_at_call 33; (with_reducible refine (c13.out _).mono ?_); rintro e u13 ⟨rfl, kk⟩; have H := Lib.hid (H.out.kept kk); clear kk)
    | (go_at_call 33; (with_reducible refine (c14.out _).mono ?_); rintro e u14 ⟨rfl, kk⟩; have H := Lib.hid (H.out.kept kk); clear kk)
    | ((with_reducible refine wpl_new (o := ⟨some 20, _, _, _, _, _⟩) rfl rfl zeroPr ?_); intro q1 x1 m1)
    | ((with_reducible refine wpl_store_row (o := ⟨none, .store 55 (.tmp 20) (.tmp 91), _, _, _, _⟩) structPr rfl (.tmp 20) (.tmp 91) rfl rfl rfl m1.blk rfl rfl (one_uva _) ?_); intro y1 b1 k1; have H := Lib.hid (H.out.put m1 b1 k1); clear m1 b1 k1))
  go_wp2_with (first
    | (go_at_call 32; (with_reducible refine (c20.out _).mono ?_); rintro e u20 ⟨rfl, kk⟩; have H := Lib.hid (H.out.kept kk); clear kk)
    | (go_at_call 33; (with_reducible refine (c21.out _).mono ?_); rintro e u21 ⟨rfl, kk⟩; have H := Lib.hid (H.out.kept kk); clear kk)
    | (go_at_call 33; (with_reducible refine (c22.out _).mono ?_); rintro e u22 ⟨rfl, kk⟩; have H := Lib.hid (H.out.kept kk); clear kk)
    | (go_at_call 33; (with_reducible refine (c23.out _).mono ?_); rintro e u23 ⟨rfl, kk⟩; have H := Lib.hid (H.out.kept kk); clear kk)
    | (go_at_call 33; (with_reducible refine (c24.out _).mono ?_); rintro e u24 ⟨rfl, kk⟩; have H := Lib.hid (H.out.kept kk); clear kk)
    | ((with_reducible refine wpl_new (o := ⟨some 21, _, _, _, _, _⟩) rfl rfl zeroPr ?_); intro q2 x2 m2)
    | ((with_reducible refine wpl_store_row (o := ⟨none, .store 55 (.tmp 21) (.tmp 106), _, _, _, _⟩) structPr rfl (.tmp 21) (.tmp 106) rfl rfl rfl m2.blk rfl rfl (one_uva _) ?_); intro y2 b2 k2; have H := Lib.hid (H.out.put m2 b2 k2); clear m2 b2 k2))
  go_wp2_with (first
    | (go_at_call 32; (with_reducible refine (c30.out _).mono ?_); rintro e u30 ⟨rfl, kk⟩; have H := Lib.hid (H.out.kept kk); clear kk)
    | (go_at_call 33; (with_reducible refine (c31.out _).mono ?_); rintro e u31 ⟨rfl, kk⟩; have H := Lib.hid (H.out.kept kk); clear kk)
    | (go_at_call 33; (with_reducible refine (c32.out _).mono ?_); rintro e u32 ⟨rfl, kk⟩; have H := Lib.hid (H.out.kept kk); clear kk)
    | (go_at_call 33; (with_reducible refine (c33.out _).mono ?_); rintro e u33 ⟨rfl, kk⟩; have H := Lib.hid (H.out.kept kk); clear kk)
    | (go_at_call 33; (with_reducible refine (c34.out _).mono ?_); rintro e u34 ⟨rfl, kk⟩; have H := Lib.hid (H.out.kept kk); clear kk)
    | ((with_reducible refine wpl_new (o := ⟨some 22, _, _, _, _, _⟩) rfl rfl zeroPr ?_); intro q3 x3 m3)
    | ((with_reducible refine wpl_store_row (o := ⟨none, .store 55 (.tmp 22) (.tmp 121), _, _, _, _⟩) structPr rfl (.tmp 22) (.tmp 121) rfl rfl rfl m3.blk rfl rfl (one_uva _) ?_); intro y3 b3 k3; have H := Lib.hid (H.out.put m3 b3 k3); clear m3 b3 k3))
  go_wp2_with (first
    | (go_at_call 32; (with_reducible refine (c40.out _).mono ?_); rintro e u40 ⟨rfl, kk⟩; have H := Lib.hid (H.out.kept kk); clear kk)
    | (go_at_call 33; (with_reducible refine (c41.out _).mono ?_); rintro e u41 ⟨rfl, kk⟩; have H := Lib.hid (H.out.kept kk); clear kk)
    | (go_at_call 33; (with_reducible refine (c42.out _).mono ?_); rintro e u42 ⟨rfl, kk⟩; have H := Lib.hid (H.out.kept kk); clear kk)
    | (go_at_call 33; (with_reducible refine (c43.out _).mono ?_); rintro e u43 ⟨rfl, kk⟩; have H := Lib.hid (H.out.kept kk); clear kk)
    | (go_at_call 33; (with_reducible refine (c44.out _).mono ?_); rintro e u44 ⟨rfl, kk⟩; have H := Lib.hid (H.out.kept kk); clear kk)
    | ((with_reducible refine wpl_new (o := ⟨some 23, _, _, _, _, _⟩) rfl rfl zeroPr ?_); intro q4 x4 m4)
    | ((with_reducible refine wpl_store_row (o := ⟨none, .store 55 (.tmp 23) (.tmp 136), _, _, _, _⟩) structPr rfl (.tmp 23) (.tmp 136) rfl rfl rfl m4.blk rfl rfl (one_uva _) ?_); intro y4 b4 k4; have H := Lib.hid (H.out.put m4 b4 k4); clear m4 b4 k4)
    | (with_reducible refine wpl_load_row (o := ⟨some 137, _, _, _, _, _⟩) structPr rfl (.tmp 19) rfl rfl H.out.tl.tl.tl.tl.at0 rfl ?_)
    | (with_reducible refine wpl_load_row (o := ⟨some 138, _, _, _, _, _⟩) structPr rfl (.tmp 20) rfl rfl H.out.tl.tl.tl.at0 rfl ?_)
    | (with_reducible refine wpl_load_row (o := ⟨some 139, _, _, _, _, _⟩) structPr rfl (.tmp 21) rfl rfl H.out.tl.tl.at0 rfl ?_)
    | (with_reducible refine wpl_load_row (o := ⟨some 140, _, _, _, _, _⟩) structPr rfl (.tmp 22) rfl rfl H.out.tl.at0 rfl ?_)
    | (with_reducible refine wpl_load_row (o := ⟨some 141, _, _, _, _, _⟩) structPr rfl (.tmp 23) rfl rfl H.out.at0 rfl ?_)
    | (go_at_call 34; (with_reducible refine (hg.out _).mono ?_); rintro e w6 ⟨rfl, k6⟩; have H := Lib.hid (H.out.kept k6); clear k6)
    | ((with_reducible refine wpl_store_row (o := ⟨none, .store 27 (.tmp 4) (.tmp 142), _, _, _, _⟩) structEl rfl (.tmp 4) (.tmp 142) rfl rfl rfl H.out.r rfl rfl (one_el _) ?_); intro w8 b8 k8))
  exact ret_row structEl rfl rfl b8 rfl rfl ⟨rfl, H.out.k.then1 k8 H.out.le⟩
end Go.Proofs.Ythmpdhegodmjjaa
