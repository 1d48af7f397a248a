/-
  Field: products: the walk.
  Field: squares: the walk.
  Field: squared so many times.
  A region that draws its order, by what is known of the operations that have come up; a statement 'x, y := f(a), g(b)' whose variables lie in memory.
  Field: words for rows of numbers in memory; two rows given back.
  Field: the powers 2^250 - 1 and 11: the walk.
  Field: what powers come to: the plain law.
  Field: inverses: the walk.
  Field: a root of minus one; odd numbers.
  A region that draws its order, in which the last operation comes behind all others: what comes ahead of it gives values.
  Field: roots: the walk.
-/
import Derived.Test.YtkflljjcgihaoaaFe10
import Derived.Test.YtkflljjcgihaoaaText2
import Derived.Shelf.Abstract
namespace Go.Proofs.Ytkflljjcgihaoaa
open Go.RowKit Go.Mem

set_option maxRecDepth 100000 in
set_option maxHeartbeats 4000000 in
theorem fmul_any (F G : Nat → Nat) (w : World) (hF : Lim F) (hG : Lim G) :
    Calls Try.prog 33 #[el F, el G] w fun e w' => e = .returned (el (carL (gaL (mulT F G)))) ∧ Kept [] w w' := by
  have hgat := fun W => gathered_any (mulT F G) W (mulT_fit hF hG)
  obtain ⟨R, hR⟩ : ∃ R, R = carL (gaL (mulT F G)) := ⟨_, rfl⟩
  rw [← hR] at hgat ⊢
  clear hR
  obtain ⟨a0, ha0⟩ : ∃ x, x = F 0 := ⟨_, rfl⟩
  have ka0 := hF 0 (by omega)
  rw [← ha0] at ka0
  obtain ⟨a1, ha1⟩ : ∃ x, x = F 1 := ⟨_, rfl⟩
  have ka1 := hF 1 (by omega)
  rw [← ha1] at ka1
  obtain ⟨a2, ha2⟩ : ∃ x, x = F 2 := ⟨_, rfl⟩
  have ka2 := hF 2 (by omega)
  rw [← ha2] at ka2
  obtain ⟨a3, ha3⟩ : ∃ x, x = F 3 := ⟨_, rfl⟩
  have ka3 := hF 3 (by omega)
  rw [← ha3] at ka3
  obtain ⟨a4, ha4⟩ : ∃ x, x = F 4 := ⟨_, rfl⟩
  have ka4 := hF 4 (by omega)
  rw [← ha4] at ka4
  obtain ⟨b0, hb0⟩ : ∃ x, x = G 0 := ⟨_, rfl⟩
  have kb0 := hG 0 (by omega)
  rw [← hb0] at kb0
  obtain ⟨b1, hb1⟩ : ∃ x, x = G 1 := ⟨_, rfl⟩
  have kb1 := hG 1 (by omega)
  rw [← hb1] at kb1
  obtain ⟨b2, hb2⟩ : ∃ x, x = G 2 := ⟨_, rfl⟩
  have kb2 := hG 2 (by omega)
  rw [← hb2] at kb2
  obtain ⟨b3, hb3⟩ : ∃ x, x = G 3 := ⟨_, rfl⟩
  have kb3 := hG 3 (by omega)
  rw [← hb3] at kb3
  obtain ⟨b4, hb4⟩ : ∃ x, x = G 4 := ⟨_, rfl⟩
  have kb4 := hG 4 (by omega)
  rw [← hb4] at kb4
  obtain ⟨f1, hf1⟩ : ∃ x, x = 19 * a1 := ⟨_, rfl⟩
  obtain ⟨f2, hf2⟩ : ∃ x, x = 19 * a2 := ⟨_, rfl⟩
  obtain ⟨f3, hf3⟩ : ∃ x, x = 19 * a3 := ⟨_, rfl⟩
  obtain ⟨f4, hf4⟩ : ∃ x, x = 19 * a4 := ⟨_, rfl⟩
  obtain ⟨s00, s01, s02, s03, T0, c00, c01, c02, c03, c04, hT0⟩ := chain5 (a0 := a0) (b0 := b0) (a1 := f1) (b1 := b4) (a2 := f2) (b2 := b3) (a3 := f3) (b3 := b2) (a4 := f4) (b4 := b1) ⟨by omega, by omega⟩ ⟨by omega, by omega⟩ ⟨by omega, by omega⟩ ⟨by omega, by omega⟩ ⟨by omega, by omega⟩
  obtain ⟨s10, s11, s12, s13, T1, c10, c11, c12, c13, c14, hT1⟩ := chain5 (a0 := a0) (b0 := b1) (a1 := a1) (b1 := b0) (a2 := f2) (b2 := b4) (a3 := f3) (b3 := b3) (a4 := f4) (b4 := b2) ⟨by omega, by omega⟩ ⟨by omega, by omega⟩ ⟨by omega, by omega⟩ ⟨by omega, by omega⟩ ⟨by omega, by omega⟩
  obtain ⟨s20, s21, s22, s23, T2, c20, c21, c22, c23, c24, hT2⟩ := chain5 (a0 := a0) (b0 := b2) (a1 := a1) (b1 := b1) (a2 := a2) (b2 := b0) (a3 := f3) (b3 := b4) (a4 := f4) (b4 := b3) ⟨by omega, by omega⟩ ⟨by omega, by omega⟩ ⟨by omega, by omega⟩ ⟨by omega, by omega⟩ ⟨by omega, by omega⟩
  obtain ⟨s30, s31, s32, s33, T3, c30, c31, c32, c33, c34, hT3⟩ := chain5 (a0 := a0) (b0 := b3) (a1 := a1) (b1 := b2) (a2 := a2) (b2 := b1) (a3 := a3) (b3 := b0) (a4 := f4) (b4 := b4) ⟨by omega, by omega⟩ ⟨by omega, by omega⟩ ⟨by omega, by omega⟩ ⟨by omega, by omega⟩ ⟨by omega, by omega⟩
  obtain ⟨s40, s41, s42, s43, T4, c40, c41, c42, c43, c44, hT4⟩ := chain5 (a0 := a0) (b0 := b4) (a1 := a1) (b1 := b3) (a2 := a2) (b2 := b2) (a3 := a3) (b3 := b1) (a4 := a4) (b4 := b0) ⟨by omega, by omega⟩ ⟨by omega, by omega⟩ ⟨by omega, by omega⟩ ⟨by omega, by omega⟩ ⟨by omega, by omega⟩
  have e0 : mulT F G 0 = T0 := by
    rw [hT0]
    simp only [hf1, hf2, hf3, hf4, ha0, ha1, ha2, ha3, ha4, hb0, hb1, hb2, hb3, hb4]
    rfl
  have e1 : mulT F G 1 = T1 := by
    rw [hT1]
    simp only [hf2, hf3, hf4, ha0, ha1, ha2, ha3, ha4, hb0, hb1, hb2, hb3, hb4]
    rfl
  have e2 : mulT F G 2 = T2 := by
    rw [hT2]
    simp only [hf3, hf4, ha0, ha1, ha2, ha3, ha4, hb0, hb1, hb2, hb3, hb4]
    rfl
  have e3 : mulT F G 3 = T3 := by
    rw [hT3]
    simp only [hf4, ha0, ha1, ha2, ha3, ha4, hb0, hb1, hb2, hb3, hb4]
    rfl
  have e4 : mulT F G 4 = T4 := by
    rw [hT4]
    simp only [ha0, ha1, ha2, ha3, ha4, hb0, hb1, hb2, hb3, hb4]
    rfl
  rw [e0, e1, e2, e3, e4] at hgat
  have hg := Lib.hid (show GaC T0 T1 T2 T3 T4 R from fun W => by rw [← pr_flat, ← pr_flat, ← pr_flat, ← pr_flat, ← pr_flat]; exact hgat W)
  clear hgat e0 e1 e2 e3 e4 hT0 hT1 hT2 hT3 hT4
  replace c00 := Lib.hid c00
  replace c01 := Lib.hid c01
  replace c02 := Lib.hid c02
  replace c03 := Lib.hid c03
  replace c04 := Lib.hid c04
  replace c10 := Lib.hid c10
  replace c11 := Lib.hid c11
  replace c12 := Lib.hid c12
  replace c13 := Lib.hid c13
  replace c14 := Lib.hid c14
  replace c20 := Lib.hid c20
  replace c21 := Lib.hid c21
  replace c22 := Lib.hid c22
  replace c23 := Lib.hid c23
  replace c24 := Lib.hid c24
  replace c30 := Lib.hid c30
  replace c31 := Lib.hid c31
  replace c32 := Lib.hid c32
  replace c33 := Lib.hid c33
  replace c34 := Lib.hid c34
  replace c40 := Lib.hid c40
  replace c41 := Lib.hid c41
  replace c42 := Lib.hid c42
  replace c43 := Lib.hid c43
  replace c44 := Lib.hid c44
  have mf1 : (19 : Int) * ((a1 : Nat) : Int) = ((f1 : Nat) : Int) := by rw [hf1]; omega
  have mf2 : (19 : Int) * ((a2 : Nat) : Int) = ((f2 : Nat) : Int) := by rw [hf2]; omega
  have mf3 : (19 : Int) * ((a3 : Nat) : Int) = ((f3 : Nat) : Int) := by rw [hf3]; omega
  have mf4 : (19 : Int) * ((a4 : Nat) : Int) = ((f4 : Nat) : Int) := by rw [hf4]; omega
  have kk : True := trivial
  clear hf1 hf2 hf3 hf4
  have Va0 := Lib.hid ha0
  have Va1 := Lib.hid ha1
  have Va2 := Lib.hid ha2
  have Va3 := Lib.hid ha3
  have Va4 := Lib.hid ha4
  have Vb0 := Lib.hid hb0
  have Vb1 := Lib.hid hb1
  have Vb2 := Lib.hid hb2
  have Vb3 := Lib.hid hb3
  have Vb4 := Lib.hid hb4
  clear ha0 ha1 ha2 ha3 ha4 hb0 hb1 hb2 hb3 hb4
  clear hF hG
  go_enter Try.func33, Try.ntmps33
  go_wp2_with (first
    | ((with_reducible refine wpl_box (o := ⟨some 2, _, _, _, _, _⟩) (v := el F) rfl (.tmp 0) rfl rfl ?_); intro g1 w1 m1)
    | ((with_reducible refine wpl_box (o := ⟨some 3, _, _, _, _, _⟩) (v := el G) rfl (.tmp 1) rfl rfl ?_); intro g2 w2 m2)
    | ((with_reducible refine wpl_new (o := ⟨some 4, _, _, _, _, _⟩) rfl rfl zeroEl ?_); intro g3 w3 m3))
  have A := Lib.hid ((m1.blk.kept m2.kept (by simp)).kept m3.kept (by simp))
  have B := Lib.hid (m2.blk.kept m3.kept (by simp))
  have H := Lib.hid (show Sums w g3 [] w3 from ⟨m3.blk, fun p hp => absurd hp (by simp), (m1.kept.then0 m2.kept).then0 m3.kept, Nat.le_trans (m1.kept.then0 m2.kept).size m3.le⟩)
  clear m1 m2 m3
  have pa0 := Blk.eget A.out 0 (by omega)
  rw [← Va0.out] at pa0
  have pa1 := Blk.eget A.out 1 (by omega)
  rw [← Va1.out] at pa1
  have pa2 := Blk.eget A.out 2 (by omega)
  rw [← Va2.out] at pa2
  have pa3 := Blk.eget A.out 3 (by omega)
  rw [← Va3.out] at pa3
  have pa4 := Blk.eget A.out 4 (by omega)
  rw [← Va4.out] at pa4
  have pb0 := Blk.eget B.out 0 (by omega)
  rw [← Vb0.out] at pb0
  have pb1 := Blk.eget B.out 1 (by omega)
  rw [← Vb1.out] at pb1
  have pb2 := Blk.eget B.out 2 (by omega)
  rw [← Vb2.out] at pb2
  have pb3 := Blk.eget B.out 3 (by omega)
  rw [← Vb3.out] at pb3
  have pb4 := Blk.eget B.out 4 (by omega)
  rw [← Vb4.out] at pb4
  clear A B
  clear Va0 Va1 Va2 Va3 Va4 Vb0 Vb1 Vb2 Vb3 Vb4
  refine Txt.wp_text (by kernel_rfl) (by kernel_rfl) ?_
  go_wp2_with fail
  refine ⟨rfl, by kernel_rfl, ?_⟩
  go_wp2_with fail
  refine Txt.wp_text (by kernel_rfl) (by kernel_rfl) ?_
  go_wp2_with fail
  refine ⟨rfl, by kernel_rfl, ?_⟩
  have H := Lib.hid (H.out.kept ((Kept.refl [] w3).drew.drew))
  clear pa0 pa1 pa2 pa3 pa4 pb0 pb1 pb2 pb3 pb4
  go_wp2_with (first
    | (go_at_call 67; (with_reducible refine (c00.out _).mono ?_); rintro e u00 ⟨rfl, kk⟩; have H := Lib.hid (H.out.kept kk); clear kk)
    | (go_at_call 68; (with_reducible refine (c01.out _).mono ?_); rintro e u01 ⟨rfl, kk⟩; have H := Lib.hid (H.out.kept kk); clear kk)
    | (go_at_call 68; (with_reducible refine (c02.out _).mono ?_); rintro e u02 ⟨rfl, kk⟩; have H := Lib.hid (H.out.kept kk); clear kk)
    | (go_at_call 68; (with_reducible refine (c03.out _).mono ?_); rintro e u03 ⟨rfl, kk⟩; have H := Lib.hid (H.out.kept kk); clear kk)
    | (go_at_call 68; (with_reducible refine (c04.out _).mono ?_); rintro e u04 ⟨rfl, kk⟩; have H := Lib.hid (H.out.kept kk); clear kk)
    | ((with_reducible refine wpl_new (o := ⟨some 19, _, _, _, _, _⟩) rfl rfl zeroPr ?_); intro q0 x0 m0)
    | ((with_reducible refine wpl_store_row (o := ⟨none, .store 96 (.tmp 19) (.tmp 76), _, _, _, _⟩) structPr rfl (.tmp 19) (.tmp 76) rfl rfl rfl m0.blk rfl rfl (one_uva _) ?_); intro y0 b0 k0; have H := Lib.hid (H.out.put m0 b0 k0); clear m0 b0 k0))
  go_wp2_with (first
    | (go_at_call 67; (with_reducible refine (c10.out _).mono ?_); rintro e u10 ⟨rfl, kk⟩; have H := Lib.hid (H.out.kept kk); clear kk)
    | (go_at_call 68; (with_reducible refine (c11.out _).mono ?_); rintro e u11 ⟨rfl, kk⟩; have H := Lib.hid (H.out.kept kk); clear kk)
    | (go_at_call 68; (with_reducible refine (c12.out _).mono ?_); rintro e u12 ⟨rfl, kk⟩; have H := Lib.hid (H.out.kept kk); clear kk)
    | (go_at_call 68; (with_reducible refine (c13.out _).mono ?_); rintro e u13 ⟨rfl, kk⟩; have H := Lib.hid (H.out.kept kk); clear kk)
    | (go_at_call 68; (with_reducible refine (c14.out _).mono ?_); rintro e u14 ⟨rfl, kk⟩; have H := Lib.hid (H.out.kept kk); clear kk)
    | ((with_reducible refine wpl_new (o := ⟨some 20, _, _, _, _, _⟩) rfl rfl zeroPr ?_); intro q1 x1 m1)
    | ((with_reducible refine wpl_store_row (o := ⟨none, .store 96 (.tmp 20) (.tmp 91), _, _, _, _⟩) structPr rfl (.tmp 20) (.tmp 91) rfl rfl rfl m1.blk rfl rfl (one_uva _) ?_); intro y1 b1 k1; have H := Lib.hid (H.out.put m1 b1 k1); clear m1 b1 k1))
  go_wp2_with (first
    | (go_at_call 67; (with_reducible refine (c20.out _).mono ?_); rintro e u20 ⟨rfl, kk⟩; have H := Lib.hid (H.out.kept kk); clear kk)
    | (go_at_call 68; (with_reducible refine (c21.out _).mono ?_); rintro e u21 ⟨rfl, kk⟩; have H := Lib.hid (H.out.kept kk); clear kk)
    | (go_at_call 68; (with_reducible refine (c22.out _).mono ?_); rintro e u22 ⟨rfl, kk⟩; have H := Lib.hid (H.out.kept kk); clear kk)
    | (go_at_call 68; (with_reducible refine (c23.out _).mono ?_); rintro e u23 ⟨rfl, kk⟩; have H := Lib.hid (H.out.kept kk); clear kk)
    | (go_at_call 68; (with_reducible refine (c24.out _).mono ?_); rintro e u24 ⟨rfl, kk⟩; have H := Lib.hid (H.out.kept kk); clear kk)
    | ((with_reducible refine wpl_new (o := ⟨some 21, _, _, _, _, _⟩) rfl rfl zeroPr ?_); intro q2 x2 m2)
    | ((with_reducible refine wpl_store_row (o := ⟨none, .store 96 (.tmp 21) (.tmp 106), _, _, _, _⟩) structPr rfl (.tmp 21) (.tmp 106) rfl rfl rfl m2.blk rfl rfl (one_uva _) ?_); intro y2 b2 k2; have H := Lib.hid (H.out.put m2 b2 k2); clear m2 b2 k2))
  go_wp2_with (first
    | (go_at_call 67; (with_reducible refine (c30.out _).mono ?_); rintro e u30 ⟨rfl, kk⟩; have H := Lib.hid (H.out.kept kk); clear kk)
    | (go_at_call 68; (with_reducible refine (c31.out _).mono ?_); rintro e u31 ⟨rfl, kk⟩; have H := Lib.hid (H.out.kept kk); clear kk)
    | (go_at_call 68; (with_reducible refine (c32.out _).mono ?_); rintro e u32 ⟨rfl, kk⟩; have H := Lib.hid (H.out.kept kk); clear kk)
    | (go_at_call 68; (with_reducible refine (c33.out _).mono ?_); rintro e u33 ⟨rfl, kk⟩; have H := Lib.hid (H.out.kept kk); clear kk)
    | (go_at_call 68; (with_reducible refine (c34.out _).mono ?_); rintro e u34 ⟨rfl, kk⟩; have H := Lib.hid (H.out.kept kk); clear kk)
    | ((with_reducible refine wpl_new (o := ⟨some 22, _, _, _, _, _⟩) rfl rfl zeroPr ?_); intro q3 x3 m3)
    | ((with_reducible refine wpl_store_row (o := ⟨none, .store 96 (.tmp 22) (.tmp 121), _, _, _, _⟩) structPr rfl (.tmp 22) (.tmp 121) rfl rfl rfl m3.blk rfl rfl (one_uva _) ?_); intro y3 b3 k3; have H := Lib.hid (H.out.put m3 b3 k3); clear m3 b3 k3))
  go_wp2_with (first
    | (go_at_call 67; (with_reducible refine (c40.out _).mono ?_); rintro e u40 ⟨rfl, kk⟩; have H := Lib.hid (H.out.kept kk); clear kk)
    | (go_at_call 68; (with_reducible refine (c41.out _).mono ?_); rintro e u41 ⟨rfl, kk⟩; have H := Lib.hid (H.out.kept kk); clear kk)
    | (go_at_call 68; (with_reducible refine (c42.out _).mono ?_); rintro e u42 ⟨rfl, kk⟩; have H := Lib.hid (H.out.kept kk); clear kk)
    | (go_at_call 68; (with_reducible refine (c43.out _).mono ?_); rintro e u43 ⟨rfl, kk⟩; have H := Lib.hid (H.out.kept kk); clear kk)
    | (go_at_call 68; (with_reducible refine (c44.out _).mono ?_); rintro e u44 ⟨rfl, kk⟩; have H := Lib.hid (H.out.kept kk); clear kk)
    | ((with_reducible refine wpl_new (o := ⟨some 23, _, _, _, _, _⟩) rfl rfl zeroPr ?_); intro q4 x4 m4)
    | ((with_reducible refine wpl_store_row (o := ⟨none, .store 96 (.tmp 23) (.tmp 136), _, _, _, _⟩) structPr rfl (.tmp 23) (.tmp 136) rfl rfl rfl m4.blk rfl rfl (one_uva _) ?_); intro y4 b4 k4; have H := Lib.hid (H.out.put m4 b4 k4); clear m4 b4 k4)
    | (with_reducible refine wpl_load_row (o := ⟨some 137, _, _, _, _, _⟩) structPr rfl (.tmp 19) rfl rfl H.out.tl.tl.tl.tl.at0 rfl ?_)
    | (with_reducible refine wpl_load_row (o := ⟨some 138, _, _, _, _, _⟩) structPr rfl (.tmp 20) rfl rfl H.out.tl.tl.tl.at0 rfl ?_)
    | (with_reducible refine wpl_load_row (o := ⟨some 139, _, _, _, _, _⟩) structPr rfl (.tmp 21) rfl rfl H.out.tl.tl.at0 rfl ?_)
    | (with_reducible refine wpl_load_row (o := ⟨some 140, _, _, _, _, _⟩) structPr rfl (.tmp 22) rfl rfl H.out.tl.at0 rfl ?_)
    | (with_reducible refine wpl_load_row (o := ⟨some 141, _, _, _, _, _⟩) structPr rfl (.tmp 23) rfl rfl H.out.at0 rfl ?_)
    | (go_at_call 69; (with_reducible refine (hg.out _).mono ?_); rintro e w6 ⟨rfl, k6⟩; have H := Lib.hid (H.out.kept k6); clear k6)
    | ((with_reducible refine wpl_store_row (o := ⟨none, .store 27 (.tmp 4) (.tmp 142), _, _, _, _⟩) structEl rfl (.tmp 4) (.tmp 142) rfl rfl rfl H.out.r rfl rfl (one_el _) ?_); intro w8 b8 k8))
  exact ret_row structEl rfl rfl b8 rfl rfl ⟨rfl, H.out.k.then1 k8 H.out.le⟩
end Go.Proofs.Ytkflljjcgihaoaa

namespace Go.Proofs.Ytkflljjcgihaoaa
open Go.RowKit Go.Mem

set_option maxRecDepth 100000 in
set_option maxHeartbeats 4000000 in
theorem fsquare_any (F : Nat → Nat) (w : World) (hF : Lim F) :
    Calls Try.prog 72 #[el F] w fun e w' => e = .returned (el (carL (gaL (mulT F F)))) ∧ Kept [] w w' := by
  have hgat := fun W => gathered_any (mulT F F) W (mulT_fit hF hF)
  obtain ⟨R, hR⟩ : ∃ R, R = carL (gaL (mulT F F)) := ⟨_, rfl⟩
  rw [← hR] at hgat ⊢
  clear hR
  obtain ⟨a0, ha0⟩ : ∃ x, x = F 0 := ⟨_, rfl⟩
  have ka0 := hF 0 (by omega)
  rw [← ha0] at ka0
  obtain ⟨a1, ha1⟩ : ∃ x, x = F 1 := ⟨_, rfl⟩
  have ka1 := hF 1 (by omega)
  rw [← ha1] at ka1
  obtain ⟨a2, ha2⟩ : ∃ x, x = F 2 := ⟨_, rfl⟩
  have ka2 := hF 2 (by omega)
  rw [← ha2] at ka2
  obtain ⟨a3, ha3⟩ : ∃ x, x = F 3 := ⟨_, rfl⟩
  have ka3 := hF 3 (by omega)
  rw [← ha3] at ka3
  obtain ⟨a4, ha4⟩ : ∃ x, x = F 4 := ⟨_, rfl⟩
  have ka4 := hF 4 (by omega)
  rw [← ha4] at ka4
  obtain ⟨d0, hd0⟩ : ∃ x, x = 2 * a0 := ⟨_, rfl⟩
  obtain ⟨d1, hd1⟩ : ∃ x, x = 2 * a1 := ⟨_, rfl⟩
  obtain ⟨d2, hd2⟩ : ∃ x, x = 2 * a2 := ⟨_, rfl⟩
  obtain ⟨f3, hf3⟩ : ∃ x, x = 19 * a3 := ⟨_, rfl⟩
  obtain ⟨f4, hf4⟩ : ∃ x, x = 19 * a4 := ⟨_, rfl⟩
  obtain ⟨e3, he3⟩ : ∃ x, x = 2 * a3 := ⟨_, rfl⟩
  obtain ⟨s00, s01, T0, c00, c01, c02, hT0⟩ := chain3 (a0 := a0) (b0 := a0) (a1 := d1) (b1 := f4) (a2 := d2) (b2 := f3) ⟨by omega, by omega⟩ ⟨by omega, by omega⟩ ⟨by omega, by omega⟩
  obtain ⟨s10, s11, T1, c10, c11, c12, hT1⟩ := chain3 (a0 := d0) (b0 := a1) (a1 := d2) (b1 := f4) (a2 := a3) (b2 := f3) ⟨by omega, by omega⟩ ⟨by omega, by omega⟩ ⟨by omega, by omega⟩
  obtain ⟨s20, s21, T2, c20, c21, c22, hT2⟩ := chain3 (a0 := d0) (b0 := a2) (a1 := a1) (b1 := a1) (a2 := e3) (b2 := f4) ⟨by omega, by omega⟩ ⟨by omega, by omega⟩ ⟨by omega, by omega⟩
  obtain ⟨s30, s31, T3, c30, c31, c32, hT3⟩ := chain3 (a0 := d0) (b0 := a3) (a1 := d1) (b1 := a2) (a2 := a4) (b2 := f4) ⟨by omega, by omega⟩ ⟨by omega, by omega⟩ ⟨by omega, by omega⟩
  obtain ⟨s40, s41, T4, c40, c41, c42, hT4⟩ := chain3 (a0 := d0) (b0 := a4) (a1 := d1) (b1 := a3) (a2 := a2) (b2 := a2) ⟨by omega, by omega⟩ ⟨by omega, by omega⟩ ⟨by omega, by omega⟩
  have e0 : mulT F F 0 = T0 := by
    rw [hT0]
    simp only [hd1, hd2, hf3, hf4, ha0, ha1, ha2, ha3, ha4]
    unfold mulT
    simp only [reduceIte, reduceCtorEq]
    generalize F 0 = a0, F 1 = a1, F 2 = a2, F 3 = a3, F 4 = a4
    grind
  have e1 : mulT F F 1 = T1 := by
    rw [hT1]
    simp only [hd0, hd2, hf3, hf4, ha0, ha1, ha2, ha3, ha4]
    unfold mulT
    simp only [reduceIte, Nat.reduceEqDiff, reduceCtorEq]
    generalize F 0 = a0, F 1 = a1, F 2 = a2, F 3 = a3, F 4 = a4
    grind
  have e2 : mulT F F 2 = T2 := by
    rw [hT2]
    simp only [hd0, hf4, he3, ha0, ha1, ha2, ha3, ha4]
    unfold mulT
    simp only [reduceIte, Nat.reduceEqDiff, reduceCtorEq]
    generalize F 0 = a0, F 1 = a1, F 2 = a2, F 3 = a3, F 4 = a4
    grind
  have e3 : mulT F F 3 = T3 := by
    rw [hT3]
    simp only [hd0, hd1, hf4, ha0, ha1, ha2, ha3, ha4]
    unfold mulT
    simp only [reduceIte, Nat.reduceEqDiff, reduceCtorEq]
    generalize F 0 = a0, F 1 = a1, F 2 = a2, F 3 = a3, F 4 = a4
    grind
  have e4 : mulT F F 4 = T4 := by
    rw [hT4]
    simp only [hd0, hd1, ha0, ha1, ha2, ha3, ha4]
    unfold mulT
    simp only [reduceIte, Nat.reduceEqDiff, reduceCtorEq]
    generalize F 0 = a0, F 1 = a1, F 2 = a2, F 3 = a3, F 4 = a4
    grind
  rw [e0, e1, e2, e3, e4] at hgat
  have hg := Lib.hid (show GaC T0 T1 T2 T3 T4 R from fun W => by rw [← pr_flat, ← pr_flat, ← pr_flat, ← pr_flat, ← pr_flat]; exact hgat W)
  clear hgat e0 e1 e2 e3 e4 hT0 hT1 hT2 hT3 hT4
  replace c00 := Lib.hid c00
  replace c01 := Lib.hid c01
  replace c02 := Lib.hid c02
  replace c10 := Lib.hid c10
  replace c11 := Lib.hid c11
  replace c12 := Lib.hid c12
  replace c20 := Lib.hid c20
  replace c21 := Lib.hid c21
  replace c22 := Lib.hid c22
  replace c30 := Lib.hid c30
  replace c31 := Lib.hid c31
  replace c32 := Lib.hid c32
  replace c40 := Lib.hid c40
  replace c41 := Lib.hid c41
  replace c42 := Lib.hid c42
  have md0 : (2 : Int) * ((a0 : Nat) : Int) = ((d0 : Nat) : Int) := by rw [hd0]; omega
  have md1 : (2 : Int) * ((a1 : Nat) : Int) = ((d1 : Nat) : Int) := by rw [hd1]; omega
  have md2 : (2 : Int) * ((a2 : Nat) : Int) = ((d2 : Nat) : Int) := by rw [hd2]; omega
  have mf3 : (19 : Int) * ((a3 : Nat) : Int) = ((f3 : Nat) : Int) := by rw [hf3]; omega
  have mf4 : (19 : Int) * ((a4 : Nat) : Int) = ((f4 : Nat) : Int) := by rw [hf4]; omega
  have me3 : (2 : Int) * ((a3 : Nat) : Int) = ((e3 : Nat) : Int) := by rw [he3]; omega
  have kk : True := trivial
  clear hd0 hd1 hd2 hf3 hf4 he3
  have Va0 := Lib.hid ha0
  have Va1 := Lib.hid ha1
  have Va2 := Lib.hid ha2
  have Va3 := Lib.hid ha3
  have Va4 := Lib.hid ha4
  clear ha0 ha1 ha2 ha3 ha4
  clear hF
  go_enter Try.func72, Try.ntmps72
  go_wp2_with (first
    | ((with_reducible refine wpl_box (o := ⟨some 1, _, _, _, _, _⟩) (v := el F) rfl (.tmp 0) rfl rfl ?_); intro g1 w1 m1)
    | ((with_reducible refine wpl_new (o := ⟨some 2, _, _, _, _, _⟩) rfl rfl zeroEl ?_); intro g3 w3 m3))
  have A := Lib.hid (m1.blk.kept m3.kept (by simp))
  have H := Lib.hid (show Sums w g3 [] w3 from ⟨m3.blk, fun p hp => absurd hp (by simp), m1.kept.then0 m3.kept, Nat.le_trans m1.kept.size m3.le⟩)
  clear m1 m3
  have pa0 := Blk.eget A.out 0 (by omega)
  rw [← Va0.out] at pa0
  have pa1 := Blk.eget A.out 1 (by omega)
  rw [← Va1.out] at pa1
  have pa2 := Blk.eget A.out 2 (by omega)
  rw [← Va2.out] at pa2
  have pa3 := Blk.eget A.out 3 (by omega)
  rw [← Va3.out] at pa3
  have pa4 := Blk.eget A.out 4 (by omega)
  rw [← Va4.out] at pa4
  clear A
  clear Va0 Va1 Va2 Va3 Va4
  refine Txt.wp_text (by kernel_rfl) (by kernel_rfl) ?_
  go_wp2_with fail
  refine ⟨rfl, by kernel_rfl, ?_⟩
  have H := Lib.hid (H.out.kept ((Kept.refl [] w3).drew))
  clear pa0 pa1 pa2 pa3 pa4
  go_wp2_with (first
    | (go_at_call 67; (with_reducible refine (c00.out _).mono ?_); rintro e u00 ⟨rfl, kk⟩; have H := Lib.hid (H.out.kept kk); clear kk)
    | (go_at_call 68; (with_reducible refine (c01.out _).mono ?_); rintro e u01 ⟨rfl, kk⟩; have H := Lib.hid (H.out.kept kk); clear kk)
    | (go_at_call 68; (with_reducible refine (c02.out _).mono ?_); rintro e u02 ⟨rfl, kk⟩; have H := Lib.hid (H.out.kept kk); clear kk)
    | ((with_reducible refine wpl_new (o := ⟨some 13, _, _, _, _, _⟩) rfl rfl zeroPr ?_); intro q0 x0 m0)
    | ((with_reducible refine wpl_store_row (o := ⟨none, .store 96 (.tmp 13) (.tmp 51), _, _, _, _⟩) structPr rfl (.tmp 13) (.tmp 51) rfl rfl rfl m0.blk rfl rfl (one_uva _) ?_); intro y0 b0 k0; have H := Lib.hid (H.out.put m0 b0 k0); clear m0 b0 k0))
  go_wp2_with (first
    | (go_at_call 67; (with_reducible refine (c10.out _).mono ?_); rintro e u10 ⟨rfl, kk⟩; have H := Lib.hid (H.out.kept kk); clear kk)
    | (go_at_call 68; (with_reducible refine (c11.out _).mono ?_); rintro e u11 ⟨rfl, kk⟩; have H := Lib.hid (H.out.kept kk); clear kk)
    | (go_at_call 68; (with_reducible refine (c12.out _).mono ?_); rintro e u12 ⟨rfl, kk⟩; have H := Lib.hid (H.out.kept kk); clear kk)
    | ((with_reducible refine wpl_new (o := ⟨some 14, _, _, _, _, _⟩) rfl rfl zeroPr ?_); intro q1 x1 m1)
    | ((with_reducible refine wpl_store_row (o := ⟨none, .store 96 (.tmp 14) (.tmp 60), _, _, _, _⟩) structPr rfl (.tmp 14) (.tmp 60) rfl rfl rfl m1.blk rfl rfl (one_uva _) ?_); intro y1 b1 k1; have H := Lib.hid (H.out.put m1 b1 k1); clear m1 b1 k1))
  go_wp2_with (first
    | (go_at_call 67; (with_reducible refine (c20.out _).mono ?_); rintro e u20 ⟨rfl, kk⟩; have H := Lib.hid (H.out.kept kk); clear kk)
    | (go_at_call 68; (with_reducible refine (c21.out _).mono ?_); rintro e u21 ⟨rfl, kk⟩; have H := Lib.hid (H.out.kept kk); clear kk)
    | (go_at_call 68; (with_reducible refine (c22.out _).mono ?_); rintro e u22 ⟨rfl, kk⟩; have H := Lib.hid (H.out.kept kk); clear kk)
    | ((with_reducible refine wpl_new (o := ⟨some 15, _, _, _, _, _⟩) rfl rfl zeroPr ?_); intro q2 x2 m2)
    | ((with_reducible refine wpl_store_row (o := ⟨none, .store 96 (.tmp 15) (.tmp 70), _, _, _, _⟩) structPr rfl (.tmp 15) (.tmp 70) rfl rfl rfl m2.blk rfl rfl (one_uva _) ?_); intro y2 b2 k2; have H := Lib.hid (H.out.put m2 b2 k2); clear m2 b2 k2))
  go_wp2_with (first
    | (go_at_call 67; (with_reducible refine (c30.out _).mono ?_); rintro e u30 ⟨rfl, kk⟩; have H := Lib.hid (H.out.kept kk); clear kk)
    | (go_at_call 68; (with_reducible refine (c31.out _).mono ?_); rintro e u31 ⟨rfl, kk⟩; have H := Lib.hid (H.out.kept kk); clear kk)
    | (go_at_call 68; (with_reducible refine (c32.out _).mono ?_); rintro e u32 ⟨rfl, kk⟩; have H := Lib.hid (H.out.kept kk); clear kk)
    | ((with_reducible refine wpl_new (o := ⟨some 16, _, _, _, _, _⟩) rfl rfl zeroPr ?_); intro q3 x3 m3)
    | ((with_reducible refine wpl_store_row (o := ⟨none, .store 96 (.tmp 16) (.tmp 79), _, _, _, _⟩) structPr rfl (.tmp 16) (.tmp 79) rfl rfl rfl m3.blk rfl rfl (one_uva _) ?_); intro y3 b3 k3; have H := Lib.hid (H.out.put m3 b3 k3); clear m3 b3 k3))
  go_wp2_with (first
    | (go_at_call 67; (with_reducible refine (c40.out _).mono ?_); rintro e u40 ⟨rfl, kk⟩; have H := Lib.hid (H.out.kept kk); clear kk)
    | (go_at_call 68; (with_reducible refine (c41.out _).mono ?_); rintro e u41 ⟨rfl, kk⟩; have H := Lib.hid (H.out.kept kk); clear kk)
    | (go_at_call 68; (with_reducible refine (c42.out _).mono ?_); rintro e u42 ⟨rfl, kk⟩; have H := Lib.hid (H.out.kept kk); clear kk)
    | ((with_reducible refine wpl_new (o := ⟨some 17, _, _, _, _, _⟩) rfl rfl zeroPr ?_); intro q4 x4 m4)
    | ((with_reducible refine wpl_store_row (o := ⟨none, .store 96 (.tmp 17) (.tmp 88), _, _, _, _⟩) structPr rfl (.tmp 17) (.tmp 88) rfl rfl rfl m4.blk rfl rfl (one_uva _) ?_); intro y4 b4 k4; have H := Lib.hid (H.out.put m4 b4 k4); clear m4 b4 k4)
    | (with_reducible refine wpl_load_row (o := ⟨some 89, _, _, _, _, _⟩) structPr rfl (.tmp 13) rfl rfl H.out.tl.tl.tl.tl.at0 rfl ?_)
    | (with_reducible refine wpl_load_row (o := ⟨some 90, _, _, _, _, _⟩) structPr rfl (.tmp 14) rfl rfl H.out.tl.tl.tl.at0 rfl ?_)
    | (with_reducible refine wpl_load_row (o := ⟨some 91, _, _, _, _, _⟩) structPr rfl (.tmp 15) rfl rfl H.out.tl.tl.at0 rfl ?_)
    | (with_reducible refine wpl_load_row (o := ⟨some 92, _, _, _, _, _⟩) structPr rfl (.tmp 16) rfl rfl H.out.tl.at0 rfl ?_)
    | (with_reducible refine wpl_load_row (o := ⟨some 93, _, _, _, _, _⟩) structPr rfl (.tmp 17) rfl rfl H.out.at0 rfl ?_)
    | (go_at_call 69; (with_reducible refine (hg.out _).mono ?_); rintro e w6 ⟨rfl, k6⟩; have H := Lib.hid (H.out.kept k6); clear k6)
    | ((with_reducible refine wpl_store_row (o := ⟨none, .store 27 (.tmp 2) (.tmp 94), _, _, _, _⟩) structEl rfl (.tmp 2) (.tmp 94) rfl rfl rfl H.out.r rfl rfl (one_el _) ?_); intro w8 b8 k8))
  exact ret_row structEl rfl rfl b8 rfl rfl ⟨rfl, H.out.k.then1 k8 H.out.le⟩
end Go.Proofs.Ytkflljjcgihaoaa

namespace Go.Proofs.Ytkflljjcgihaoaa
open Go.RowKit Go.Mem

def mlF (F G : Nat → Nat) : Nat → Nat := carL (gaL (mulT F G))
def sqF (F : Nat → Nat) : Nat → Nat := carL (gaL (mulT F F))
def sqn : Nat → (Nat → Nat) → Nat → Nat
  | 0, F => F
  | k + 1, F => sqF (sqn k F)
theorem mlF_lim {F G : Nat → Nat} (h : Lim F) (h2 : Lim G) : Lim (mlF F G) := ga_lim (mulT_fit h h2)
theorem sqF_lim {F : Nat → Nat} (h : Lim F) : Lim (sqF F) := ga_lim (mulT_fit h h)
theorem sqn_lim {F : Nat → Nat} (h : Lim F) : ∀ k, Lim (sqn k F)
  | 0 => h
  | k + 1 => sqF_lim (sqn_lim h k)
/-- What squares, powers, products answer. -/
abbrev SqC (F R : Nat → Nat) : Prop := ∀ W, Calls Try.prog 72 #[el F] W fun e w' => e = .returned (el R) ∧ Kept [] W w'
abbrev SnC (n : Nat) (F R : Nat → Nat) : Prop := ∀ W, Calls Try.prog 71 #[el F, .int .i64 n] W fun e w' => e = .returned (el R) ∧ Kept [] W w'
abbrev MlC (F G R : Nat → Nat) : Prop := ∀ W, Calls Try.prog 33 #[el F, el G] W fun e w' => e = .returned (el R) ∧ Kept [] W w'
theorem sqF_any (F : Nat → Nat) (h : Lim F) : SqC F (sqF F) := fun W => fsquare_any F W h
theorem mlF_any (F G : Nat → Nat) (h : Lim F) (h2 : Lim G) : MlC F G (mlF F G) := fun W => fmul_any F G W h h2

/-- What lies in memory. -/
structure SqM (w0 : World) (g1 g2 : Nat) (F : Nat → Nat) (u : World) : Prop where
  a : Blk u g1 27 (uv (fam 5 F)).toArray
  r : Blk u g2 27 (uv (fam 5 nought)).toArray
  k : Kept [] w0 u
theorem SqM.kept {w0 : World} {g1 g2 : Nat} {F : Nat → Nat} {u u' : World} (h : SqM w0 g1 g2 F u) (hk : Kept [] u u') : SqM w0 g1 g2 F u' := ⟨h.a.kept hk (by simp), h.r.kept hk (by simp), h.k.then0 hk⟩
theorem SqM.put {w0 : World} {g1 g2 : Nat} {F G : Nat → Nat} {u u' : World} (h : SqM w0 g1 g2 F u) (b : Blk u' g1 27 (uv (fam 5 G)).toArray) (hk : Kept [g1] u u') (hl : w0.heap.size ≤ g1) (hn : g1 ≠ g2) : SqM w0 g1 g2 G u' :=
  ⟨b, h.r.kept hk (by simpa using Ne.symm hn), h.k.then1 hk hl⟩

set_option maxRecDepth 100000 in
set_option maxHeartbeats 1600000 in
theorem sqn_any (n : Nat) (F : Nat → Nat) (hF : Lim F) (hn : n ≤ 1000) : SnC n F (sqn n F) := by
  intro w
  have hsq := Lib.hid (fun k => sqF_any (sqn k F) (sqn_lim hF k))
  clear hF
  go_enter Try.func71, Try.ntmps71
  go_wp2_with (first
    | ((with_reducible refine wpl_box (o := ⟨some 2, _, _, _, _, _⟩) (v := el F) rfl (.tmp 0) rfl rfl ?_); intro g1 w1 m1)
    | ((with_reducible refine wpl_new (o := ⟨some 4, _, _, _, _, _⟩) rfl rfl zeroEl ?_); intro g2 w2 m2))
  have N := Lib.hid (And.intro m1.le (And.intro (Nat.le_trans m1.kept.size m2.le) (m2.ne m1.blk.lt)))
  have H0 := Lib.hid (show SqM w g1 g2 (sqn 0 F) w2 from ⟨m1.blk.kept m2.kept (by simp), m2.blk, m1.kept.then0 m2.kept⟩)
  clear m1 m2
  go_loopg [6] n (fun f i wk => ∃ k : Nat, k ≤ n ∧ f + k = n ∧ i = .int .i64 k ∧ SqM w g1 g2 (sqn k F) wk)
  case atStart => exact ⟨0, Nat.zero_le _, rfl, rfl, H0.out⟩
  case round =>
    obtain ⟨k, hk, hf, rfl, hs⟩ := hrel
    have H := Lib.hid hs
    clear hs
    by_cases hlt : k < n
    · have hc := Lib.hid (hsq.out k)
      go_wp2_with (first
        | (with_reducible refine wpl_load_row (o := ⟨some 8, _, _, _, _, _⟩) structEl rfl (.tmp 2) rfl rfl H.out.a rfl ?_)
        | (go_at_call 72; refine (hc.out _).mono ?_; rintro e w6 ⟨rfl, k6⟩; have H := Lib.hid (H.out.kept k6); clear k6)
        | (refine wpl_store_row structEl rfl (.tmp 2) (.tmp 9) rfl rfl rfl H.out.a rfl rfl (one_el _) ?_; intro w8 b8 k8))
      go_roundg (n - (k + 1))
      case measure => omega
      case rel => exact ⟨k + 1, by omega, by omega, by go_num, H.out.put b8 k8 N.out.1 N.out.2.2⟩
    · obtain rfl : k = n := by omega
      go_wp2_with (first
        | (with_reducible refine wpl_load_row (o := ⟨some 11, _, _, _, _, _⟩) structEl rfl (.tmp 2) rfl rfl H.out.a rfl ?_)
        | (refine wpl_store_row structEl rfl (.tmp 4) (.tmp 11) rfl rfl rfl H.out.r rfl rfl (one_el _) ?_; intro w8 b8 k8))
      exact ret_row structEl rfl rfl b8 rfl rfl ⟨rfl, H.out.k.then1 k8 N.out.2.1⟩
end Go.Proofs.Ytkflljjcgihaoaa

namespace Go.Txt
open Go.RowKit Go.Mem

section
variable {P : Program} {ops : Array Oper} {Q : Exit → Act → World → Prop}

theorem count_setTrue (l : List Bool) (i : Nat) (h : l[i]? = some false) : (l.set i true).count false + 1 = l.count false := by
  induction l generalizing i with
  | nil => simp at h
  | cons b l ih =>
    cases i with
    | zero =>
      obtain rfl : b = false := by simpa using h
      simp
    | succ i =>
      have := ih i (by simpa using h)
      simp only [List.set_cons_succ, List.count_cons]
      omega

theorem wpAny_inv (I : (Nat → Bool) → Act → World → Prop) (hI : ∀ L L' a w, (∀ j, j < ops.size → L j = L' j) → I L a w → I L' a w) (hdep : depB ops = true)
    (step : ∀ L a w i o, I L a w → ops[i]? = some o → L i = false → (∀ e ∈ o.after, Region.binds .any e = true → L e.on = true) → wpOp P ops Q i (I (fun j => if j = i then true else L j)) a w)
    (fin : ∀ L a w, I L a w → (∀ j, j < ops.size → L j = true) → Q .normal a w) :
    ∀ (fuel : Nat) (listed : Array Bool) (a : Act) (w : World), listed.size = ops.size → listed.toList.count false ≤ fuel → I (fun j => listed.getD j true) a w → wpAny P .any ops Q fuel listed a w := by
  have hall : ∀ (listed : Array Bool), listed.size = ops.size → Region.ready .any ops listed = [] → ∀ j, j < ops.size → listed.getD j true = true := by
    intro listed hs hr j
    induction j using Nat.strongRecOn with
    | _ j ih =>
      intro hj
      cases hl : listed.getD j true with
      | true => rfl
      | false =>
        exfalso
        have : j ∈ Region.ready .any ops listed := by
          rw [mem_ready]
          refine ⟨hl, ops[j], by simp [hj], fun e he hb => ?_⟩
          have hlt := depB_spec hdep j ops[j] (by simp [hj]) e he hb
          have := ih e.on hlt (by omega)
          have hes : e.on < listed.size := by omega
          simpa [Array.getD, hes] using this
        rw [hr] at this
        cases this
  intro fuel
  induction fuel with
  | zero =>
    intro listed a w hs hc hi
    have h1 : ∀ j, j < ops.size → listed.getD j true = true := by
      intro j hj
      have hjs : j < listed.size := by omega
      cases hl : listed.getD j true with
      | true => rfl
      | false =>
        exfalso
        have hmem : false ∈ listed.toList := by
          have : listed[j] = false := by simpa [Array.getD, hjs] using hl
          rw [← this]; simp
        have := List.count_pos_iff.2 hmem
        omega
    refine ⟨?_, fin _ _ _ hi h1⟩
    cases hr : Region.ready .any ops listed with
    | nil => rfl
    | cons i rs =>
      exfalso
      have hi : i ∈ Region.ready .any ops listed := by rw [hr]; simp
      obtain ⟨hun, oi, hoi, _⟩ := mem_ready.1 hi
      have hlt : i < ops.size := (Array.getElem?_eq_some_iff.1 hoi).1
      rw [h1 i hlt] at hun
      cases hun
  | succ fuel ih =>
    intro listed a w hs hc hi
    refine ⟨fun hr => fin _ _ _ hi (hall listed hs hr), fun i hr => ?_⟩
    obtain ⟨hun, oi, hoi, hde⟩ := mem_ready.1 hr
    have hlt : i < ops.size := (Array.getElem?_eq_some_iff.1 hoi).1
    have his : i < listed.size := by omega
    have hlf : listed[i] = false := by simpa [Array.getD, his] using hun
    refine wpOp_mono (fun a' w' h' => ih _ a' w' (by simpa using hs) ?_ ?_) (step _ a w i oi hi hoi hun fun e he hb => ?_)
    · have := count_setTrue listed.toList i (by simp [his, hlf])
      simp only [Array.toList_setIfInBounds]
      omega
    · refine hI _ _ _ _ (fun j hj => ?_) h'
      have hjs : j < listed.size := by omega
      by_cases hji : j = i
      · subst hji; simp [Array.getD, his]
      · rw [if_neg hji]
        simp [Array.getD, hjs, Ne.symm hji]
    · have := hde e he hb
      by_cases hes : e.on < listed.size
      · simpa [Array.getD, hes] using this
      · simp [Array.getD, hes]

/-- The slots of those that have come up. -/
def actOf (ops : Array Oper) (v : Nat → Value) (L : Nat → Bool) : List Nat → Act → Act
  | [], a => a
  | j :: l, a => actOf ops v L l (if L j then match ops[j]? with | some o => a.put o.dst (v j) | none => a else a)

theorem actOf_congr {v v' : Nat → Value} {L L' : Nat → Bool} : ∀ (l : List Nat) (a : Act), (∀ j ∈ l, L j = L' j ∧ (L j = true → v j = v' j)) → actOf ops v L l a = actOf ops v' L' l a
  | [], _, _ => rfl
  | j :: l, a, h => by
    obtain ⟨h1, h2⟩ := h j (by simp)
    simp only [actOf]
    rw [actOf_congr l _ fun k hk => h k (by simp [hk]), ← h1]
    cases hL : L j with
    | false => rfl
    | true => rw [h2 hL]
theorem actOf_put {v : Nat → Value} {L : Nat → Bool} {d : Option Tmp} {x : Value} : ∀ (l : List Nat) (a : Act), (∀ j ∈ l, ∀ o, ops[j]? = some o → ∀ t, o.dst = some t → d ≠ some t) → actOf ops v L l (a.put d x) = (actOf ops v L l a).put d x
  | [], _, _ => rfl
  | j :: l, a, h => by
    simp only [actOf]
    rw [← actOf_put l _ fun k hk => h k (by simp [hk])]
    congr 1
    cases hL : L j with
    | false => simp
    | true =>
      cases ho : ops[j]? with
      | none => simp
      | some o =>
        simp only [if_true]
        exact (Act.put_comm a _ _ fun t ht e => h j (by simp) o ho t e ht)
theorem actOf_set {v : Nat → Value} {L : Nat → Bool} {i : Nat} {o : Oper} (hL : L i = false) (ho : ops[i]? = some o) (hd : ∀ j, j ≠ i → ∀ oj, ops[j]? = some oj → ∀ t, oj.dst = some t → o.dst ≠ some t) :
    ∀ (l : List Nat) (a : Act), l.Nodup → i ∈ l → actOf ops v (fun j => if j = i then true else L j) l a = (actOf ops v L l a).put o.dst (v i)
  | [], _, _, h => by cases h
  | j :: l, a, hn, h => by
    obtain ⟨hnj, hnl⟩ := List.nodup_cons.1 hn
    simp only [actOf]
    by_cases hji : j = i
    · subst hji
      simp only [if_true, hL, ho, Bool.false_eq_true, if_false]
      rw [actOf_put l a fun k hk ok hok t ht => hd k (fun e => hnj (e ▸ hk)) ok hok t ht]
      congr 1
      refine actOf_congr l _ fun k hk => ?_
      have : k ≠ j := fun e => hnj (e ▸ hk)
      simp [this]
    · simp only [if_neg hji]
      exact actOf_set hL ho hd l _ hnl (by rcases List.mem_cons.1 h with rfl | h; exact absurd rfl hji; exact h)
theorem actOf_other {v : Nat → Value} {L : Nat → Bool} {t : Tmp} : ∀ (l : List Nat) (a : Act), (∀ j ∈ l, ∀ o, ops[j]? = some o → L j = true → o.dst ≠ some t) → (actOf ops v L l a).tmps.getD t undef = a.tmps.getD t undef
  | [], _, _ => rfl
  | j :: l, a, h => by
    simp only [actOf]
    rw [actOf_other l _ fun k hk => h k (by simp [hk])]
    cases hL : L j with
    | false => simp
    | true =>
      cases ho : ops[j]? with
      | none => simp
      | some o =>
        have := h j (by simp) o ho hL
        cases hd : o.dst with
        | none => simp [Act.put, hd]
        | some d =>
          rw [hd] at this
          have hne : d ≠ t := fun e => this (by rw [e])
          simp [Act.put, hd, hne]
theorem actOf_size {v : Nat → Value} {L : Nat → Bool} : ∀ (l : List Nat) (a : Act), (actOf ops v L l a).tmps.size = a.tmps.size
  | [], _ => rfl
  | j :: l, a => by
    simp only [actOf]
    rw [actOf_size l]
    cases L j with
    | false => simp
    | true =>
      cases ops[j]? with
      | none => simp
      | some o => cases hd : o.dst <;> simp [Act.put, hd]
theorem actOf_get {v : Nat → Value} {L : Nat → Bool} {i : Nat} {o : Oper} {t : Tmp} (ho : ops[i]? = some o) (ht : o.dst = some t) (hL : L i = true) (hd : ∀ j, j ≠ i → ∀ oj, ops[j]? = some oj → ∀ t, oj.dst = some t → o.dst ≠ some t) :
    ∀ (l : List Nat) (a : Act), l.Nodup → i ∈ l → t < a.tmps.size → (actOf ops v L l a).tmps.getD t undef = v i
  | [], _, _, h, _ => by cases h
  | j :: l, a, hn, h, hs => by
    obtain ⟨hnj, hnl⟩ := List.nodup_cons.1 hn
    simp only [actOf]
    by_cases hji : j = i
    · subst hji
      rw [actOf_other l _ fun k hk ok hok _ e => hd k (fun e => hnj (e ▸ hk)) ok hok t e ht]
      simp [hL, ho, ht, Act.put, hs]
    · refine actOf_get ho ht hL hd l _ hnl (by rcases List.mem_cons.1 h with rfl | h; exact absurd rfl hji; exact h) ?_
      have := actOf_size (ops := ops) (v := v) (L := L) [j] a
      simp only [actOf] at this
      rw [this]; exact hs


/-- What an operation of such a statement is: a value that is known, a new variable, a store into one. -/
inductive Kind where
  | val (v : Value)
  | new (t : TypeId) (z : Value)
  | put (j k : Nat) (cs : Array Value)

def Each (p : Nat → Oper → Kind → Prop) : Nat → List Oper → List Kind → Prop
  | _, [], [] => True
  | i, o :: l, k :: K => p i o k ∧ Each p (i + 1) l K
  | _, _, _ => False
theorem Each.get {p : Nat → Oper → Kind → Prop} : ∀ (l : List Oper) (K : List Kind) (n i : Nat) (o : Oper), Each p n l K → l[i]? = some o → ∃ k, K[i]? = some k ∧ p (n + i) o k
  | [], _, _, _, _, _, h => by simp at h
  | o' :: l, [], _, _, _, h, _ => h.elim
  | o' :: l, k :: K, n, 0, o, h, ho => by
    obtain rfl : o' = o := by simpa using ho
    exact ⟨k, by simp, h.1⟩
  | o' :: l, k :: K, n, i + 1, o, h, ho => by
    obtain ⟨k', h1, h2⟩ := Each.get l K (n + 1) i o h.2 (by simpa using ho)
    exact ⟨k', by simpa using h1, by rw [show n + (i + 1) = n + 1 + i from by omega]; exact h2⟩

theorem Each.len {p : Nat → Oper → Kind → Prop} : ∀ (l : List Oper) (K : List Kind) (n : Nat), Each p n l K → K.length = l.length
  | [], [], _, _ => rfl
  | _ :: l, _ :: K, n, h => by simp [Each.len l K (n + 1) h.2]
  | [], _ :: _, _, h => h.elim
  | _ :: _, [], _, h => h.elim
theorem actOf_none {v : Nat → Value} : ∀ (l : List Nat) (a : Act), actOf ops v (fun _ => false) l a = a
  | [], _ => rfl
  | j :: l, a => by simp only [actOf]; exact actOf_none l a

def putsOK (K : List Kind) : Bool := (List.range K.length).all fun i => (List.range K.length).all fun i' => i == i' || match K[i]?, K[i']? with | some (.put j _ _), some (.put j' _ _) => j != j' | _, _ => true

def bindsTo (o : Oper) (j : Nat) : Prop := ∃ e ∈ o.after, e.on = j ∧ Region.binds .any e = true

/-- What is asked of each. -/
def Asked (P : Program) (l : List Oper) (K : List Kind) (S : World → Prop) (a0 : Act) (_ : Nat) (o : Oper) : Kind → Prop
  | .val v => (∃ d, o.dst = some d) ∧ ∀ a w (C : Act → World → Prop) (R : Exit → Act → World → Prop), S w →
      (∀ j u d oj, K[j]? = some (.val u) → l[j]? = some oj → oj.dst = some d → bindsTo o j → a.tmps.getD d undef = u) →
      (∀ t, (∀ x ∈ l, x.dst ≠ some t) → a.tmps.getD t undef = a0.tmps.getD t undef) →
      (∀ w', Kept [] w w' → C (a.put o.dst v) w') → o.wp P a w C R
  | .new t z => (∃ d, o.dst = some d) ∧ o.op = .alloc t ∧ (P.info? t).map (·.zero) = some (some z)
  | .put j k cs => o.dst = none ∧ bindsTo o j ∧ bindsTo o k ∧ ∃ t z oj ok p c ts n, K[j]? = some (.new t z) ∧ K[k]? = some (.val (.agg cs)) ∧ l[j]? = some oj ∧ oj.dst = some p ∧ l[k]? = some ok ∧ ok.dst = some c ∧
      o.op = .store ts (.tmp p) (.tmp c) ∧ RowT P ts n ∧ z.cells.size = n ∧ cs.size = n ∧ cs.all (·.oneCell') = true

def checkM (l : List Oper) (n : Nat) : Bool := depB l.toArray && l.all (fun o => o.guard.isNone) && ((List.range l.length).all fun i => (List.range l.length).all fun j => i == j || (match l[i]?, l[j]? with | some x, some y => x.dst.isNone || x.dst != y.dst | _, _ => true)) && l.all fun o => match o.dst with | some d => decide (d < n) | none => true

def VK (K : List Kind) (γ : Nat → Nat) (j : Nat) : Value := match K[j]? with | some (.val v) => v | _ => .pointer (some ⟨γ j, 0, none⟩)

theorem wp_new {o : Oper} {a : Act} {w : World} {C : Act → World → Prop} {R : Exit → Act → World → Prop} {t : TypeId} {z : Value} (ho : o.op = .alloc t) (hz : (P.info? t).map (·.zero) = some (some z))
    (h : C (a.put o.dst (.pointer (some ⟨w.heap.size, 0, none⟩))) (w.alloc (.cells z.cells t))) : o.wp P a w C R := by
  cases hi : P.info? t with
  | none => simp [hi] at hz
  | some i =>
    have hz' : i.zero = some z := by simpa [hi] using hz
    unfold Oper.wp execOp
    simp [ho, Instr.alloc, zeroValue, typeInfo, hi, hz', newVar, newRow]
    exact h

theorem wp_callf {f : FuncId} {o : Oper} {a : Act} {w : World} {C : Act → World → Prop} {R : Exit → Act → World → Prop} {args : Array Operand} {ats : Array TypeId} (ho : o.op = .call { callee := .value (.func f), args := args, argTypes := ats })
    (hen : ∀ (xs : Array Value) w, (callFunc f xs).run P w = .ok (.enter f xs) w) {vs : Array Value} (hvs : args.map a.eval = vs) {v : Value} (hc : Calls P f vs w fun e w' => e = .returned v ∧ Kept [] w w') (h : ∀ w', Kept [] w w' → C (a.put o.dst v) w') : o.wp P a w C R := by
  unfold Oper.wp execOp
  simp only [ho, resolve, invoke, Sem.run_bind, Act.eval]
  rw [hvs]
  simp only [Deferred.ofValue, Sem.run_pure, Result.andThen_ok, Array.append_empty, Array.empty_append, hen, Oper.upon]
  refine hc.mono ?_
  rintro e w' ⟨rfl, hk⟩
  exact h w' hk

theorem wp_multi {id : Nat} {l : List Oper} {a0 : Act} {w0 : World} (hm : P.follows .mixedOrders = true) (K : List Kind) (S : World → Prop) (hch : checkM l a0.tmps.size = true) (hpk : putsOK K = true)
    (hS0 : S w0.drew) (hS : ∀ u u' T, S u → Kept T u u' → (∀ k ∈ T, w0.heap.size ≤ k) → S u') (hA : Each (Asked P l K S a0) 0 l K)
    (hQ : ∀ (γ : Nat → Nat) w', S w' → (∀ (j : Nat) t z, K[j]? = some (.new t z) → w0.heap.size ≤ γ j) → (∀ (j k : Nat) t z t' z', K[j]? = some (.new t z) → K[k]? = some (.new t' z') → j ≠ k → γ j ≠ γ k) →
      (∀ (i j k : Nat) cs t z, K[i]? = some (.put j k cs) → K[j]? = some (.new t z) → Blk w' (γ j) t cs) → Q .normal (actOf l.toArray (VK K γ) (fun _ => true) (List.range l.length) a0) w') : (Code.region id l.toArray true).wp P Q a0 w0 := by
  simp only [checkM, Bool.and_eq_true] at hch
  obtain ⟨⟨⟨hdep, hgd⟩, hdst⟩, hsz⟩ := hch
  have hd : ∀ (i : Nat) (o : Oper), l[i]? = some o → ∀ (j : Nat), j ≠ i → ∀ (oj : Oper), l[j]? = some oj → ∀ t, oj.dst = some t → o.dst ≠ some t := by
    intro i o ho j hj oj hoj t ht e
    have hil : i < l.length := (List.getElem?_eq_some_iff.1 ho).1
    have hjl : j < l.length := (List.getElem?_eq_some_iff.1 hoj).1
    have := List.all_eq_true.1 (List.all_eq_true.1 hdst j (by simpa using hjl)) i (by simpa using hil)
    simp [ho, hoj, ht, e, hj] at this
  have hlt : ∀ (i : Nat) (o : Oper) d, l[i]? = some o → o.dst = some d → d < a0.tmps.size := by
    intro i o d ho hdd
    have := List.all_eq_true.1 hsz o (List.mem_of_getElem? ho)
    simpa [hdd] using this
  let I : (Nat → Bool) → Act → World → Prop := fun L a w => ∃ γ : Nat → Nat, a = actOf l.toArray (VK K γ) L (List.range l.length) a0 ∧ S w ∧ w0.heap.size ≤ w.heap.size ∧
    (∀ (j : Nat) t z, K[j]? = some (.new t z) → L j = true → w0.heap.size ≤ γ j ∧ γ j < w.heap.size) ∧
    (∀ (j k : Nat) t z t' z', K[j]? = some (.new t z) → K[k]? = some (.new t' z') → L j = true → L k = true → j ≠ k → γ j ≠ γ k) ∧
    (∀ (j : Nat) t z, K[j]? = some (.new t z) → L j = true → ∃ cs, Blk w (γ j) t cs ∧ cs.size = z.cells.size ∧ ∀ (i k : Nat) cs', K[i]? = some (.put j k cs') → L i = true → cs = cs') ∧
    (∀ (i : Nat) (o : Oper), l[i]? = some o → L i = true → ∀ j, bindsTo o j → L j = true)
  have hget : ∀ (i : Nat) (o : Oper) (d : Tmp) (v : Nat → Value) (L : Nat → Bool), l[i]? = some o → o.dst = some d → L i = true → (actOf l.toArray v L (List.range l.length) a0).tmps.getD d undef = v i := by
    intro i o d v L ho hdd hL
    exact actOf_get (by simpa using ho) hdd hL (fun j hj oj hoj t ht => hd i o ho j hj oj (by simpa using hoj) t ht) _ _ List.nodup_range (by simpa using (List.getElem?_eq_some_iff.1 ho).1) (hlt i o d ho hdd)
  have hoth : ∀ (t : Tmp) (v : Nat → Value) (L : Nat → Bool), (∀ x ∈ l, x.dst ≠ some t) → (actOf l.toArray v L (List.range l.length) a0).tmps.getD t undef = a0.tmps.getD t undef := by
    intro t v L ht
    exact actOf_other _ _ fun j _ o ho _ => ht o (List.mem_of_getElem? (by simpa using ho))
  have hset : ∀ (i : Nat) (o : Oper) (v : Nat → Value) (L : Nat → Bool), l[i]? = some o → L i = false → (actOf l.toArray v L (List.range l.length) a0).put o.dst (v i) = actOf l.toArray v (fun j => if j = i then true else L j) (List.range l.length) a0 := by
    intro i o v L ho hL
    exact (actOf_set hL (by simpa using ho) (fun j hj oj hoj t ht => hd i o ho j hj oj (by simpa using hoj) t ht) _ _ List.nodup_range (by simpa using (List.getElem?_eq_some_iff.1 ho).1)).symm
  refine wp_region_any hm ?_
  refine wpAny_inv I ?_ hdep ?_ ?_ _ _ _ _ (by simp) (by simp) ?_
  · rintro L L' a w hL ⟨γ, h1, h2, h3, h4, h5, h6, h7⟩
    have hin : ∀ (j : Nat) k, K[j]? = some k → L j = L' j := fun j k hk => hL j (by have := (List.getElem?_eq_some_iff.1 hk).1; have := hA.len; simp; omega)
    refine ⟨γ, h1.trans (actOf_congr _ _ fun j hj => ⟨hL j (by simpa using hj), fun _ => rfl⟩), h2, h3, fun j t z hk hl => h4 j t z hk ((hin j _ hk).trans hl), fun j k t z t' z' hj hk hl hl' => h5 j k t z t' z' hj hk ((hin j _ hj).trans hl) ((hin k _ hk).trans hl'), fun j t z hk hl => ?_, fun i o ho hl j hb => ?_⟩
    · obtain ⟨cs, hb, hs, hp⟩ := h6 j t z hk ((hin j _ hk).trans hl)
      exact ⟨cs, hb, hs, fun i k cs' hi hl' => hp i k cs' hi ((hin i _ hi).trans hl')⟩
    · have hi : i < l.length := (List.getElem?_eq_some_iff.1 ho).1
      have h8 := h7 i o ho ((hL i (by simpa using hi)).trans hl) j hb
      obtain ⟨e, he, rfl, hbe⟩ := hb
      have := depB_spec hdep i o (by simpa using ho) e he hbe
      exact (hL e.on (by simp; omega)).symm.trans h8
  · rintro L a w i o ⟨γ, rfl, h2, h3, h4, h5, h6, h7⟩ ho hLi hdeps
    have ho' : l[i]? = some o := by simpa using ho
    obtain ⟨kd, hkd, hp⟩ := Each.get l K 0 i o hA ho'
    have hg : o.guard = none := by
      have := List.all_eq_true.1 hgd o (List.mem_of_getElem? ho')
      simpa using this
    have hbound : ∀ j, bindsTo o j → L j = true := by
      rintro j ⟨e, he, rfl, hb⟩
      exact hdeps e he hb
    have h7' : ∀ (i' : Nat) (o' : Oper), l[i']? = some o' → (fun j => if j = i then true else L j) i' = true → ∀ j, bindsTo o' j → (fun j => if j = i then true else L j) j = true := by
      intro i' o' ho2 hl j hb
      dsimp only at hl ⊢
      by_cases hji : j = i
      · rw [if_pos hji]
      · rw [if_neg hji]
        by_cases hii : i' = i
        · subst hii
          rw [ho'] at ho2; cases ho2
          exact hbound j hb
        · rw [if_neg hii] at hl
          exact h7 i' o' ho2 hl j hb
    unfold wpOp
    simp only [ho]
    rw [if_pos (by simp [Region.wanted, hg])]
    refine .inl ?_
    cases kd with
    | val v =>
      obtain ⟨_, hop⟩ := hp
      have hne : ∀ (j : Nat) t z, K[j]? = some (.new t z) → (if j = i then true else L j) = true → L j = true := by
        intro j t z hk hl
        by_cases hji : j = i
        · subst hji; rw [hkd] at hk; cases hk
        · rwa [if_neg hji] at hl
      refine hop _ w _ _ h2 (fun j u d oj hK hoj hdj hb => ?_) (fun t ht => hoth t _ L ht) (fun w' hk => ⟨γ, ?_, hS _ _ [] h2 hk (by simp), Nat.le_trans h3 hk.size, fun j t z hj hl => ?_, fun j k t z t' z' hj hk' hl hl' => h5 j k t z t' z' hj hk' (hne j t z hj hl) (hne k t' z' hk' hl'), fun j t z hj hl => ?_, h7'⟩)
      · rw [hget j oj d _ L hoj hdj (hbound j hb)]; unfold VK; rw [hK]
      · have e : VK K γ i = v := by unfold VK; rw [hkd]
        rw [← e]; exact hset i o _ L ho' hLi
      · have := h4 j t z hj (hne j t z hj hl)
        exact ⟨this.1, Nat.lt_of_lt_of_le this.2 hk.size⟩
      · obtain ⟨cs, hb, hs, hpp⟩ := h6 j t z hj (hne j t z hj hl)
        refine ⟨cs, hb.kept hk (by simp), hs, fun i' k' cs' hi' hl' => hpp i' k' cs' hi' ?_⟩
        dsimp only at hl'
        by_cases hii : i' = i
        · subst hii; rw [hkd] at hi'; cases hi'
        · rwa [if_neg hii] at hl'
    | new t z =>
      obtain ⟨_, hop, hz⟩ := hp
      refine wp_new hop hz ?_
      have hk : Kept [] w (w.alloc (.cells z.cells t)) := (Kept.refl [] w).alloc _
      refine ⟨fun j => if j = i then w.heap.size else γ j, ?_, hS _ _ [] h2 hk (by simp), Nat.le_trans h3 hk.size, fun j t' z' hj hl => ?_, fun j k t1 z1 t2 z2 hj hk' hl hl' hjk => ?_, fun j t' z' hj hl => ?_, h7'⟩
      · have e1 : actOf l.toArray (VK K γ) L (List.range l.length) a0 = actOf l.toArray (VK K fun j => if j = i then w.heap.size else γ j) L (List.range l.length) a0 := by
          refine actOf_congr _ _ fun j _ => ⟨rfl, fun hl => ?_⟩
          have hji : j ≠ i := fun e => by rw [e, hLi] at hl; cases hl
          unfold VK
          simp [hji]
        have e2 : VK K (fun j => if j = i then w.heap.size else γ j) i = .pointer (some ⟨w.heap.size, 0, none⟩) := by
          unfold VK; rw [hkd]; simp
        rw [e1, ← e2]; exact hset i o _ L ho' hLi
      · dsimp only at hl ⊢
        by_cases hji : j = i
        · rw [if_pos hji]; exact ⟨h3, by simp⟩
        · rw [if_neg hji] at hl ⊢
          have := h4 j t' z' hj hl
          exact ⟨this.1, Nat.lt_of_lt_of_le this.2 hk.size⟩
      · dsimp only at hl hl' ⊢
        by_cases hji : j = i
        · by_cases hki : k = i
          · omega
          · rw [if_neg hki] at hl'
            rw [if_pos hji, if_neg hki]
            have := (h4 k t2 z2 hk' hl').2
            omega
        · by_cases hki : k = i
          · rw [if_neg hji] at hl
            rw [if_neg hji, if_pos hki]
            have := (h4 j t1 z1 hj hl).2
            omega
          · rw [if_neg hji] at hl
            rw [if_neg hki] at hl'
            rw [if_neg hji, if_neg hki]
            exact h5 j k t1 z1 t2 z2 hj hk' hl hl' hjk
      · dsimp only at hl ⊢
        by_cases hji : j = i
        · subst hji
          rw [hkd] at hj; cases hj
          rw [if_pos rfl]
          refine ⟨z.cells, Blk.new _ _ _, rfl, fun i' k' cs' hi' hl' => ?_⟩
          exfalso
          obtain ⟨oi, hoi⟩ : ∃ oi, l[i']? = some oi := ⟨_, List.getElem?_eq_getElem (by have := (List.getElem?_eq_some_iff.1 hi').1; have := hA.len; omega)⟩
          obtain ⟨kd', hkd', hp'⟩ := Each.get l K 0 i' oi hA hoi
          rw [hi'] at hkd'; cases hkd'
          obtain ⟨_, hbj, _⟩ := hp'
          have hii : i' ≠ j := fun e => by rw [e, hkd] at hi'; cases hi'
          rw [if_neg hii] at hl'
          have := h7 i' oi hoi hl' j hbj
          rw [hLi] at this; cases this
        · rw [if_neg hji] at hl
          simp only [if_neg hji]
          obtain ⟨cs, hb, hs, hpp⟩ := h6 j t' z' hj hl
          refine ⟨cs, hb.kept hk (by simp), hs, fun i' k' cs' hi' hl' => hpp i' k' cs' hi' ?_⟩

          by_cases hii : i' = i
          · subst hii; rw [hkd] at hi'; cases hi'
          · rwa [if_neg hii] at hl'
    | put j k cs =>
      obtain ⟨hdn, hbj, hbk, t, z, oj, ok, p, c, ts, n, hKj, hKk, hoj, hpj, hok, hck, hop, hT, hz1, hz2, h1c⟩ := hp
      have hLj := hbound j hbj
      have hLk := hbound k hbk
      obtain ⟨cs0, hb, hs0, _⟩ := h6 j t z hKj hLj
      obtain ⟨⟨d, hu, hd3⟩, hsz2⟩ := hT
      have hx : (actOf l.toArray (VK K γ) L (List.range l.length) a0).eval (.tmp p) = .pointer (some ⟨γ j, 0, none⟩) := by
        show (actOf l.toArray (VK K γ) L (List.range l.length) a0).tmps.getD p undef = _
        rw [hget j oj p _ L hoj hpj hLj]; unfold VK; rw [hKj]
      have hy : (actOf l.toArray (VK K γ) L (List.range l.length) a0).eval (.tmp c) = .agg cs := by
        show (actOf l.toArray (VK K γ) L (List.range l.length) a0).tmps.getD c undef = _
        rw [hget k ok c _ L hok hck hLk]; unfold VK; rw [hKk]
      refine wp_store_row ts (.tmp p) (.tmp c) hop (γ j) cs hx hy t cs0 hb (by rw [hsz2, hz2]) (by omega) h1c ?_
      have hk : Kept [γ j] w (w.setRow (γ j) cs) := (Kept.refl [γ j] w).setRow (.inl (by simp)) cs
      have hne : ∀ (j' : Nat) t' z', K[j']? = some (.new t' z') → (if j' = i then true else L j') = true → L j' = true := by
        intro j' t' z' hk' hl
        by_cases hji : j' = i
        · subst hji; rw [hkd] at hk'; cases hk'
        · rwa [if_neg hji] at hl
      refine ⟨γ, ?_, hS _ _ [γ j] h2 hk (by simpa using (h4 j t z hKj hLj).1), Nat.le_trans h3 hk.size, fun j' t' z' hj hl => ?_, fun j' k' t1 z1 t2 z2 hj hk' hl hl' => h5 j' k' t1 z1 t2 z2 hj hk' (hne j' t1 z1 hj hl) (hne k' t2 z2 hk' hl'), fun j' t' z' hj hl => ?_, h7'⟩
      · have := hset i o (VK K γ) L ho' hLi
        rw [hdn] at this ⊢
        exact this
      · have := h4 j' t' z' hj (hne j' t' z' hj hl)
        exact ⟨this.1, Nat.lt_of_lt_of_le this.2 hk.size⟩
      · have hl2 := hne j' t' z' hj hl
        by_cases hjj : j' = j
        · subst hjj
          rw [hKj] at hj; cases hj
          refine ⟨cs, hb.setRow_ cs, by omega, fun i' k' cs' hi' hl' => ?_⟩
          by_cases hii : i' = i
          · subst hii; rw [hkd] at hi'; cases hi'; rfl
          · exfalso
            have hiK : i < K.length := (List.getElem?_eq_some_iff.1 hkd).1
            have hiK' : i' < K.length := (List.getElem?_eq_some_iff.1 hi').1
            have := List.all_eq_true.1 (List.all_eq_true.1 hpk i (by simpa using hiK)) i' (by simpa using hiK')
            simp [hkd, hi', Ne.symm hii] at this
        · obtain ⟨cs1, hb1, hs1, hp1⟩ := h6 j' t' z' hj hl2
          refine ⟨cs1, hb1.kept hk (by simpa using h5 j' j t' z' t z hj hKj hl2 hLj hjj), hs1, fun i' k' cs' hi' hl' => hp1 i' k' cs' hi' ?_⟩
          dsimp only at hl'
          by_cases hii : i' = i
          · subst hii; rw [hkd] at hi'; cases hi'; exact absurd rfl hjj
          · rwa [if_neg hii] at hl'
  · rintro L a w ⟨γ, rfl, h2, h3, h4, h5, h6, h7⟩ hall
    have hall' : ∀ (j : Nat) k, K[j]? = some k → L j = true := fun j k hk => hall j (by have := (List.getElem?_eq_some_iff.1 hk).1; have := hA.len; simp; omega)
    have e : actOf l.toArray (VK K γ) L (List.range l.length) a0 = actOf l.toArray (VK K γ) (fun _ => true) (List.range l.length) a0 := actOf_congr _ _ fun j hj => ⟨hall j (by simpa using hj), fun _ => rfl⟩
    rw [e]
    refine hQ γ w h2 (fun j t z hj => (h4 j t z hj (hall' j _ hj)).1) (fun j k t z t' z' hj hk hjk => h5 j k t z t' z' hj hk (hall' j _ hj) (hall' k _ hk) hjk) fun i j k cs tt zz hi hjj => ?_
    obtain ⟨oi, hoi⟩ : ∃ oi, l[i]? = some oi := ⟨_, List.getElem?_eq_getElem (by have := (List.getElem?_eq_some_iff.1 hi).1; have := hA.len; omega)⟩
    obtain ⟨kd, hkd, hp⟩ := Each.get l K 0 i oi hA hoi
    rw [hi] at hkd; cases hkd
    obtain ⟨cs0, hb, _, hpp⟩ := h6 j tt zz hjj (hall' j _ hjj)
    rw [← hpp i k cs hi (hall' i _ hi)]; exact hb
  · have hf : ∀ (j : Nat), j < l.length → (Array.replicate l.toArray.size false).getD j true = false := by
      intro j hj; simp [hj]
    have hfk : ∀ (j : Nat) k, K[j]? = some k → (Array.replicate l.toArray.size false).getD j true = false := fun j k hk => hf j (by have := (List.getElem?_eq_some_iff.1 hk).1; have := hA.len; omega)
    refine ⟨fun _ => 0, ?_, hS0, Nat.le_refl _, fun j t z hj hl => ?_, fun j k t z t' z' hj _ hl => ?_, fun j t z hj hl => ?_, fun i o ho hl => ?_⟩
    · rw [actOf_congr (L' := fun _ => false) (v' := VK K fun _ => 0) _ _ fun j hj => ⟨hf j (by simpa using hj), fun _ => rfl⟩, actOf_none]
    · exact absurd ((hfk j _ hj).symm.trans hl) (by simp)
    · exact absurd ((hfk j _ hj).symm.trans hl) (by simp)
    · exact absurd ((hfk j _ hj).symm.trans hl) (by simp)
    · exact absurd ((hf i (List.getElem?_eq_some_iff.1 ho).1).symm.trans hl) (by simp)

end
end Go.Txt

namespace Go.Mem
open Go.RowKit
variable {P : Program} {w : World} {a : Act} {t : TypeId} {n : Nat}
theorem results_two {fn : Func} {p u : Tmp} {ty t2 : TypeId} (h : fn.results = #[.cell p ty, .cell u t2]) (tmps : Array Value) (P : Program) (w : World) :
    (results fn tmps).run P w =
      ((asAddr (tmps.getD p undef)).run P w).andThen fun a w₁ => ((loadVar ty a).run P w₁).andThen fun v w₂ => ((asAddr (tmps.getD u undef)).run P w₂).andThen fun a w₁ => ((loadVar t2 a).run P w₁).andThen fun v2 w₂ => .ok (.tuple #[v, v2]) w₂ := by
  simp only [results, h]
  simp [Sem.run_bind]
theorem ret_rows {fn : Func} {R : Ending → World → Prop} (T : RowT P t n) {p u : Tmp} (hres : fn.results = #[.cell p t, .cell u t]) {g g2 : Nat} (hp : a.tmps.getD p undef = .pointer (some ⟨g, 0, none⟩)) (hp2 : a.tmps.getD u undef = .pointer (some ⟨g2, 0, none⟩)) {bt bt2 : TypeId} {cs cs2 : Array Value}
    (hb : Blk w g bt cs) (hn : cs.size = n) (hb2 : Blk w g2 bt2 cs2) (hn2 : cs2.size = n) (hd : a.defers = []) (h : R (.returned (.tuple #[.agg cs, .agg cs2])) w) : bodyPost P fn R .ret a w := by
  obtain ⟨⟨d, hu, hd2⟩, hs⟩ := T
  refine bodyPost_ret ?_ hd h
  rw [results_two hres, hp, hp2]
  simp only [asAddr, Sem.run_pure, Result.andThen_ok, run_loadVar_row (P := P) w g bt t cs (0, 0) d hb hu (by cases d <;> simp_all) (by rw [hs, hn]), run_loadVar_row (P := P) w g2 bt2 t cs2 (0, 0) d hb2 hu (by cases d <;> simp_all) (by rw [hs, hn2])]
end Go.Mem
namespace Go.Proofs.Ytkflljjcgihaoaa
open Go.RowKit Go.Mem

/-- Rows that lie in memory, made since w0. -/
structure Els (w0 : World) (L : List (Nat × (Nat → Nat))) (u : World) : Prop where
  s : ∀ p ∈ L, Blk u p.1 27 (uv (fam 5 p.2)).toArray
  f : ∀ p ∈ L, w0.heap.size ≤ p.1
  k : Kept [] w0 u
theorem Els.none (w0 : World) : Els w0 [] w0 := ⟨fun _ h => absurd h (by simp), fun _ h => absurd h (by simp), Kept.refl _ _⟩
theorem Els.kept {w0 : World} {L : List (Nat × (Nat → Nat))} {u u' : World} (h : Els w0 L u) (hk : Kept [] u u') : Els w0 L u' :=
  ⟨fun p hp => (h.s p hp).kept hk (by simp), h.f, h.k.then0 hk⟩
theorem Els.cons {w0 : World} {g : Nat} {X : Nat → Nat} {L : List (Nat × (Nat → Nat))} {u : World} (h : Els w0 L u) (b : Blk u g 27 (uv (fam 5 X)).toArray) (hl : w0.heap.size ≤ g) : Els w0 ((g, X) :: L) u := by
  refine ⟨fun p hp => ?_, fun p hp => ?_, h.k⟩
  · rcases List.mem_cons.1 hp with rfl | hp
    · exact b
    · exact h.s p hp
  · rcases List.mem_cons.1 hp with rfl | hp
    · exact hl
    · exact h.f p hp
theorem Els.put {w0 : World} {g : Nat} {X : Nat → Nat} {L : List (Nat × (Nat → Nat))} {u u1 u2 : World} {t : TypeId} {cs : Array Value} (h : Els w0 L u) (m : Made u u1 g t cs) (b : Blk u2 g 27 (uv (fam 5 X)).toArray) (k : Kept [g] u1 u2) : Els w0 ((g, X) :: L) u2 := by
  have h1 := h.kept m.kept
  have hl := Nat.le_trans h.k.size m.le
  refine Els.cons ⟨fun p hp => ?_, h.f, h1.k.then1 k hl⟩ b hl
  exact (h1.s p hp).kept k (by simpa using m.ne (h.s p hp).lt)
theorem Els.fresh {w0 wr : World} {L : List (Nat × (Nat → Nat))} (hr : Els w0 L wr) (u u' : World) (T : List Nat) (h : Els w0 L u) (hk : Kept T u u') (hT : ∀ k ∈ T, wr.heap.size ≤ k) : Els w0 L u' :=
  ⟨fun p hp => (h.s p hp).kept hk fun hh => by have := hT _ hh; have := (hr.s p hp).lt; omega, h.f, h.k.fresh hk fun k hh => Nat.le_trans hr.k.size (hT k hh)⟩
theorem Els.drew {w0 : World} {L : List (Nat × (Nat → Nat))} {u : World} (h : Els w0 L u) : Els w0 L u.drew := ⟨h.s, h.f, h.k.drew⟩
/-- .. and two rows that change. -/
structure Fin (w0 : World) (g2 g3 : Nat) (L : List (Nat × (Nat → Nat))) (u : World) : Prop where
  s : ∀ p ∈ L, Blk u p.1 27 (uv (fam 5 p.2)).toArray
  f : ∀ p ∈ L, w0.heap.size ≤ p.1
  k : Kept [g2, g3] w0 u
  b2 : ∃ f : Nat → Nat, Blk u g2 27 (uv (fam 5 f)).toArray
  b3 : ∃ f : Nat → Nat, Blk u g3 27 (uv (fam 5 f)).toArray
  l2 : g2 < w0.heap.size
  l3 : g3 < w0.heap.size
  ne : g2 ≠ g3
theorem Els.fin {w0 : World} {g2 g3 : Nat} {f2 f3 : Nat → Nat} {L : List (Nat × (Nat → Nat))} {u : World} (h : Els w0 L u) (b2 : Blk w0 g2 27 (uv (fam 5 f2)).toArray) (b3 : Blk w0 g3 27 (uv (fam 5 f3)).toArray) (ne : g2 ≠ g3) : Fin w0 g2 g3 L u :=
  ⟨h.s, h.f, h.k.of0, ⟨_, b2.kept h.k (by simp)⟩, ⟨_, b3.kept h.k (by simp)⟩, b2.lt, b3.lt, ne⟩
theorem Fin.kept {w0 : World} {g2 g3 : Nat} {L : List (Nat × (Nat → Nat))} {u u' : World} (h : Fin w0 g2 g3 L u) (hk : Kept [] u u') : Fin w0 g2 g3 L u' :=
  ⟨fun p hp => (h.s p hp).kept hk (by simp), h.f, h.k.then0 hk, h.b2.elim fun f b => ⟨f, b.kept hk (by simp)⟩, h.b3.elim fun f b => ⟨f, b.kept hk (by simp)⟩, h.l2, h.l3, h.ne⟩
theorem Fin.put2 {w0 : World} {g2 g3 : Nat} {L : List (Nat × (Nat → Nat))} {u u' : World} {X : Nat → Nat} (h : Fin w0 g2 g3 L u) (b : Blk u' g2 27 (uv (fam 5 X)).toArray) (k : Kept [g2] u u') : Fin w0 g2 g3 L u' :=
  ⟨fun p hp => (h.s p hp).kept k (by have := h.f p hp; have := h.l2; simp; omega), h.f, h.k.trans' (k.more fun x _ hx => by simp at hx; simp [hx]), ⟨X, b⟩, h.b3.elim fun f b => ⟨f, b.kept k (by simpa using Ne.symm h.ne)⟩, h.l2, h.l3, h.ne⟩
theorem Fin.put3 {w0 : World} {g2 g3 : Nat} {L : List (Nat × (Nat → Nat))} {u u' : World} {X : Nat → Nat} (h : Fin w0 g2 g3 L u) (b : Blk u' g3 27 (uv (fam 5 X)).toArray) (k : Kept [g3] u u') : Fin w0 g2 g3 L u' :=
  ⟨fun p hp => (h.s p hp).kept k (by have := h.f p hp; have := h.l3; simp; omega), h.f, h.k.trans' (k.more fun x _ hx => by simp at hx; simp [hx]), h.b2.elim fun f b => ⟨f, b.kept k (by simpa using h.ne)⟩, ⟨X, b⟩, h.l2, h.l3, h.ne⟩
theorem enters_square (xs : Array Value) (w : World) : (callFunc 72 xs).run Try.prog w = .ok (.enter 72 xs) w := enters_of (c := _) Try.func72 (by kernel_rfl) rfl xs w
theorem enters_squared (xs : Array Value) (w : World) : (callFunc 71 xs).run Try.prog w = .ok (.enter 71 xs) w := enters_of (c := _) Try.func71 (by kernel_rfl) rfl xs w
theorem enters_mul (xs : Array Value) (w : World) : (callFunc 33 xs).run Try.prog w = .ok (.enter 33 xs) w := enters_of (c := _) Try.func33 (by kernel_rfl) rfl xs w
end Go.Proofs.Ytkflljjcgihaoaa

namespace Go.Proofs.Ytkflljjcgihaoaa
open Go.RowKit Go.Mem Go.Txt

def o_two (F : Nat → Nat) : Nat → Nat := sqF F
def o_qa (F : Nat → Nat) : Nat → Nat := sqn 2 (o_two F)
def o_nine (F : Nat → Nat) : Nat → Nat := mlF (o_qa F) F
def o_elev (F : Nat → Nat) : Nat → Nat := mlF (o_nine F) (o_two F)
def o_qb (F : Nat → Nat) : Nat → Nat := sqF (o_elev F)
def o_n5 (F : Nat → Nat) : Nat → Nat := mlF (o_qb F) (o_nine F)
def o_qc (F : Nat → Nat) : Nat → Nat := sqn 5 (o_n5 F)
def o_n10 (F : Nat → Nat) : Nat → Nat := mlF (o_qc F) (o_n5 F)
def o_qd (F : Nat → Nat) : Nat → Nat := sqn 10 (o_n10 F)
def o_n20 (F : Nat → Nat) : Nat → Nat := mlF (o_qd F) (o_n10 F)
def o_qe (F : Nat → Nat) : Nat → Nat := sqn 20 (o_n20 F)
def o_qf (F : Nat → Nat) : Nat → Nat := mlF (o_qe F) (o_n20 F)
def o_qg (F : Nat → Nat) : Nat → Nat := sqn 10 (o_qf F)
def o_n50 (F : Nat → Nat) : Nat → Nat := mlF (o_qg F) (o_n10 F)
def o_qh (F : Nat → Nat) : Nat → Nat := sqn 50 (o_n50 F)
def o_n100 (F : Nat → Nat) : Nat → Nat := mlF (o_qh F) (o_n50 F)
def o_qi (F : Nat → Nat) : Nat → Nat := sqn 100 (o_n100 F)
def o_qj (F : Nat → Nat) : Nat → Nat := mlF (o_qi F) (o_n100 F)
def o_qk (F : Nat → Nat) : Nat → Nat := sqn 50 (o_qj F)
def o_nn (F : Nat → Nat) : Nat → Nat := mlF (o_qk F) (o_n50 F)
theorem o_two_lim {F : Nat → Nat} (h : Lim F) : Lim (o_two F) := sqF_lim h
theorem o_qa_lim {F : Nat → Nat} (h : Lim F) : Lim (o_qa F) := sqn_lim (o_two_lim h) 2
theorem o_nine_lim {F : Nat → Nat} (h : Lim F) : Lim (o_nine F) := mlF_lim (o_qa_lim h) h
theorem o_elev_lim {F : Nat → Nat} (h : Lim F) : Lim (o_elev F) := mlF_lim (o_nine_lim h) (o_two_lim h)
theorem o_qb_lim {F : Nat → Nat} (h : Lim F) : Lim (o_qb F) := sqF_lim (o_elev_lim h)
theorem o_n5_lim {F : Nat → Nat} (h : Lim F) : Lim (o_n5 F) := mlF_lim (o_qb_lim h) (o_nine_lim h)
theorem o_qc_lim {F : Nat → Nat} (h : Lim F) : Lim (o_qc F) := sqn_lim (o_n5_lim h) 5
theorem o_n10_lim {F : Nat → Nat} (h : Lim F) : Lim (o_n10 F) := mlF_lim (o_qc_lim h) (o_n5_lim h)
theorem o_qd_lim {F : Nat → Nat} (h : Lim F) : Lim (o_qd F) := sqn_lim (o_n10_lim h) 10
theorem o_n20_lim {F : Nat → Nat} (h : Lim F) : Lim (o_n20 F) := mlF_lim (o_qd_lim h) (o_n10_lim h)
theorem o_qe_lim {F : Nat → Nat} (h : Lim F) : Lim (o_qe F) := sqn_lim (o_n20_lim h) 20
theorem o_qf_lim {F : Nat → Nat} (h : Lim F) : Lim (o_qf F) := mlF_lim (o_qe_lim h) (o_n20_lim h)
theorem o_qg_lim {F : Nat → Nat} (h : Lim F) : Lim (o_qg F) := sqn_lim (o_qf_lim h) 10
theorem o_n50_lim {F : Nat → Nat} (h : Lim F) : Lim (o_n50 F) := mlF_lim (o_qg_lim h) (o_n10_lim h)
theorem o_qh_lim {F : Nat → Nat} (h : Lim F) : Lim (o_qh F) := sqn_lim (o_n50_lim h) 50
theorem o_n100_lim {F : Nat → Nat} (h : Lim F) : Lim (o_n100 F) := mlF_lim (o_qh_lim h) (o_n50_lim h)
theorem o_qi_lim {F : Nat → Nat} (h : Lim F) : Lim (o_qi F) := sqn_lim (o_n100_lim h) 100
theorem o_qj_lim {F : Nat → Nat} (h : Lim F) : Lim (o_qj F) := mlF_lim (o_qi_lim h) (o_n100_lim h)
theorem o_qk_lim {F : Nat → Nat} (h : Lim F) : Lim (o_qk F) := sqn_lim (o_qj_lim h) 50
theorem o_nn_lim {F : Nat → Nat} (h : Lim F) : Lim (o_nn F) := mlF_lim (o_qk_lim h) (o_n50_lim h)
set_option maxRecDepth 100000 in
set_option maxHeartbeats 4000000 in
theorem ones_any (F : Nat → Nat) (hF : Lim F) (w : World) :
    Calls Try.prog 70 #[el F] w fun e w' => e = .returned (.tuple #[el (o_nn F), el (o_elev F)]) ∧ Kept [] w w' := by
  have c_two : SqC F (o_two F) := sqF_any _ hF
  have c_qa : SnC 2 (o_two F) (o_qa F) := sqn_any 2 _ (o_two_lim hF) (by decide)
  have c_nine : MlC (o_qa F) F (o_nine F) := mlF_any _ _ (o_qa_lim hF) hF
  have c_elev : MlC (o_nine F) (o_two F) (o_elev F) := mlF_any _ _ (o_nine_lim hF) (o_two_lim hF)
  have c_qb : SqC (o_elev F) (o_qb F) := sqF_any _ (o_elev_lim hF)
  have c_n5 : MlC (o_qb F) (o_nine F) (o_n5 F) := mlF_any _ _ (o_qb_lim hF) (o_nine_lim hF)
  have c_qc : SnC 5 (o_n5 F) (o_qc F) := sqn_any 5 _ (o_n5_lim hF) (by decide)
  have c_n10 : MlC (o_qc F) (o_n5 F) (o_n10 F) := mlF_any _ _ (o_qc_lim hF) (o_n5_lim hF)
  have c_qd : SnC 10 (o_n10 F) (o_qd F) := sqn_any 10 _ (o_n10_lim hF) (by decide)
  have c_n20 : MlC (o_qd F) (o_n10 F) (o_n20 F) := mlF_any _ _ (o_qd_lim hF) (o_n10_lim hF)
  have c_qe : SnC 20 (o_n20 F) (o_qe F) := sqn_any 20 _ (o_n20_lim hF) (by decide)
  have c_qf : MlC (o_qe F) (o_n20 F) (o_qf F) := mlF_any _ _ (o_qe_lim hF) (o_n20_lim hF)
  have c_qg : SnC 10 (o_qf F) (o_qg F) := sqn_any 10 _ (o_qf_lim hF) (by decide)
  have c_n50 : MlC (o_qg F) (o_n10 F) (o_n50 F) := mlF_any _ _ (o_qg_lim hF) (o_n10_lim hF)
  have c_qh : SnC 50 (o_n50 F) (o_qh F) := sqn_any 50 _ (o_n50_lim hF) (by decide)
  have c_n100 : MlC (o_qh F) (o_n50 F) (o_n100 F) := mlF_any _ _ (o_qh_lim hF) (o_n50_lim hF)
  have c_qi : SnC 100 (o_n100 F) (o_qi F) := sqn_any 100 _ (o_n100_lim hF) (by decide)
  have c_qj : MlC (o_qi F) (o_n100 F) (o_qj F) := mlF_any _ _ (o_qi_lim hF) (o_n100_lim hF)
  have c_qk : SnC 50 (o_qj F) (o_qk F) := sqn_any 50 _ (o_qj_lim hF) (by decide)
  have c_nn : MlC (o_qk F) (o_n50 F) (o_nn F) := mlF_any _ _ (o_qk_lim hF) (o_n50_lim hF)
  generalize o_two F = two, o_qa F = qa, o_nine F = nine, o_elev F = elev, o_qb F = qb, o_n5 F = n5, o_qc F = qc, o_n10 F = n10, o_qd F = qd, o_n20 F = n20, o_qe F = qe, o_qf F = qf, o_qg F = qg, o_n50 F = n50, o_qh F = qh, o_n100 F = n100, o_qi F = qi, o_qj F = qj, o_qk F = qk, o_nn F = nn at *
  replace c_two := Lib.hid c_two
  replace c_qa := Lib.hid c_qa
  replace c_nine := Lib.hid c_nine
  replace c_elev := Lib.hid c_elev
  replace c_qb := Lib.hid c_qb
  replace c_n5 := Lib.hid c_n5
  replace c_qc := Lib.hid c_qc
  replace c_n10 := Lib.hid c_n10
  replace c_qd := Lib.hid c_qd
  replace c_n20 := Lib.hid c_n20
  replace c_qe := Lib.hid c_qe
  replace c_qf := Lib.hid c_qf
  replace c_qg := Lib.hid c_qg
  replace c_n50 := Lib.hid c_n50
  replace c_qh := Lib.hid c_qh
  replace c_n100 := Lib.hid c_n100
  replace c_qi := Lib.hid c_qi
  replace c_qj := Lib.hid c_qj
  replace c_qk := Lib.hid c_qk
  replace c_nn := Lib.hid c_nn
  clear hF
  go_enter Try.func70, Try.ntmps70
  go_wp2_with (first
    | ((with_reducible refine wpl_box (o := ⟨some 1, _, _, _, _, _⟩) (v := el F) rfl (.tmp 0) rfl rfl ?_); intro g1 w1 m1)
    | ((with_reducible refine wpl_new (o := ⟨some 2, _, _, _, _, _⟩) rfl rfl zeroEl ?_); intro g2 w2 m2)
    | ((with_reducible refine wpl_new (o := ⟨some 3, _, _, _, _, _⟩) rfl rfl zeroEl ?_); intro g3 w3 m3; have H := Lib.hid (Els.none w3); have D := Lib.hid (And.intro (Nat.le_trans m1.kept.size m2.le) (And.intro (Nat.le_trans (m1.kept.then0 m2.kept).size m3.le) (And.intro (m3.ne m2.blk.lt) ((m1.kept.then0 m2.kept).then0 m3.kept)))); have B1 := Lib.hid ((m1.blk.kept m2.kept (by simp)).kept m3.kept (by simp)); have B2 := Lib.hid (m2.blk.kept m3.kept (by simp)); have B3 := Lib.hid m3.blk; clear m1 m2 m3)
    | (with_reducible refine wpl_load_row (o := ⟨some 12, _, _, _, _, _⟩) structEl rfl (.tmp 1) rfl rfl (B1.out.kept H.out.k (by simp)) rfl ?_)
    | (go_at_call 72; (with_reducible refine (c_two.out _).mono ?_); rintro e u1 ⟨rfl, kk⟩; have H := Lib.hid (H.out.kept kk); clear kk)
    | ((with_reducible refine wpl_new (o := ⟨some 4, _, _, _, _, _⟩) rfl rfl zeroEl ?_); intro q4 x4 m4)
    | ((with_reducible refine wpl_store_row (o := ⟨none, .store 27 (.tmp 4) (.tmp 13), _, _, _, _⟩) structEl rfl (.tmp 4) (.tmp 13) rfl rfl rfl m4.blk rfl rfl (one_el _) ?_); intro v4 b4 k4; have H := Lib.hid (H.out.put m4 b4 k4); clear m4 b4 k4))
  refine wp_multi (by kernel_rfl) [.val (el two), .val (el qa), .val (el F), .val (el nine), .new 27 (el nought), .put 4 3 (uv (fam 5 nine)).toArray] (Els w3 [(q4, two)]) (by kernel_rfl) (by kernel_rfl) H.out.drew (H.out.fresh) ?_ ?_
  · refine ⟨?_, ?_, ?_, ?_, ?_, ?_, trivial⟩
    · exact ⟨⟨_, rfl⟩, fun a' u K0 R hS hr ho h => wp_loadr structEl (.tmp 4) rfl ((ho 4 (by decide)).trans rfl) (hS.s (q4, two) (by simp)) rfl (h u (Kept.refl _ _))⟩
    · refine ⟨⟨_, rfl⟩, fun a' u K0 R hS hr ho h => ?_⟩
      refine wp_callf rfl enters_squared (vs := #[el two, .int .i64 (2 : Nat)]) ?_ (c_qa.out u) h
      have h0 := hr 0 (el two) 14 _ rfl rfl rfl ⟨⟨0, .data⟩, by simp, rfl, rfl⟩
      simp [Act.eval] at h0 ⊢
      exact h0
    · exact ⟨⟨_, rfl⟩, fun a' u K0 R hS hr ho h => wp_loadr structEl (.tmp 1) rfl ((ho 1 (by decide)).trans rfl) (B1.out.kept hS.k (by simp)) rfl (h u (Kept.refl _ _))⟩
    · refine ⟨⟨_, rfl⟩, fun a' u K0 R hS hr ho h => ?_⟩
      refine wp_callf rfl enters_mul (vs := #[el qa, el F]) ?_ (c_nine.out u) h
      have h0 := hr 1 (el qa) 15 _ rfl rfl rfl ⟨⟨1, .data⟩, by simp, rfl, rfl⟩
      have h1 := hr 2 (el F) 16 _ rfl rfl rfl ⟨⟨2, .data⟩, by simp, rfl, rfl⟩
      simp [Act.eval] at h0 h1 ⊢
      exact ⟨h0, h1⟩
    · exact ⟨⟨_, rfl⟩, rfl, zeroEl⟩
    · exact ⟨rfl, ⟨⟨4, .data⟩, by simp, rfl, rfl⟩, ⟨⟨3, .data⟩, by simp, rfl, rfl⟩, _, _, _, _, _, _, _, _, rfl, rfl, rfl, rfl, rfl, rfl, rfl, structEl, rfl, rfl, one_el _⟩
  intro γ r2 hS hγ hne hput
  have hl := Nat.le_trans H.out.k.size (hγ 4 _ _ rfl)
  have b := hput 5 4 3 _ _ _ rfl rfl
  generalize e7 : γ 4 = q5 at *
  simp [actOf, VK, List.range, List.range.loop, Act.put, e7]
  have H := Lib.hid (hS.cons b hl)
  clear b hl hput hne hγ hS e7
  go_wp2_with (first
    | (with_reducible refine wpl_load_row (o := ⟨some 18, _, _, _, _, _⟩) structEl rfl (.tmp 5) rfl rfl (H.out.s (q5, nine) (by simp)) rfl ?_)
    | (with_reducible refine wpl_load_row (o := ⟨some 19, _, _, _, _, _⟩) structEl rfl (.tmp 4) rfl rfl (H.out.s (q4, two) (by simp)) rfl ?_)
    | (go_at_call 33; refine (c_elev.out _).mono ?_; rintro e u2 ⟨rfl, kk⟩; have H := Lib.hid (H.out.kept kk); clear kk)
    | ((with_reducible refine wpl_new (o := ⟨some 6, _, _, _, _, _⟩) rfl rfl zeroEl ?_); intro q6 x6 m6)
    | ((with_reducible refine wpl_store_row (o := ⟨none, .store 27 (.tmp 6) (.tmp 20), _, _, _, _⟩) structEl rfl (.tmp 6) (.tmp 20) rfl rfl rfl m6.blk rfl rfl (one_el _) ?_); intro v6 b6 k6; have H := Lib.hid (H.out.put m6 b6 k6); clear m6 b6 k6))
  refine wp_multi (by kernel_rfl) [.val (el elev), .val (el qb), .val (el nine), .val (el n5), .new 27 (el nought), .put 4 3 (uv (fam 5 n5)).toArray] (Els w3 [(q6, elev), (q5, nine), (q4, two)]) (by kernel_rfl) (by kernel_rfl) H.out.drew (H.out.fresh) ?_ ?_
  · refine ⟨?_, ?_, ?_, ?_, ?_, ?_, trivial⟩
    · exact ⟨⟨_, rfl⟩, fun a' u K0 R hS hr ho h => wp_loadr structEl (.tmp 6) rfl ((ho 6 (by decide)).trans rfl) (hS.s (q6, elev) (by simp)) rfl (h u (Kept.refl _ _))⟩
    · refine ⟨⟨_, rfl⟩, fun a' u K0 R hS hr ho h => ?_⟩
      refine wp_callf rfl enters_square (vs := #[el elev]) ?_ (c_qb.out u) h
      have h0 := hr 0 (el elev) 21 _ rfl rfl rfl ⟨⟨0, .data⟩, by simp, rfl, rfl⟩
      simp [Act.eval] at h0 ⊢
      exact h0
    · exact ⟨⟨_, rfl⟩, fun a' u K0 R hS hr ho h => wp_loadr structEl (.tmp 5) rfl ((ho 5 (by decide)).trans rfl) (hS.s (q5, nine) (by simp)) rfl (h u (Kept.refl _ _))⟩
    · refine ⟨⟨_, rfl⟩, fun a' u K0 R hS hr ho h => ?_⟩
      refine wp_callf rfl enters_mul (vs := #[el qb, el nine]) ?_ (c_n5.out u) h
      have h0 := hr 1 (el qb) 22 _ rfl rfl rfl ⟨⟨1, .data⟩, by simp, rfl, rfl⟩
      have h1 := hr 2 (el nine) 23 _ rfl rfl rfl ⟨⟨2, .data⟩, by simp, rfl, rfl⟩
      simp [Act.eval] at h0 h1 ⊢
      exact ⟨h0, h1⟩
    · exact ⟨⟨_, rfl⟩, rfl, zeroEl⟩
    · exact ⟨rfl, ⟨⟨4, .data⟩, by simp, rfl, rfl⟩, ⟨⟨3, .data⟩, by simp, rfl, rfl⟩, _, _, _, _, _, _, _, _, rfl, rfl, rfl, rfl, rfl, rfl, rfl, structEl, rfl, rfl, one_el _⟩
  intro γ r4 hS hγ hne hput
  have hl := Nat.le_trans H.out.k.size (hγ 4 _ _ rfl)
  have b := hput 5 4 3 _ _ _ rfl rfl
  generalize e7 : γ 4 = q7 at *
  simp [actOf, VK, List.range, List.range.loop, Act.put, e7]
  have H := Lib.hid (hS.cons b hl)
  clear b hl hput hne hγ hS e7
  go_wp2_with fail
  refine wp_multi (by kernel_rfl) [.val (el n5), .val (el qc), .val (el n5), .val (el n10), .new 27 (el nought), .put 4 3 (uv (fam 5 n10)).toArray] (Els w3 [(q7, n5), (q6, elev), (q5, nine), (q4, two)]) (by kernel_rfl) (by kernel_rfl) H.out.drew (H.out.fresh) ?_ ?_
  · refine ⟨?_, ?_, ?_, ?_, ?_, ?_, trivial⟩
    · exact ⟨⟨_, rfl⟩, fun a' u K0 R hS hr ho h => wp_loadr structEl (.tmp 7) rfl ((ho 7 (by decide)).trans rfl) (hS.s (q7, n5) (by simp)) rfl (h u (Kept.refl _ _))⟩
    · refine ⟨⟨_, rfl⟩, fun a' u K0 R hS hr ho h => ?_⟩
      refine wp_callf rfl enters_squared (vs := #[el n5, .int .i64 (5 : Nat)]) ?_ (c_qc.out u) h
      have h0 := hr 0 (el n5) 25 _ rfl rfl rfl ⟨⟨0, .data⟩, by simp, rfl, rfl⟩
      simp [Act.eval] at h0 ⊢
      exact h0
    · exact ⟨⟨_, rfl⟩, fun a' u K0 R hS hr ho h => wp_loadr structEl (.tmp 7) rfl ((ho 7 (by decide)).trans rfl) (hS.s (q7, n5) (by simp)) rfl (h u (Kept.refl _ _))⟩
    · refine ⟨⟨_, rfl⟩, fun a' u K0 R hS hr ho h => ?_⟩
      refine wp_callf rfl enters_mul (vs := #[el qc, el n5]) ?_ (c_n10.out u) h
      have h0 := hr 1 (el qc) 26 _ rfl rfl rfl ⟨⟨1, .data⟩, by simp, rfl, rfl⟩
      have h1 := hr 2 (el n5) 27 _ rfl rfl rfl ⟨⟨2, .data⟩, by simp, rfl, rfl⟩
      simp [Act.eval] at h0 h1 ⊢
      exact ⟨h0, h1⟩
    · exact ⟨⟨_, rfl⟩, rfl, zeroEl⟩
    · exact ⟨rfl, ⟨⟨4, .data⟩, by simp, rfl, rfl⟩, ⟨⟨3, .data⟩, by simp, rfl, rfl⟩, _, _, _, _, _, _, _, _, rfl, rfl, rfl, rfl, rfl, rfl, rfl, structEl, rfl, rfl, one_el _⟩
  intro γ r5 hS hγ hne hput
  have hl := Nat.le_trans H.out.k.size (hγ 4 _ _ rfl)
  have b := hput 5 4 3 _ _ _ rfl rfl
  generalize e7 : γ 4 = q8 at *
  simp [actOf, VK, List.range, List.range.loop, Act.put, e7]
  have H := Lib.hid (hS.cons b hl)
  clear b hl hput hne hγ hS e7
  go_wp2_with fail
  refine wp_multi (by kernel_rfl) [.val (el n10), .val (el qd), .val (el n10), .val (el n20), .new 27 (el nought), .put 4 3 (uv (fam 5 n20)).toArray] (Els w3 [(q8, n10), (q7, n5), (q6, elev), (q5, nine), (q4, two)]) (by kernel_rfl) (by kernel_rfl) H.out.drew (H.out.fresh) ?_ ?_
  · refine ⟨?_, ?_, ?_, ?_, ?_, ?_, trivial⟩
    · exact ⟨⟨_, rfl⟩, fun a' u K0 R hS hr ho h => wp_loadr structEl (.tmp 8) rfl ((ho 8 (by decide)).trans rfl) (hS.s (q8, n10) (by simp)) rfl (h u (Kept.refl _ _))⟩
    · refine ⟨⟨_, rfl⟩, fun a' u K0 R hS hr ho h => ?_⟩
      refine wp_callf rfl enters_squared (vs := #[el n10, .int .i64 (10 : Nat)]) ?_ (c_qd.out u) h
      have h0 := hr 0 (el n10) 29 _ rfl rfl rfl ⟨⟨0, .data⟩, by simp, rfl, rfl⟩
      simp [Act.eval] at h0 ⊢
      exact h0
    · exact ⟨⟨_, rfl⟩, fun a' u K0 R hS hr ho h => wp_loadr structEl (.tmp 8) rfl ((ho 8 (by decide)).trans rfl) (hS.s (q8, n10) (by simp)) rfl (h u (Kept.refl _ _))⟩
    · refine ⟨⟨_, rfl⟩, fun a' u K0 R hS hr ho h => ?_⟩
      refine wp_callf rfl enters_mul (vs := #[el qd, el n10]) ?_ (c_n20.out u) h
      have h0 := hr 1 (el qd) 30 _ rfl rfl rfl ⟨⟨1, .data⟩, by simp, rfl, rfl⟩
      have h1 := hr 2 (el n10) 31 _ rfl rfl rfl ⟨⟨2, .data⟩, by simp, rfl, rfl⟩
      simp [Act.eval] at h0 h1 ⊢
      exact ⟨h0, h1⟩
    · exact ⟨⟨_, rfl⟩, rfl, zeroEl⟩
    · exact ⟨rfl, ⟨⟨4, .data⟩, by simp, rfl, rfl⟩, ⟨⟨3, .data⟩, by simp, rfl, rfl⟩, _, _, _, _, _, _, _, _, rfl, rfl, rfl, rfl, rfl, rfl, rfl, structEl, rfl, rfl, one_el _⟩
  intro γ r6 hS hγ hne hput
  have hl := Nat.le_trans H.out.k.size (hγ 4 _ _ rfl)
  have b := hput 5 4 3 _ _ _ rfl rfl
  generalize e7 : γ 4 = q9 at *
  simp [actOf, VK, List.range, List.range.loop, Act.put, e7]
  have H := Lib.hid (hS.cons b hl)
  clear b hl hput hne hγ hS e7
  go_wp2_with fail
  refine wp_multi (by kernel_rfl) [.val (el n20), .val (el qe), .val (el n20), .val (el qf), .val (el qg), .val (el n10), .val (el n50), .new 27 (el nought), .put 7 6 (uv (fam 5 n50)).toArray] (Els w3 [(q9, n20), (q8, n10), (q7, n5), (q6, elev), (q5, nine), (q4, two)]) (by kernel_rfl) (by kernel_rfl) H.out.drew (H.out.fresh) ?_ ?_
  · refine ⟨?_, ?_, ?_, ?_, ?_, ?_, ?_, ?_, ?_, trivial⟩
    · exact ⟨⟨_, rfl⟩, fun a' u K0 R hS hr ho h => wp_loadr structEl (.tmp 9) rfl ((ho 9 (by decide)).trans rfl) (hS.s (q9, n20) (by simp)) rfl (h u (Kept.refl _ _))⟩
    · refine ⟨⟨_, rfl⟩, fun a' u K0 R hS hr ho h => ?_⟩
      refine wp_callf rfl enters_squared (vs := #[el n20, .int .i64 (20 : Nat)]) ?_ (c_qe.out u) h
      have h0 := hr 0 (el n20) 33 _ rfl rfl rfl ⟨⟨0, .data⟩, by simp, rfl, rfl⟩
      simp [Act.eval] at h0 ⊢
      exact h0
    · exact ⟨⟨_, rfl⟩, fun a' u K0 R hS hr ho h => wp_loadr structEl (.tmp 9) rfl ((ho 9 (by decide)).trans rfl) (hS.s (q9, n20) (by simp)) rfl (h u (Kept.refl _ _))⟩
    · refine ⟨⟨_, rfl⟩, fun a' u K0 R hS hr ho h => ?_⟩
      refine wp_callf rfl enters_mul (vs := #[el qe, el n20]) ?_ (c_qf.out u) h
      have h0 := hr 1 (el qe) 34 _ rfl rfl rfl ⟨⟨1, .data⟩, by simp, rfl, rfl⟩
      have h1 := hr 2 (el n20) 35 _ rfl rfl rfl ⟨⟨2, .data⟩, by simp, rfl, rfl⟩
      simp [Act.eval] at h0 h1 ⊢
      exact ⟨h0, h1⟩
    · refine ⟨⟨_, rfl⟩, fun a' u K0 R hS hr ho h => ?_⟩
      refine wp_callf rfl enters_squared (vs := #[el qf, .int .i64 (10 : Nat)]) ?_ (c_qg.out u) h
      have h0 := hr 3 (el qf) 36 _ rfl rfl rfl ⟨⟨3, .data⟩, by simp, rfl, rfl⟩
      simp [Act.eval] at h0 ⊢
      exact h0
    · exact ⟨⟨_, rfl⟩, fun a' u K0 R hS hr ho h => wp_loadr structEl (.tmp 8) rfl ((ho 8 (by decide)).trans rfl) (hS.s (q8, n10) (by simp)) rfl (h u (Kept.refl _ _))⟩
    · refine ⟨⟨_, rfl⟩, fun a' u K0 R hS hr ho h => ?_⟩
      refine wp_callf rfl enters_mul (vs := #[el qg, el n10]) ?_ (c_n50.out u) h
      have h0 := hr 4 (el qg) 37 _ rfl rfl rfl ⟨⟨4, .data⟩, by simp, rfl, rfl⟩
      have h1 := hr 5 (el n10) 38 _ rfl rfl rfl ⟨⟨5, .data⟩, by simp, rfl, rfl⟩
      simp [Act.eval] at h0 h1 ⊢
      exact ⟨h0, h1⟩
    · exact ⟨⟨_, rfl⟩, rfl, zeroEl⟩
    · exact ⟨rfl, ⟨⟨7, .data⟩, by simp, rfl, rfl⟩, ⟨⟨6, .data⟩, by simp, rfl, rfl⟩, _, _, _, _, _, _, _, _, rfl, rfl, rfl, rfl, rfl, rfl, rfl, structEl, rfl, rfl, one_el _⟩
  intro γ r7 hS hγ hne hput
  have hl := Nat.le_trans H.out.k.size (hγ 7 _ _ rfl)
  have b := hput 8 7 6 _ _ _ rfl rfl
  generalize e7 : γ 7 = q10 at *
  simp [actOf, VK, List.range, List.range.loop, Act.put, e7]
  have H := Lib.hid (hS.cons b hl)
  clear b hl hput hne hγ hS e7
  go_wp2_with fail
  refine wp_multi (by kernel_rfl) [.val (el n50), .val (el qh), .val (el n50), .val (el n100), .new 27 (el nought), .put 4 3 (uv (fam 5 n100)).toArray] (Els w3 [(q10, n50), (q9, n20), (q8, n10), (q7, n5), (q6, elev), (q5, nine), (q4, two)]) (by kernel_rfl) (by kernel_rfl) H.out.drew (H.out.fresh) ?_ ?_
  · refine ⟨?_, ?_, ?_, ?_, ?_, ?_, trivial⟩
    · exact ⟨⟨_, rfl⟩, fun a' u K0 R hS hr ho h => wp_loadr structEl (.tmp 10) rfl ((ho 10 (by decide)).trans rfl) (hS.s (q10, n50) (by simp)) rfl (h u (Kept.refl _ _))⟩
    · refine ⟨⟨_, rfl⟩, fun a' u K0 R hS hr ho h => ?_⟩
      refine wp_callf rfl enters_squared (vs := #[el n50, .int .i64 (50 : Nat)]) ?_ (c_qh.out u) h
      have h0 := hr 0 (el n50) 40 _ rfl rfl rfl ⟨⟨0, .data⟩, by simp, rfl, rfl⟩
      simp [Act.eval] at h0 ⊢
      exact h0
    · exact ⟨⟨_, rfl⟩, fun a' u K0 R hS hr ho h => wp_loadr structEl (.tmp 10) rfl ((ho 10 (by decide)).trans rfl) (hS.s (q10, n50) (by simp)) rfl (h u (Kept.refl _ _))⟩
    · refine ⟨⟨_, rfl⟩, fun a' u K0 R hS hr ho h => ?_⟩
      refine wp_callf rfl enters_mul (vs := #[el qh, el n50]) ?_ (c_n100.out u) h
      have h0 := hr 1 (el qh) 41 _ rfl rfl rfl ⟨⟨1, .data⟩, by simp, rfl, rfl⟩
      have h1 := hr 2 (el n50) 42 _ rfl rfl rfl ⟨⟨2, .data⟩, by simp, rfl, rfl⟩
      simp [Act.eval] at h0 h1 ⊢
      exact ⟨h0, h1⟩
    · exact ⟨⟨_, rfl⟩, rfl, zeroEl⟩
    · exact ⟨rfl, ⟨⟨4, .data⟩, by simp, rfl, rfl⟩, ⟨⟨3, .data⟩, by simp, rfl, rfl⟩, _, _, _, _, _, _, _, _, rfl, rfl, rfl, rfl, rfl, rfl, rfl, structEl, rfl, rfl, one_el _⟩
  intro γ r8 hS hγ hne hput
  have hl := Nat.le_trans H.out.k.size (hγ 4 _ _ rfl)
  have b := hput 5 4 3 _ _ _ rfl rfl
  generalize e7 : γ 4 = q11 at *
  simp [actOf, VK, List.range, List.range.loop, Act.put, e7]
  have H := Lib.hid (hS.cons b hl)
  clear b hl hput hne hγ hS e7
  go_wp2_with fail
  have H := Lib.hid (H.out.fin B2.out B3.out D.out.2.2.1)
  refine Txt.wp_textG [0, 2, 5, 7] (Fin w3 g2 g3 [(q11, n100), (q10, n50), (q9, n20), (q8, n10), (q7, n5), (q6, elev), (q5, nine), (q4, two)]) [[_, _], [_, _], [_], [_, _], [_, _], [_], []] (by kernel_rfl) (by kernel_rfl) rfl (H.out.kept (Kept.refl [] _).drew) (Txt.segs_cons ?_)
  have H := Lib.hid (H.out.kept (Kept.refl [] r8).drew)
  obtain ⟨f2, hf2⟩ := H.out.b2
  obtain ⟨f3, hf3⟩ := H.out.b3
  clear hf2 hf3
  go_wp2_with (first
    | (with_reducible refine wpl_load_row (o := ⟨some 44, _, _, _, _, _⟩) structEl rfl (.tmp 11) rfl rfl (H.out.s (q11, n100) (by simp)) rfl ?_)
    | (go_at_call 71; refine (c_qi.out _).mono ?_; rintro e u_qi ⟨rfl, kk⟩; have H := Lib.hid (H.out.kept kk); clear kk))
  refine ⟨rfl, H.out, Txt.segs_cons ?_⟩
  go_wp2_with (first
    | (with_reducible refine wpl_load_row (o := ⟨some 46, _, _, _, _, _⟩) structEl rfl (.tmp 11) rfl rfl (H.out.s (q11, n100) (by simp)) rfl ?_)
    | (go_at_call 33; refine (c_qj.out _).mono ?_; rintro e u_qj ⟨rfl, kk⟩; have H := Lib.hid (H.out.kept kk); clear kk))
  refine ⟨rfl, H.out, Txt.segs_cons ?_⟩
  go_wp2_with (first
    | (go_at_call 71; refine (c_qk.out _).mono ?_; rintro e u_qk ⟨rfl, kk⟩; have H := Lib.hid (H.out.kept kk); clear kk))
  refine ⟨rfl, H.out, Txt.segs_cons ?_⟩
  go_wp2_with (first
    | (with_reducible refine wpl_load_row (o := ⟨some 49, _, _, _, _, _⟩) structEl rfl (.tmp 10) rfl rfl (H.out.s (q10, n50) (by simp)) rfl ?_)
    | (go_at_call 33; refine (c_nn.out _).mono ?_; rintro e u_nn ⟨rfl, kk⟩; have H := Lib.hid (H.out.kept kk); clear kk))
  refine ⟨rfl, H.out, Txt.segs_cons ?_⟩
  go_wp2_with (first
    | (with_reducible refine wpl_load_row (o := ⟨some 51, _, _, _, _, _⟩) structEl rfl (.tmp 6) rfl rfl (H.out.s (q6, elev) (by simp)) rfl ?_)
    | (obtain ⟨f2, hf2⟩ := H.out.b2; (with_reducible refine wpl_store_row (o := ⟨none, .store 27 (.tmp 2) (.tmp 50), _, _, _, _⟩) structEl rfl (.tmp 2) (.tmp 50) rfl rfl rfl hf2 rfl rfl (one_el _) ?_); clear hf2; intro v2 b2 k2; have H := Lib.hid (H.out.put2 b2 k2); have C2 := Lib.hid b2; clear b2 k2))
  refine ⟨rfl, H.out, Txt.segs_cons ?_⟩
  go_wp2_with (first
    | (obtain ⟨f3, hf3⟩ := H.out.b3; (with_reducible refine wpl_store_row (o := ⟨none, .store 27 (.tmp 3) (.tmp 51), _, _, _, _⟩) structEl rfl (.tmp 3) (.tmp 51) rfl rfl rfl hf3 rfl rfl (one_el _) ?_); clear hf3; intro v3 b3 k3; have C2 := Lib.hid (C2.out.kept k3 (by simpa using D.out.2.2.1)); have H := Lib.hid (H.out.put3 b3 k3); have C3 := Lib.hid b3; clear b3 k3))
  refine ⟨rfl, H.out, Txt.segs_cons ?_⟩
  go_wp2_with fail
  refine ⟨rfl, H.out, Txt.segs_nil ⟨⟨by kernel_rfl, ?_⟩, ?_⟩⟩
  · intro j hj o ho _
    have hj2 : j = 0 ∨ j = 2 ∨ j = 5 ∨ j = 7 := by simpa using hj
    rcases hj2 with rfl | rfl | rfl | rfl <;> cases ho
    · exact ⟨44, rfl, fun u hu => exec_load structEl (.tmp 11) rfl rfl (hu.s (q11, n100) (by simp)) rfl⟩
    · exact ⟨46, rfl, fun u hu => exec_load structEl (.tmp 11) rfl rfl (hu.s (q11, n100) (by simp)) rfl⟩
    · exact ⟨49, rfl, fun u hu => exec_load structEl (.tmp 10) rfl rfl (hu.s (q10, n50) (by simp)) rfl⟩
    · exact ⟨51, rfl, fun u hu => exec_load structEl (.tmp 6) rfl rfl (hu.s (q6, elev) (by simp)) rfl⟩
  go_wp2_with fail
  exact ret_rows structEl rfl rfl rfl C2.out rfl C3.out rfl rfl ⟨rfl, (D.out.2.2.2).fresh H.out.k (fun x hx => by simp at hx; rcases hx with rfl | rfl; exact D.out.1; exact D.out.2.1)⟩
end Go.Proofs.Ytkflljjcgihaoaa

namespace Go.Proofs.Ytkflljjcgihaoaa
open Go.RowKit Go.Mem Go.Txt

/-- Products, squares modulo p. -/
def mlM (x y : Nat) : Nat := x * y % PP
def sqM : Nat → Nat → Nat
  | 0, x => x
  | k + 1, x => mlM (sqM k x) (sqM k x)
theorem Rep.ml {F G : Nat → Nat} {x y : Nat} (h : Rep F x) (h2 : Rep G y) : Rep (mlF F G) (mlM x y) := ⟨(h.mul h2).lim, by have := (h.mul h2).val; unfold mlM; rw [Nat.mod_mod]; exact this⟩
theorem Rep.sq {F : Nat → Nat} {x : Nat} (h : Rep F x) : Rep (sqF F) (mlM x x) := h.ml h
theorem Rep.sn {F : Nat → Nat} {x : Nat} (h : Rep F x) : ∀ k, Rep (sqn k F) (sqM k x)
  | 0 => h
  | k + 1 => (Rep.sn h k).sq
/-- y is the power e of x. -/
def Pw (x e y : Nat) : Prop := y % PP = x ^ e % PP
theorem Pw.one (x : Nat) : Pw x 1 x := by unfold Pw; rw [Nat.pow_one]
theorem Pw.ml {x a b y z : Nat} (h : Pw x a y) (h2 : Pw x b z) : Pw x (a + b) (mlM y z) := by
  unfold Pw mlM at *
  rw [Nat.mod_mod, Nat.mul_mod, h, h2, ← Nat.mul_mod, Nat.pow_add]
theorem Pw.sn {x a y : Nat} (h : Pw x a y) : ∀ k, Pw x (a * 2 ^ k) (sqM k y)
  | 0 => by rw [Nat.pow_zero, Nat.mul_one]; exact h
  | k + 1 => by
    have := (Pw.sn h k).ml (Pw.sn h k)
    rwa [show a * 2 ^ k + a * 2 ^ k = a * 2 ^ (k + 1) from by rw [Nat.pow_succ, ← Nat.mul_assoc, Nat.mul_two]] at this
theorem Pw.to {x a b y : Nat} (h : Pw x a y) (e : a = b) : Pw x b y := e ▸ h

def m_two (x : Nat) : Nat := mlM x x
def m_qa (x : Nat) : Nat := sqM 2 (m_two x)
def m_nine (x : Nat) : Nat := mlM (m_qa x) x
def m_elev (x : Nat) : Nat := mlM (m_nine x) (m_two x)
def m_qb (x : Nat) : Nat := mlM (m_elev x) (m_elev x)
def m_n5 (x : Nat) : Nat := mlM (m_qb x) (m_nine x)
def m_qc (x : Nat) : Nat := sqM 5 (m_n5 x)
def m_n10 (x : Nat) : Nat := mlM (m_qc x) (m_n5 x)
def m_qd (x : Nat) : Nat := sqM 10 (m_n10 x)
def m_n20 (x : Nat) : Nat := mlM (m_qd x) (m_n10 x)
def m_qe (x : Nat) : Nat := sqM 20 (m_n20 x)
def m_qf (x : Nat) : Nat := mlM (m_qe x) (m_n20 x)
def m_qg (x : Nat) : Nat := sqM 10 (m_qf x)
def m_n50 (x : Nat) : Nat := mlM (m_qg x) (m_n10 x)
def m_qh (x : Nat) : Nat := sqM 50 (m_n50 x)
def m_n100 (x : Nat) : Nat := mlM (m_qh x) (m_n50 x)
def m_qi (x : Nat) : Nat := sqM 100 (m_n100 x)
def m_qj (x : Nat) : Nat := mlM (m_qi x) (m_n100 x)
def m_qk (x : Nat) : Nat := sqM 50 (m_qj x)
def m_nn (x : Nat) : Nat := mlM (m_qk x) (m_n50 x)
theorem rep_two {F : Nat → Nat} {x : Nat} (h : Rep F x) : Rep (o_two F) (m_two x) := Rep.sq h
theorem rep_qa {F : Nat → Nat} {x : Nat} (h : Rep F x) : Rep (o_qa F) (m_qa x) := Rep.sn (rep_two h) 2
theorem rep_nine {F : Nat → Nat} {x : Nat} (h : Rep F x) : Rep (o_nine F) (m_nine x) := Rep.ml (rep_qa h) h
theorem rep_elev {F : Nat → Nat} {x : Nat} (h : Rep F x) : Rep (o_elev F) (m_elev x) := Rep.ml (rep_nine h) (rep_two h)
theorem rep_qb {F : Nat → Nat} {x : Nat} (h : Rep F x) : Rep (o_qb F) (m_qb x) := Rep.sq (rep_elev h)
theorem rep_n5 {F : Nat → Nat} {x : Nat} (h : Rep F x) : Rep (o_n5 F) (m_n5 x) := Rep.ml (rep_qb h) (rep_nine h)
theorem rep_qc {F : Nat → Nat} {x : Nat} (h : Rep F x) : Rep (o_qc F) (m_qc x) := Rep.sn (rep_n5 h) 5
theorem rep_n10 {F : Nat → Nat} {x : Nat} (h : Rep F x) : Rep (o_n10 F) (m_n10 x) := Rep.ml (rep_qc h) (rep_n5 h)
theorem rep_qd {F : Nat → Nat} {x : Nat} (h : Rep F x) : Rep (o_qd F) (m_qd x) := Rep.sn (rep_n10 h) 10
theorem rep_n20 {F : Nat → Nat} {x : Nat} (h : Rep F x) : Rep (o_n20 F) (m_n20 x) := Rep.ml (rep_qd h) (rep_n10 h)
theorem rep_qe {F : Nat → Nat} {x : Nat} (h : Rep F x) : Rep (o_qe F) (m_qe x) := Rep.sn (rep_n20 h) 20
theorem rep_qf {F : Nat → Nat} {x : Nat} (h : Rep F x) : Rep (o_qf F) (m_qf x) := Rep.ml (rep_qe h) (rep_n20 h)
theorem rep_qg {F : Nat → Nat} {x : Nat} (h : Rep F x) : Rep (o_qg F) (m_qg x) := Rep.sn (rep_qf h) 10
theorem rep_n50 {F : Nat → Nat} {x : Nat} (h : Rep F x) : Rep (o_n50 F) (m_n50 x) := Rep.ml (rep_qg h) (rep_n10 h)
theorem rep_qh {F : Nat → Nat} {x : Nat} (h : Rep F x) : Rep (o_qh F) (m_qh x) := Rep.sn (rep_n50 h) 50
theorem rep_n100 {F : Nat → Nat} {x : Nat} (h : Rep F x) : Rep (o_n100 F) (m_n100 x) := Rep.ml (rep_qh h) (rep_n50 h)
theorem rep_qi {F : Nat → Nat} {x : Nat} (h : Rep F x) : Rep (o_qi F) (m_qi x) := Rep.sn (rep_n100 h) 100
theorem rep_qj {F : Nat → Nat} {x : Nat} (h : Rep F x) : Rep (o_qj F) (m_qj x) := Rep.ml (rep_qi h) (rep_n100 h)
theorem rep_qk {F : Nat → Nat} {x : Nat} (h : Rep F x) : Rep (o_qk F) (m_qk x) := Rep.sn (rep_qj h) 50
theorem rep_nn {F : Nat → Nat} {x : Nat} (h : Rep F x) : Rep (o_nn F) (m_nn x) := Rep.ml (rep_qk h) (rep_n50 h)
theorem pw_two (x : Nat) : Pw x 2 (m_two x) := (Pw.ml (Pw.one x) (Pw.one x)).to (by decide +kernel)
theorem pw_qa (x : Nat) : Pw x 8 (m_qa x) := (Pw.sn (pw_two x) 2).to (by decide +kernel)
theorem pw_nine (x : Nat) : Pw x 9 (m_nine x) := (Pw.ml (pw_qa x) (Pw.one x)).to (by decide +kernel)
theorem pw_elev (x : Nat) : Pw x 11 (m_elev x) := (Pw.ml (pw_nine x) (pw_two x)).to (by decide +kernel)
theorem pw_qb (x : Nat) : Pw x 22 (m_qb x) := (Pw.ml (pw_elev x) (pw_elev x)).to (by decide +kernel)
theorem pw_n5 (x : Nat) : Pw x 31 (m_n5 x) := (Pw.ml (pw_qb x) (pw_nine x)).to (by decide +kernel)
theorem pw_qc (x : Nat) : Pw x 992 (m_qc x) := (Pw.sn (pw_n5 x) 5).to (by decide +kernel)
theorem pw_n10 (x : Nat) : Pw x 1023 (m_n10 x) := (Pw.ml (pw_qc x) (pw_n5 x)).to (by decide +kernel)
theorem pw_qd (x : Nat) : Pw x 1047552 (m_qd x) := (Pw.sn (pw_n10 x) 10).to (by decide +kernel)
theorem pw_n20 (x : Nat) : Pw x 1048575 (m_n20 x) := (Pw.ml (pw_qd x) (pw_n10 x)).to (by decide +kernel)
theorem pw_qe (x : Nat) : Pw x 1099510579200 (m_qe x) := (Pw.sn (pw_n20 x) 20).to (by decide +kernel)
theorem pw_qf (x : Nat) : Pw x 1099511627775 (m_qf x) := (Pw.ml (pw_qe x) (pw_n20 x)).to (by decide +kernel)
theorem pw_qg (x : Nat) : Pw x 1125899906841600 (m_qg x) := (Pw.sn (pw_qf x) 10).to (by decide +kernel)
theorem pw_n50 (x : Nat) : Pw x 1125899906842623 (m_n50 x) := (Pw.ml (pw_qg x) (pw_n10 x)).to (by decide +kernel)
theorem pw_qh (x : Nat) : Pw x 1267650600228228275596796362752 (m_qh x) := (Pw.sn (pw_n50 x) 50).to (by decide +kernel)
theorem pw_n100 (x : Nat) : Pw x 1267650600228229401496703205375 (m_n100 x) := (Pw.ml (pw_qh x) (pw_n50 x)).to (by decide +kernel)
theorem pw_qi (x : Nat) : Pw x 1606938044258990275541962092339894951921974764381296132096000 (m_qi x) := (Pw.sn (pw_n100 x) 100).to (by decide +kernel)
theorem pw_qj (x : Nat) : Pw x 1606938044258990275541962092341162602522202993782792835301375 (m_qj x) := (Pw.ml (pw_qi x) (pw_n100 x)).to (by decide +kernel)
theorem pw_qk (x : Nat) : Pw x 1809251394333065553493296640760748560207343510400633813116523624223735808000 (m_qk x) := (Pw.sn (pw_qj x) 50).to (by decide +kernel)
theorem pw_nn (x : Nat) : Pw x 1809251394333065553493296640760748560207343510400633813116524750123642650623 (m_nn x) := (Pw.ml (pw_qk x) (pw_n50 x)).to (by decide +kernel)
/-- An inverse. -/
def invF (F : Nat → Nat) : Nat → Nat := mlF (sqn 5 (o_nn F)) (o_elev F)
def invM (x : Nat) : Nat := mlM (sqM 5 (m_nn x)) (m_elev x)
theorem invF_lim {F : Nat → Nat} (h : Lim F) : Lim (invF F) := mlF_lim (sqn_lim (o_nn_lim h) 5) (o_elev_lim h)
theorem Rep.inv {F : Nat → Nat} {x : Nat} (h : Rep F x) : Rep (invF F) (invM x) := ((rep_nn h).sn 5).ml (rep_elev h)
theorem invM_pw (x : Nat) : Pw x 57896044618658097711785492504343953926634992332820282019728792003956564819947 (invM x) := (((pw_nn x).sn 5).ml (pw_elev x)).to (by decide +kernel)
/-- The first try for a root: the power (p + 3) / 8. -/
def tryF (F : Nat → Nat) : Nat → Nat := mlF (sqn 2 (o_nn F)) (sqF F)
def tryM (x : Nat) : Nat := mlM (sqM 2 (m_nn x)) (mlM x x)
theorem tryF_lim {F : Nat → Nat} (h : Lim F) : Lim (tryF F) := mlF_lim (sqn_lim (o_nn_lim h) 2) (sqF_lim h)
theorem Rep.try {F : Nat → Nat} {x : Nat} (h : Rep F x) : Rep (tryF F) (tryM x) := ((rep_nn h).sn 2).ml h.sq
theorem tryM_pw (x : Nat) : Pw x 7237005577332262213973186563042994240829374041602535252466099000494570602494 (tryM x) := (((pw_nn x).sn 2).ml ((Pw.one x).ml (Pw.one x))).to (by decide +kernel)
end Go.Proofs.Ytkflljjcgihaoaa

namespace Go.Proofs.Ytkflljjcgihaoaa
open Go.RowKit Go.Mem Go.Txt

set_option maxRecDepth 100000 in
set_option maxHeartbeats 1600000 in
theorem inv_any (F : Nat → Nat) (hF : Lim F) (w : World) :
    Calls Try.prog 51 #[el F] w fun e w' => e = .returned (el (invF F)) ∧ Kept [] w w' := by
  have co := fun W => ones_any F hF W
  have c5 : SnC 5 (o_nn F) (sqn 5 (o_nn F)) := sqn_any 5 _ (o_nn_lim hF) (by decide)
  have cm : MlC (sqn 5 (o_nn F)) (o_elev F) (invF F) := mlF_any _ _ (sqn_lim (o_nn_lim hF) 5) (o_elev_lim hF)
  generalize o_nn F = nn, o_elev F = ee, invF F = rr at *
  generalize sqn 5 nn = n5 at *
  replace co := Lib.hid co
  replace c5 := Lib.hid c5
  replace cm := Lib.hid cm
  clear hF
  go_enter Try.func51, Try.ntmps51
  go_wp2_with (first
    | ((with_reducible refine wpl_box (o := ⟨some 1, _, _, _, _, _⟩) (v := el F) rfl (.tmp 0) rfl rfl ?_); intro g1 w1 m1)
    | ((with_reducible refine wpl_new (o := ⟨some 2, _, _, _, _, _⟩) rfl rfl zeroEl ?_); intro g2 w2 m2; have H := Lib.hid (Els.none w2); have D := Lib.hid (And.intro (Nat.le_trans m1.kept.size m2.le) (And.intro m1.le (And.intro (m2.ne m1.blk.lt) (m1.kept.then0 m2.kept)))); have B1 := Lib.hid (m1.blk.kept m2.kept (by simp)); have B2 := Lib.hid m2.blk; clear m1 m2)
    | (with_reducible refine wpl_load_row (o := ⟨some 6, _, _, _, _, _⟩) structEl rfl (.tmp 1) rfl rfl (B1.out.kept H.out.k (by simp)) rfl ?_)
    | (go_at_call 70; refine (co.out _).mono ?_; rintro e u1 ⟨rfl, kk⟩; have H := Lib.hid (H.out.kept kk); clear kk)
    | ((with_reducible refine wpl_new (o := ⟨some 3, _, _, _, _, _⟩) rfl rfl zeroEl ?_); intro q3 x3 m3; have H := Lib.hid (H.out.put m3 m3.blk (Kept.refl _ _)); clear m3)
    | ((with_reducible refine wpl_new (o := ⟨some 4, _, _, _, _, _⟩) rfl rfl zeroEl ?_); intro q4 x4 m4; have N := Lib.hid (m4.ne (H.out.s (q3, nought) (by simp)).lt); have H := Lib.hid (H.out.put m4 m4.blk (Kept.refl _ _)); clear m4)
    | ((with_reducible refine wpl_store_row (o := ⟨none, .store 27 (.tmp 3) (.tmp 8), _, _, _, _⟩) structEl rfl (.tmp 3) (.tmp 8) rfl rfl rfl (H.out.s (q3, nought) (by simp)) rfl rfl (one_el _) ?_); intro v3 b3 k3; have B4 := Lib.hid ((H.out.s (q4, nought) (by simp)).kept k3 (by simpa using Ne.symm N.out)))
    | ((with_reducible refine wpl_store_row (o := ⟨none, .store 27 (.tmp 4) (.tmp 9), _, _, _, _⟩) structEl rfl (.tmp 4) (.tmp 9) rfl rfl rfl B4.out rfl rfl (one_el _) ?_); intro v4 b4 k4))
  have f3 := H.out.f (q3, nought) (by simp)
  have f4 := H.out.f (q4, nought) (by simp)
  have E := Lib.hid (show Els w2 [(q4, ee), (q3, nn)] v4 from
    ((show Els w2 [] v4 from ⟨fun _ h => absurd h (by simp), fun _ h => absurd h (by simp), (H.out.k.then1 k3 f3).then1 k4 f4⟩).cons (b3.kept k4 (by simpa using N.out)) f3).cons b4 f4)
  clear b3 k3 b4 k4 H f3 f4
  have H := Lib.hid (E.out.fin B2.out B1.out (Ne.symm D.out.2.2.1))
  refine Txt.wp_textG [0, 2] (Fin w2 g2 g1 [(q4, ee), (q3, nn)]) [[_, _], [_, _], [_], []] (by kernel_rfl) (by kernel_rfl) rfl (H.out.kept (Kept.refl [] _).drew) (Txt.segs_cons ?_)
  have H := Lib.hid (H.out.kept (Kept.refl [] v4).drew)
  go_wp2_with (first
    | (with_reducible refine wpl_load_row (o := ⟨some 10, _, _, _, _, _⟩) structEl rfl (.tmp 3) rfl rfl (H.out.s (q3, nn) (by simp)) rfl ?_)
    | (go_at_call 71; refine (c5.out _).mono ?_; rintro e u5 ⟨rfl, kk⟩; have H := Lib.hid (H.out.kept kk); clear kk))
  refine ⟨rfl, H.out, Txt.segs_cons ?_⟩
  go_wp2_with (first
    | (with_reducible refine wpl_load_row (o := ⟨some 12, _, _, _, _, _⟩) structEl rfl (.tmp 4) rfl rfl (H.out.s (q4, ee) (by simp)) rfl ?_)
    | (go_at_call 33; refine (cm.out _).mono ?_; rintro e u6 ⟨rfl, kk⟩; have H := Lib.hid (H.out.kept kk); clear kk))
  refine ⟨rfl, H.out, Txt.segs_cons ?_⟩
  go_wp2_with (obtain ⟨f2, hf2⟩ := H.out.b2; (with_reducible refine wpl_store_row (o := ⟨none, .store 27 (.tmp 2) (.tmp 13), _, _, _, _⟩) structEl rfl (.tmp 2) (.tmp 13) rfl rfl rfl hf2 rfl rfl (one_el _) ?_); clear hf2; intro v2 b2 k2; have H := Lib.hid (H.out.put2 b2 k2); have C2 := Lib.hid b2; clear b2 k2)
  refine ⟨rfl, H.out, Txt.segs_cons ?_⟩
  go_wp2_with fail
  refine ⟨rfl, H.out, Txt.segs_nil ⟨⟨by kernel_rfl, ?_⟩, ?_⟩⟩
  · intro j hj o ho _
    have hj2 : j = 0 ∨ j = 2 := by simpa using hj
    rcases hj2 with rfl | rfl <;> cases ho
    · exact ⟨10, rfl, fun u hu => exec_load structEl (.tmp 3) rfl rfl (hu.s (q3, nn) (by simp)) rfl⟩
    · exact ⟨12, rfl, fun u hu => exec_load structEl (.tmp 4) rfl rfl (hu.s (q4, ee) (by simp)) rfl⟩
  go_wp2_with fail
  exact ret_row structEl rfl rfl C2.out rfl rfl ⟨rfl, (D.out.2.2.2).fresh H.out.k (fun x hx => by simp at hx; rcases hx with rfl | rfl; exact D.out.1; exact D.out.2.1)⟩
end Go.Proofs.Ytkflljjcgihaoaa

namespace Go.Proofs.Ytkflljjcgihaoaa
open Go.RowKit Go.Mem Go.Txt

def m1F (i : Nat) : Nat := if i = 0 then 1718705420411056 else if i = 1 then 234908883556509 else if i = 2 then 2233514472574048 else if i = 3 then 2117202627021982 else 765476049583133
def M1 : Nat := 19681161376707505956807079304988542015446066515923890162744021073123829784752
theorem m1_lim : Lim m1F := by
  intro i _
  unfold m1F
  repeat' split
  all_goals decide
theorem m1_val : fv m1F = M1 := by decide +kernel
theorem rep_m1 : Rep m1F M1 := ⟨m1_lim, by rw [m1_val]⟩

set_option maxRecDepth 100000 in
set_option maxHeartbeats 800000 in
theorem minusOne_any (w : World) : Calls Try.prog 73 #[] w fun e w' => e = .returned (el m1F) ∧ Kept [] w w' := by
  go_enter Try.func73, Try.ntmps73
  go_wp2_with (first
    | ((with_reducible refine wpl_new (o := ⟨some 0, _, _, _, _, _⟩) rfl rfl zeroEl ?_); intro g1 w1 m1)
    | (refine wpl_store_row (cs := (uv (fam 5 m1F)).toArray) structEl rfl (.tmp 0) (.tmp 2) rfl rfl (by rfl) m1.blk rfl rfl (one_el _) ?_; intro w8 b8 k8))
  exact ret_row structEl rfl rfl b8 rfl rfl ⟨rfl, m1.kept.then1 k8 m1.le⟩

theorem byte0 (x : Nat) : (bv (le x 32)).toArray[0]? = some (.int .u8 ((x % 256 : Nat) : Int)) := by
  have h := le_get x 32 0 (by omega)
  have e : (le x 32)[0]? = some (UInt8.ofNat (x % 256)) := by
    rw [List.getElem?_eq_getElem (by rw [le_len]; omega), h]
    simp
  simp only [bv, List.getElem?_toArray, List.getElem?_map, e, Option.map_some]
  show some (Value.int .u8 (((UInt8.ofNat (x % 256)).toNat : Nat) : Int)) = _
  rw [UInt8.toNat_ofNat', show x % 256 % 2 ^ 8 = x % 256 from by omega]

set_option maxRecDepth 100000 in
set_option maxHeartbeats 800000 in
theorem odd_any (F : Nat → Nat) (w : World) (hF : Lim F) : Calls Try.prog 52 #[el F] w fun e w' => e = .returned (.bool (decide (fv F % PP % 2 = 1))) ∧ Kept [] w w' := by
  have hh := Lib.hid (fun W => fhash_any F W hF)
  obtain ⟨X, hX⟩ : ∃ X, X = fv F % PP := ⟨_, rfl⟩
  rw [← hX] at hh ⊢
  obtain ⟨b, hb⟩ : ∃ b, b = X % 256 := ⟨_, rfl⟩
  have hi : ∀ W, (Instr.index 22 (ab (le X 32)) (.int .i64 0)).run Try.prog W = .ok (.int .u8 ((b : Nat) : Int)) W := fun W => by
    have := run_index_arr arrB Try.underlying5 rfl (by kernel_rfl) .i64 0 (by omega) (byte0 X) W
    rw [← hb] at this
    exact this
  have hlt : b < 256 := by omega
  have hm : bits .and .u8 ((b : Nat) : Int) 1 = ((b : Nat) : Int) % 2 := bits_mask .u8 8 (by decide) wraps_u8 1 (by decide) _ (by omega) (by omega)
  rcases Nat.mod_two_eq_zero_or_one X with h | h
  · have hm2 : bits .and .u8 ((b : Nat) : Int) 1 = 0 := by rw [hm]; omega
    have hd : decide (X % 2 = 1) = false := by simp [h]
    rw [hd]
    clear hd hm h hb hX hF
    go_enter Try.func52, Try.ntmps52
    go_wp2_with (first
      | ((with_reducible refine wpl_box (o := ⟨some 1, _, _, _, _, _⟩) (v := el F) rfl (.tmp 0) rfl rfl ?_); intro g1 w1 m1)
      | (with_reducible refine wpl_load_row (o := ⟨some 3, _, _, _, _, _⟩) structEl rfl (.tmp 1) rfl rfl m1.blk rfl ?_)
      | (go_at_call 39; refine (hh.out _).mono ?_; rintro e u1 ⟨rfl, kk⟩; have H := Lib.hid (m1.kept.then0 kk); clear kk m1))
    go_ret
    exact ⟨rfl, H.out⟩
  · have hm2 : bits .and .u8 ((b : Nat) : Int) 1 = 1 := by rw [hm]; omega
    have hd : decide (X % 2 = 1) = true := by simp [h]
    rw [hd]
    clear hd hm h hb hX hF
    go_enter Try.func52, Try.ntmps52
    go_wp2_with (first
      | ((with_reducible refine wpl_box (o := ⟨some 1, _, _, _, _, _⟩) (v := el F) rfl (.tmp 0) rfl rfl ?_); intro g1 w1 m1)
      | (with_reducible refine wpl_load_row (o := ⟨some 3, _, _, _, _, _⟩) structEl rfl (.tmp 1) rfl rfl m1.blk rfl ?_)
      | (go_at_call 39; refine (hh.out _).mono ?_; rintro e u1 ⟨rfl, kk⟩; have H := Lib.hid (m1.kept.then0 kk); clear kk m1))
    go_ret
    exact ⟨rfl, H.out⟩
end Go.Proofs.Ytkflljjcgihaoaa

namespace Go.Txt
open Go.RowKit Go.Mem

section
variable {P : Program} {ops : Array Oper} {Q : Exit → Act → World → Prop}

/-- What is asked of each ahead of the last. -/
def AskedV (P : Program) (l : List Oper) (vs : List Value) (S : World → Prop) (a0 : Act) (o : Oper) (v : Value) : Prop :=
  ∀ a w (C : Act → World → Prop) (R : Exit → Act → World → Prop), S w →
      (∀ j u d oj, vs[j]? = some u → l[j]? = some oj → oj.dst = some d → bindsTo o j → a.tmps.getD d undef = u) →
      (∀ t, (∀ x ∈ l, x.dst ≠ some t) → a.tmps.getD t undef = a0.tmps.getD t undef) →
      (∀ w', Kept [] w w' → C (a.put o.dst v) w') → o.wp P a w C R

def EachV (p : Oper → Value → Prop) : List Oper → List Value → Prop
  | _, [] => True
  | o :: l, v :: vs => p o v ∧ EachV p l vs
  | [], _ :: _ => False
theorem EachV.get {p : Oper → Value → Prop} : ∀ (l : List Oper) (vs : List Value) (i : Nat) (o : Oper) (v : Value), EachV p l vs → l[i]? = some o → vs[i]? = some v → p o v
  | [], _, _, _, _, _, h, _ => by simp at h
  | o' :: l, [], _, _, _, _, _, h => by simp at h
  | o' :: l, v' :: vs, 0, o, v, h, ho, hv => by
    obtain rfl : o' = o := by simpa using ho
    obtain rfl : v' = v := by simpa using hv
    exact h.1
  | o' :: l, v' :: vs, i + 1, o, v, h, ho, hv => EachV.get l vs i o v h.2 (by simpa using ho) (by simpa using hv)

theorem wp_last {id : Nat} {l : List Oper} {a0 : Act} {w0 : World} (hm : P.follows .mixedOrders = true) (vs : List Value) (S : World → Prop) (hch : checkM l a0.tmps.size = true) {ol : Oper} (hlen : l.length = vs.length + 1) (hol : l[vs.length]? = some ol)
    (hlast : ((List.range vs.length).all fun j => ol.after.toList.any fun e => e.on == j && Region.binds .any e) = true)
    (hS0 : S w0.drew) (hS : ∀ u u', S u → Kept [] u u' → S u') (hA : EachV (AskedV P l vs S a0) l vs)
    (hF : ∀ w, S w → ol.wp P (actOf l.toArray (fun j => vs.getD j undef) (fun j => decide (j < vs.length)) (List.range l.length) a0) w (fun a w => Q .normal a w) Q) : (Code.region id l.toArray true).wp P Q a0 w0 := by
  simp only [checkM, Bool.and_eq_true] at hch
  obtain ⟨⟨⟨hdep, hgd⟩, hdst⟩, hsz⟩ := hch
  have hd : ∀ (i : Nat) (o : Oper), l[i]? = some o → ∀ (j : Nat), j ≠ i → ∀ (oj : Oper), l[j]? = some oj → ∀ t, oj.dst = some t → o.dst ≠ some t := by
    intro i o ho j hj oj hoj t ht e
    have hil : i < l.length := (List.getElem?_eq_some_iff.1 ho).1
    have hjl : j < l.length := (List.getElem?_eq_some_iff.1 hoj).1
    have := List.all_eq_true.1 (List.all_eq_true.1 hdst j (by simpa using hjl)) i (by simpa using hil)
    simp [ho, hoj, ht, e, hj] at this
  have hlt : ∀ (i : Nat) (o : Oper) d, l[i]? = some o → o.dst = some d → d < a0.tmps.size := by
    intro i o d ho hdd
    have := List.all_eq_true.1 hsz o (List.mem_of_getElem? ho)
    simpa [hdd] using this
  have hget : ∀ (i : Nat) (o : Oper) (d : Tmp) (v : Nat → Value) (L : Nat → Bool), l[i]? = some o → o.dst = some d → L i = true → (actOf l.toArray v L (List.range l.length) a0).tmps.getD d undef = v i := by
    intro i o d v L ho hdd hL
    exact actOf_get (by simpa using ho) hdd hL (fun j hj oj hoj t ht => hd i o ho j hj oj (by simpa using hoj) t ht) _ _ List.nodup_range (by simpa using (List.getElem?_eq_some_iff.1 ho).1) (hlt i o d ho hdd)
  have hoth : ∀ (t : Tmp) (v : Nat → Value) (L : Nat → Bool), (∀ x ∈ l, x.dst ≠ some t) → (actOf l.toArray v L (List.range l.length) a0).tmps.getD t undef = a0.tmps.getD t undef := by
    intro t v L ht
    exact actOf_other _ _ fun j _ o ho _ => ht o (List.mem_of_getElem? (by simpa using ho))
  have hset : ∀ (i : Nat) (o : Oper) (v : Nat → Value) (L : Nat → Bool), l[i]? = some o → L i = false → (actOf l.toArray v L (List.range l.length) a0).put o.dst (v i) = actOf l.toArray v (fun j => if j = i then true else L j) (List.range l.length) a0 := by
    intro i o v L ho hL
    exact (actOf_set hL (by simpa using ho) (fun j hj oj hoj t ht => hd i o ho j hj oj (by simpa using hoj) t ht) _ _ List.nodup_range (by simpa using (List.getElem?_eq_some_iff.1 ho).1)).symm
  let v : Nat → Value := fun j => vs.getD j undef
  let I : (Nat → Bool) → Act → World → Prop := fun L a w => (S w ∧ a = actOf l.toArray v L (List.range l.length) a0 ∧ L vs.length = false) ∨ ((∀ j, j < l.length → L j = true) ∧ Q .normal a w)
  refine wp_region_any hm ?_
  refine wpAny_inv I ?_ hdep ?_ ?_ _ _ _ _ (by simp) (by simp) ?_
  · rintro L L' a w hL (⟨h1, h2, h3⟩ | ⟨h1, h2⟩)
    · refine .inl ⟨h1, h2.trans (actOf_congr _ _ fun j hj => ⟨hL j (by simpa using hj), fun _ => rfl⟩), (hL _ (by simp; omega)).symm.trans h3⟩
    · exact .inr ⟨fun j hj => (hL j (by simpa using hj)).symm.trans (h1 j hj), h2⟩
  · rintro L a w i o hI ho hLi hdeps
    have ho' : l[i]? = some o := by simpa using ho
    have hil : i < l.length := (List.getElem?_eq_some_iff.1 ho').1
    have hg : o.guard = none := by
      have := List.all_eq_true.1 hgd o (List.mem_of_getElem? ho')
      simpa using this
    have hbound : ∀ j, bindsTo o j → L j = true := by
      rintro j ⟨e, he, rfl, hb⟩
      exact hdeps e he hb
    rcases hI with ⟨h1, rfl, h3⟩ | ⟨h1, _⟩
    case inr => rw [h1 i hil] at hLi; cases hLi
    unfold wpOp
    simp only [ho]
    rw [if_pos (by simp [Region.wanted, hg])]
    refine .inl ?_
    by_cases hin : i = vs.length
    · subst hin
      rw [hol] at ho'; cases ho'
      have hall : ∀ j, j < vs.length → L j = true := by
        intro j hj
        have := List.all_eq_true.1 hlast j (by simpa using hj)
        simp only [List.any_eq_true, Bool.and_eq_true, beq_iff_eq] at this
        obtain ⟨e, he, he1, he2⟩ := this
        exact hbound j ⟨e, by simpa using he, he1, he2⟩
      have e1 : actOf l.toArray v L (List.range l.length) a0 = actOf l.toArray v (fun j => decide (j < vs.length)) (List.range l.length) a0 := by
        refine actOf_congr _ _ fun j hj => ⟨?_, fun _ => rfl⟩
        have hj' : j < l.length := by simpa using hj
        by_cases h : j < vs.length
        · rw [hall j h]; simp [h]
        · obtain rfl : j = vs.length := by omega
          rw [h3]; simp
      rw [e1]
      refine Oper.wp_mono (fun a' w' hq => .inr ⟨fun j hj => ?_, hq⟩) (hF w h1)
      dsimp only
      by_cases hjn : j = vs.length
      · rw [if_pos hjn]
      · rw [if_neg hjn]; exact hall j (by omega)
    · have hi : i < vs.length := by omega
      have hv : vs[i]? = some (v i) := by simp [v, List.getD, hi]
      have hp := EachV.get l vs i o (v i) hA ho' hv
      refine hp _ w _ _ h1 (fun j u d oj hK hoj hdj hb => ?_) (fun t ht => hoth t _ L ht) (fun w' hk => .inl ⟨hS _ _ h1 hk, hset i o v L ho' hLi, ?_⟩)
      · rw [hget j oj d v L hoj hdj (hbound j hb)]
        simp [v, List.getD, hK]
      · dsimp only; rw [if_neg (fun e => hin e.symm)]; exact h3
  · rintro L a w (⟨_, _, h3⟩ | ⟨_, h2⟩) hall
    · rw [hall vs.length (by simp; omega)] at h3; cases h3
    · exact h2
  · have hf : ∀ (j : Nat), j < l.length → (Array.replicate l.toArray.size false).getD j true = false := by
      intro j hj; simp [hj]
    refine .inl ⟨hS0, ?_, hf _ (by omega)⟩
    rw [actOf_congr (L' := fun _ => false) (v' := v) _ _ fun j hj => ⟨hf j (by simpa using hj), fun _ => rfl⟩, actOf_none]
end
end Go.Txt

namespace Go.Proofs.Ytkflljjcgihaoaa
open Go.RowKit Go.Mem Go.Txt

theorem enters_inv (xs : Array Value) (w : World) : (callFunc 51 xs).run Try.prog w = .ok (.enter 51 xs) w := enters_of (c := _) Try.func51 (by kernel_rfl) rfl xs w
theorem enters_m1 (xs : Array Value) (w : World) : (callFunc 73 xs).run Try.prog w = .ok (.enter 73 xs) w := enters_of (c := _) Try.func73 (by kernel_rfl) rfl xs w
theorem wp_storer {P : Program} {w : World} {o : Oper} {a : Act} {C : Act → World → Prop} {R : Exit → Act → World → Prop} {t : TypeId} {n : Nat} (T : RowT P t n) (x y : Operand) (ho : o.op = .store t x y) {g : Nat} {cs old : Array Value} (hx : a.eval x = .pointer (some ⟨g, 0, none⟩)) (hy : a.eval y = .agg cs)
    {bt : TypeId} (hb : Blk w g bt old) (hold : old.size = n) (hn : cs.size = n) (h1 : cs.all (·.oneCell') = true) (h : C (a.put o.dst undef) (w.setRow g cs)) : o.wp P a w C R :=
  wp_store_row t x y ho g cs hx hy bt old hb (by rw [T.size, hn]) (by omega) h1 h
theorem build_el : Try.prog.built 27 [] = some (uv (fam 5 nought)).toArray := by kernel_rfl
theorem build_b : Try.prog.built 22 [] = some (bv (noughts 32)).toArray := by kernel_rfl
theorem le_zero : le 0 32 = noughts 32 := by decide +kernel
theorem le_beq (x y : Nat) (hx : x < PP) (hy : y < PP) : (le x 32 == le y 32) = decide (x = y) := by
  by_cases h : x = y
  · subst h; simp
  · have : le x 32 ≠ le y 32 := fun e => h (by
      have h1 := leV_le 32 x
      have h2 := leV_le 32 y
      rw [e, h2] at h1
      unfold PP at hx hy
      omega)
    simp [h, this]
theorem eq_run (x y : Nat) (hx : x < PP) (hy : y < PP) (W : World) : (Op.equalIn 10000 22 (ab (le x 32)) (ab (le y 32))).run Try.prog W = .ok (decide (x = y)) W := by
  have := run_eqIn_ab arrB Try.underlying5 (by kernel_rfl) (le x 32) (le y 32) (le_len _ _) (le_len _ _) W
  rwa [le_beq x y hx hy] at this

/-- What Root answers. -/
def rtW (U V : Nat → Nat) : Nat → Nat := mlF U (invF V)
def rtX (U V : Nat → Nat) : Nat → Nat := if fv (mlF (tryF (rtW U V)) (tryF (rtW U V))) % PP = fv (rtW U V) % PP then tryF (rtW U V) else mlF (tryF (rtW U V)) m1F
def rtB (U V : Nat → Nat) : Bool := decide (fv V % PP ≠ 0) && decide (fv (mlF (rtX U V) (rtX U V)) % PP = fv (rtW U V) % PP)
def rtF (U V : Nat → Nat) : Nat → Nat := if rtB U V then (if fv (rtX U V) % PP % 2 = 1 then carL (subL nought (rtX U V)) else rtX U V) else nought
theorem nought_lim : Lim nought := fun _ _ => by unfold nought; omega
theorem rtW_lim {U V : Nat → Nat} (hU : Lim U) (hV : Lim V) : Lim (rtW U V) := mlF_lim hU (invF_lim hV)
theorem rtX_lim {U V : Nat → Nat} (hU : Lim U) (hV : Lim V) : Lim (rtX U V) := by
  unfold rtX
  split
  · exact tryF_lim (rtW_lim hU hV)
  · exact mlF_lim (tryF_lim (rtW_lim hU hV)) m1_lim
/-- What a number's bytes, what its oddness answer. -/
abbrev HaC (F : Nat → Nat) (x : Nat) : Prop := ∀ W, Calls Try.prog 39 #[el F] W fun e w' => e = .returned (ab (le x 32)) ∧ Kept [] W w'
abbrev OdC (F : Nat → Nat) (b : Bool) : Prop := ∀ W, Calls Try.prog 52 #[el F] W fun e w' => e = .returned (.bool b) ∧ Kept [] W w'
abbrev SuC (F G R : Nat → Nat) : Prop := ∀ W, Calls Try.prog 36 #[el F, el G] W fun e w' => e = .returned (el R) ∧ Kept [] W w'
/-- What lies in memory. -/
structure RtM (w3 : World) (q6 q9 : Nat) (W X : Nat → Nat) (u : World) : Prop where
  w : Blk u q6 27 (uv (fam 5 W)).toArray
  x : Blk u q9 27 (uv (fam 5 X)).toArray
  k : Kept [] w3 u
theorem RtM.kept {w3 : World} {q6 q9 : Nat} {W X : Nat → Nat} {u u' : World} (h : RtM w3 q6 q9 W X u) (hk : Kept [] u u') : RtM w3 q6 q9 W X u' := ⟨h.w.kept hk (by simp), h.x.kept hk (by simp), h.k.then0 hk⟩
theorem RtM.put {w3 : World} {q6 q9 : Nat} {W X Y : Nat → Nat} {u u' : World} (h : RtM w3 q6 q9 W X u) (n : q6 ≠ q9 ∧ w3.heap.size ≤ q9) (b : Blk u' q9 27 (uv (fam 5 Y)).toArray) (hk : Kept [q9] u u') : RtM w3 q6 q9 W Y u' := ⟨h.w.kept hk (by simpa using n.1), b, h.k.then1 hk n.2⟩

set_option maxRecDepth 100000 in
set_option maxHeartbeats 4000000 in
theorem root_any (U V : Nat → Nat) (hU : Lim U) (hV : Lim V) (w : World) :
    Calls Try.prog 35 #[el U, el V] w fun e w' => e = .returned (.tuple #[el (rtF U V), .bool (rtB U V)]) ∧ Kept [] w w' := by
  have hhv : HaC V (fv V % PP) := fun W => fhash_any V W hV
  obtain ⟨Z, hZ⟩ : ∃ Z, Z = noughts 32 := ⟨_, rfl⟩
  have hbb : Try.prog.built 22 [] = some (bv Z).toArray := by rw [hZ]; exact build_b
  have eqv : ∀ W, (Op.equalIn 10000 22 (ab (le (fv V % PP) 32)) (ab Z)).run Try.prog W = .ok (decide (fv V % PP = 0)) W := fun W => by
    rw [hZ, ← le_zero]; exact eq_run _ _ (Nat.mod_lt _ PP_pos) PP_pos W
  clear hZ
  by_cases hv : fv V % PP = 0
  · have hB : rtB U V = false := by unfold rtB; simp [hv]
    have hF : rtF U V = nought := by unfold rtF; rw [hB]; rfl
    rw [hB, hF]
    rw [decide_eq_true hv] at eqv
    generalize fv V % PP = v at *
    clear hB hF hU hV hv
    replace hhv := Lib.hid hhv
    replace hbb := Lib.hid hbb
    go_enter Try.func35, Try.ntmps35
    go_wp2_with (first
      | ((with_reducible refine wpl_box (o := ⟨some 2, _, _, _, _, _⟩) (v := el U) rfl (.tmp 0) rfl rfl ?_); intro g2 w1 m1)
      | ((with_reducible refine wpl_box (o := ⟨some 3, _, _, _, _, _⟩) (v := el V) rfl (.tmp 1) rfl rfl ?_); intro g3 w2 m2)
      | ((with_reducible refine wpl_new (o := ⟨some 4, _, _, _, _, _⟩) rfl rfl zeroEl ?_); intro g4 w3 m3; have B3 := Lib.hid (m2.blk.kept m3.kept (by simp)); have B4 := Lib.hid m3.blk; have D := Lib.hid (And.intro (Nat.le_trans (m1.kept.then0 m2.kept).size m3.le) ((m1.kept.then0 m2.kept).then0 m3.kept)); clear m1 m2 m3)
      | (with_reducible refine wpl_load_row (o := ⟨some 10, _, _, _, _, _⟩) structEl rfl (.tmp 3) rfl rfl B3.out rfl ?_)
      | (go_at_call 39; refine (hhv.out _).mono ?_; rintro e u1 ⟨rfl, kk⟩; have B4 := Lib.hid (B4.out.kept kk (by simp)); have K4 := Lib.hid (D.out.2.then0 kk); clear kk)
      | (with_reducible refine wpl_build0 (o := ⟨some 12, _, _, _, _, _⟩) rfl rfl hbb.out ?_)
      | (with_reducible refine wpl_build0 (o := ⟨some 14, _, _, _, _, _⟩) rfl rfl build_el ?_)
      | ((with_reducible refine wpl_store_row (o := ⟨none, .store 27 (.tmp 4) (.tmp 14), _, _, _, _⟩) structEl rfl (.tmp 4) (.tmp 14) rfl rfl rfl B4.out rfl rfl (one_el _) ?_); intro v4 b4 k4))
    exact ret_row2 structEl rfl rfl b4 rfl rfl ⟨rfl, K4.out.then1 k4 D.out.1⟩
  · have nv : decide (fv V % PP ≠ 0) = true := by simp [hv]
    have ci : ∀ W, Calls Try.prog 51 #[el V] W fun e w' => e = .returned (el (invF V)) ∧ Kept [] W w' := fun W => inv_any V hV W
    have cm : MlC U (invF V) (rtW U V) := mlF_any _ _ hU (invF_lim hV)
    have hW := rtW_lim hU hV
    have co := fun W => ones_any (rtW U V) hW W
    have c2 : SnC 2 (o_nn (rtW U V)) (sqn 2 (o_nn (rtW U V))) := sqn_any 2 _ (o_nn_lim hW) (by decide)
    have cs : SqC (rtW U V) (sqF (rtW U V)) := sqF_any _ hW
    have ct : MlC (sqn 2 (o_nn (rtW U V))) (sqF (rtW U V)) (tryF (rtW U V)) := mlF_any _ _ (sqn_lim (o_nn_lim hW) 2) (sqF_lim hW)
    have hX0 := tryF_lim hW
    have cq : MlC (tryF (rtW U V)) (tryF (rtW U V)) (mlF (tryF (rtW U V)) (tryF (rtW U V))) := mlF_any _ _ hX0 hX0
    have hs0 : HaC (mlF (tryF (rtW U V)) (tryF (rtW U V))) (fv (mlF (tryF (rtW U V)) (tryF (rtW U V))) % PP) := fun W => fhash_any _ W (mlF_lim hX0 hX0)
    have hw0 : HaC (rtW U V) (fv (rtW U V) % PP) := fun W => fhash_any _ W hW
    have c1 := minusOne_any
    have cm1 : MlC (tryF (rtW U V)) m1F (mlF (tryF (rtW U V)) m1F) := mlF_any _ _ hX0 m1_lim
    have hX1 := rtX_lim hU hV
    have cq1 : MlC (rtX U V) (rtX U V) (mlF (rtX U V) (rtX U V)) := mlF_any _ _ hX1 hX1
    have hs1 : HaC (mlF (rtX U V) (rtX U V)) (fv (mlF (rtX U V) (rtX U V)) % PP) := fun W => fhash_any _ W (mlF_lim hX1 hX1)
    have cod : OdC (rtX U V) (decide (fv (rtX U V) % PP % 2 = 1)) := fun W => odd_any _ W hX1
    have csu : SuC nought (rtX U V) (carL (subL nought (rtX U V))) := fun W => fsub_any _ _ W nought_lim hX1
    have qq0 := le_beq (fv (mlF (tryF (rtW U V)) (tryF (rtW U V))) % PP) (fv (rtW U V) % PP) (Nat.mod_lt _ PP_pos) (Nat.mod_lt _ PP_pos)
    have qq1 := le_beq (fv (mlF (rtX U V) (rtX U V)) % PP) (fv (rtW U V) % PP) (Nat.mod_lt _ PP_pos) (Nat.mod_lt _ PP_pos)
    have eq0 := eq_run (fv (mlF (tryF (rtW U V)) (tryF (rtW U V))) % PP) (fv (rtW U V) % PP) (Nat.mod_lt _ PP_pos) (Nat.mod_lt _ PP_pos)
    have eq1 := eq_run (fv (mlF (rtX U V) (rtX U V)) % PP) (fv (rtW U V) % PP) (Nat.mod_lt _ PP_pos) (Nat.mod_lt _ PP_pos)
    have hxx : rtX U V = if decide (fv (mlF (tryF (rtW U V)) (tryF (rtW U V))) % PP = fv (rtW U V) % PP) = true then tryF (rtW U V) else mlF (tryF (rtW U V)) m1F := by simp only [decide_eq_true_eq]; rfl
    have hB : rtB U V = decide (fv (mlF (rtX U V) (rtX U V)) % PP = fv (rtW U V) % PP) := by unfold rtB; rw [nv, Bool.true_and]
    have hF : rtF U V = if rtB U V then (if decide (fv (rtX U V) % PP % 2 = 1) = true then carL (subL nought (rtX U V)) else rtX U V) else nought := by simp only [decide_eq_true_eq]; rfl
    rw [hB] at hF
    rw [hB, hF]
    rw [decide_eq_false hv] at eqv
    clear hB hF hW hX0 hX1 nv hv hU hV
    generalize decide (fv (mlF (tryF (rtW U V)) (tryF (rtW U V))) % PP = fv (rtW U V) % PP) = t0 at *
    generalize decide (fv (mlF (rtX U V) (rtX U V)) % PP = fv (rtW U V) % PP) = t1 at *
    generalize decide (fv (rtX U V) % PP % 2 = 1) = od at *
    generalize fv (mlF (tryF (rtW U V)) (tryF (rtW U V))) % PP = s0, fv (mlF (rtX U V) (rtX U V)) % PP = s1, fv (rtW U V) % PP = w0, fv V % PP = v at *
    generalize mlF (rtX U V) (rtX U V) = S1, carL (subL nought (rtX U V)) = X2 at *
    generalize rtX U V = X1 at *
    generalize mlF (tryF (rtW U V)) (tryF (rtW U V)) = S0, mlF (tryF (rtW U V)) m1F = XM at *
    generalize tryF (rtW U V) = X0 at *
    generalize sqn 2 (o_nn (rtW U V)) = n2, sqF (rtW U V) = sw at *
    generalize o_nn (rtW U V) = nn, o_elev (rtW U V) = ee at *
    generalize rtW U V = W, invF V = I at *
    replace hhv := Lib.hid hhv
    replace hbb := Lib.hid hbb
    replace ci := Lib.hid ci
    replace cm := Lib.hid cm
    replace co := Lib.hid co
    replace c2 := Lib.hid c2
    replace cs := Lib.hid cs
    replace ct := Lib.hid ct
    replace cq := Lib.hid cq
    replace hs0 := Lib.hid hs0
    replace hw0 := Lib.hid hw0
    replace c1 := Lib.hid c1
    replace cm1 := Lib.hid cm1
    replace cq1 := Lib.hid cq1
    replace hs1 := Lib.hid hs1
    replace cod := Lib.hid cod
    replace csu := Lib.hid csu
    replace hxx := Lib.hid hxx
    replace qq0 := Lib.hid qq0
    replace qq1 := Lib.hid qq1
    go_enter Try.func35, Try.ntmps35
    go_wp2_with (first
      | ((with_reducible refine wpl_box (o := ⟨some 2, _, _, _, _, _⟩) (v := el U) rfl (.tmp 0) rfl rfl ?_); intro g2 w1 m1)
      | ((with_reducible refine wpl_box (o := ⟨some 3, _, _, _, _, _⟩) (v := el V) rfl (.tmp 1) rfl rfl ?_); intro g3 w2 m2)
      | ((with_reducible refine wpl_new (o := ⟨some 4, _, _, _, _, _⟩) rfl rfl zeroEl ?_); intro g4 w3 m3; have H := Lib.hid (Els.none w3); have B2 := Lib.hid ((m1.blk.kept m2.kept (by simp)).kept m3.kept (by simp)); have B3 := Lib.hid (m2.blk.kept m3.kept (by simp)); have B4 := Lib.hid m3.blk; have D := Lib.hid (And.intro (Nat.le_trans (m1.kept.then0 m2.kept).size m3.le) ((m1.kept.then0 m2.kept).then0 m3.kept)); clear m1 m2 m3)
      | (with_reducible refine wpl_load_row (o := ⟨some 10, _, _, _, _, _⟩) structEl rfl (.tmp 3) rfl rfl (B3.out.kept H.out.k (by simp)) rfl ?_)
      | (go_at_call 39; (with_reducible refine (hhv.out _).mono ?_); rintro e u1 ⟨rfl, kk⟩; have H := Lib.hid (H.out.kept kk); clear kk)
      | (with_reducible refine wpl_build0 (o := ⟨some 12, _, _, _, _, _⟩) rfl rfl hbb.out ?_))
    refine wp_multi (by kernel_rfl) [.val (el U), .val (el V), .val (el I), .val (el W), .new 27 (el nought), .put 4 3 (uv (fam 5 W)).toArray] (Els w3 []) (by kernel_rfl) (by kernel_rfl) H.out.drew (H.out.fresh) ?_ ?_
    · refine ⟨?_, ?_, ?_, ?_, ?_, ?_, trivial⟩
      · exact ⟨⟨_, rfl⟩, fun a' u K0 R hS hr ho h => wp_loadr structEl (.tmp 2) rfl ((ho 2 (by decide)).trans rfl) (B2.out.kept hS.k (by simp)) rfl (h u (Kept.refl _ _))⟩
      · exact ⟨⟨_, rfl⟩, fun a' u K0 R hS hr ho h => wp_loadr structEl (.tmp 3) rfl ((ho 3 (by decide)).trans rfl) (B3.out.kept hS.k (by simp)) rfl (h u (Kept.refl _ _))⟩
      · refine ⟨⟨_, rfl⟩, fun a' u K0 R hS hr ho h => ?_⟩
        refine wp_callf rfl enters_inv (vs := #[el V]) ?_ (ci.out u) h
        have h0 := hr 1 (el V) 16 _ rfl rfl rfl ⟨⟨1, .data⟩, by simp, rfl, rfl⟩
        simp [Act.eval] at h0 ⊢
        exact h0
      · refine ⟨⟨_, rfl⟩, fun a' u K0 R hS hr ho h => ?_⟩
        refine wp_callf rfl enters_mul (vs := #[el U, el I]) ?_ (cm.out u) h
        have h0 := hr 0 (el U) 15 _ rfl rfl rfl ⟨⟨0, .data⟩, by simp, rfl, rfl⟩
        have h1 := hr 2 (el I) 17 _ rfl rfl rfl ⟨⟨2, .data⟩, by simp, rfl, rfl⟩
        simp [Act.eval] at h0 h1 ⊢
        exact ⟨h0, h1⟩
      · exact ⟨⟨_, rfl⟩, rfl, zeroEl⟩
      · exact ⟨rfl, ⟨⟨4, .data⟩, by simp, rfl, rfl⟩, ⟨⟨3, .data⟩, by simp, rfl, rfl⟩, _, _, _, _, _, _, _, _, rfl, rfl, rfl, rfl, rfl, rfl, rfl, structEl, rfl, rfl, one_el _⟩
    intro γ r3 hS hγ hne hput
    have hl := Nat.le_trans H.out.k.size (hγ 4 _ _ rfl)
    have b := hput 5 4 3 _ _ _ rfl rfl
    generalize e7 : γ 4 = q6 at *
    simp [actOf, VK, List.range, List.range.loop, Act.put, e7]
    have H := Lib.hid (hS.cons b hl)
    clear b hl hput hne hγ hS e7
    go_wp2_with (first
      | (with_reducible refine wpl_load_row (o := ⟨some 20, _, _, _, _, _⟩) structEl rfl (.tmp 6) rfl rfl (H.out.s (q6, W) (by simp)) rfl ?_)
      | (go_at_call 70; (with_reducible refine (co.out _).mono ?_); rintro e u2 ⟨rfl, kk⟩; have H := Lib.hid (H.out.kept kk); clear kk)
      | ((with_reducible refine wpl_new (o := ⟨some 7, _, _, _, _, _⟩) rfl rfl zeroEl ?_); intro q7 x7 m7; have N7 := Lib.hid (m7.ne (H.out.s (q6, W) (by simp)).lt); have H := Lib.hid (H.out.put m7 m7.blk (Kept.refl _ _)); clear m7)
      | ((with_reducible refine wpl_new (o := ⟨some 8, _, _, _, _, _⟩) rfl rfl zeroEl ?_); intro q8 x8 m8; have N := Lib.hid (And.intro (m8.ne (H.out.s (q7, nought) (by simp)).lt) (m8.ne (H.out.s (q6, W) (by simp)).lt)); have H := Lib.hid (H.out.put m8 m8.blk (Kept.refl _ _)); clear m8)
      | ((with_reducible refine wpl_store_row (o := ⟨none, .store 27 (.tmp 7) (.tmp 22), _, _, _, _⟩) structEl rfl (.tmp 7) (.tmp 22) rfl rfl rfl (H.out.s (q7, nought) (by simp)) rfl rfl (one_el _) ?_); intro v7 b7 k7; have B8 := Lib.hid ((H.out.s (q8, nought) (by simp)).kept k7 (by simpa using Ne.symm N.out.1)))
      | ((with_reducible refine wpl_store_row (o := ⟨none, .store 27 (.tmp 8) (.tmp 23), _, _, _, _⟩) structEl rfl (.tmp 8) (.tmp 23) rfl rfl rfl B8.out rfl rfl (one_el _) ?_); intro v8 b8 k8))
    have f6 := H.out.f (q6, W) (by simp)
    have f7 := H.out.f (q7, nought) (by simp)
    have f8 := H.out.f (q8, nought) (by simp)
    have E := Lib.hid (show Els w3 [(q7, nn), (q6, W)] v8 from
      ((show Els w3 [] v8 from ⟨fun _ h => absurd h (by simp), fun _ h => absurd h (by simp), (H.out.k.then1 k7 f7).then1 k8 f8⟩).cons (((H.out.s (q6, W) (by simp)).kept k7 (by simpa using N7.out)).kept k8 (by simpa using N.out.2)) f6).cons (b7.kept k8 (by simpa using N.out.1)) f7)
    clear b7 k7 b8 k8 H f6 f7 f8 N N7 B8
    have H := Lib.hid E.out
    refine wp_multi (by kernel_rfl) [.val (el nn), .val (el n2), .val (el W), .val (el sw), .val (el X0), .new 27 (el nought), .put 5 4 (uv (fam 5 X0)).toArray] (Els w3 [(q7, nn), (q6, W)]) (by kernel_rfl) (by kernel_rfl) H.out.drew (H.out.fresh) ?_ ?_
    · refine ⟨?_, ?_, ?_, ?_, ?_, ?_, ?_, trivial⟩
      · exact ⟨⟨_, rfl⟩, fun a' u K0 R hS hr ho h => wp_loadr structEl (.tmp 7) rfl ((ho 7 (by decide)).trans rfl) (hS.s (q7, nn) (by simp)) rfl (h u (Kept.refl _ _))⟩
      · refine ⟨⟨_, rfl⟩, fun a' u K0 R hS hr ho h => ?_⟩
        refine wp_callf rfl enters_squared (vs := #[el nn, .int .i64 (2 : Nat)]) ?_ (c2.out u) h
        have h0 := hr 0 (el nn) 24 _ rfl rfl rfl ⟨⟨0, .data⟩, by simp, rfl, rfl⟩
        simp [Act.eval] at h0 ⊢
        exact h0
      · exact ⟨⟨_, rfl⟩, fun a' u K0 R hS hr ho h => wp_loadr structEl (.tmp 6) rfl ((ho 6 (by decide)).trans rfl) (hS.s (q6, W) (by simp)) rfl (h u (Kept.refl _ _))⟩
      · refine ⟨⟨_, rfl⟩, fun a' u K0 R hS hr ho h => ?_⟩
        refine wp_callf rfl enters_square (vs := #[el W]) ?_ (cs.out u) h
        have h0 := hr 2 (el W) 26 _ rfl rfl rfl ⟨⟨2, .data⟩, by simp, rfl, rfl⟩
        simp [Act.eval] at h0 ⊢
        exact h0
      · refine ⟨⟨_, rfl⟩, fun a' u K0 R hS hr ho h => ?_⟩
        refine wp_callf rfl enters_mul (vs := #[el n2, el sw]) ?_ (ct.out u) h
        have h0 := hr 1 (el n2) 25 _ rfl rfl rfl ⟨⟨1, .data⟩, by simp, rfl, rfl⟩
        have h1 := hr 3 (el sw) 27 _ rfl rfl rfl ⟨⟨3, .data⟩, by simp, rfl, rfl⟩
        simp [Act.eval] at h0 h1 ⊢
        exact ⟨h0, h1⟩
      · exact ⟨⟨_, rfl⟩, rfl, zeroEl⟩
      · exact ⟨rfl, ⟨⟨5, .data⟩, by simp, rfl, rfl⟩, ⟨⟨4, .data⟩, by simp, rfl, rfl⟩, _, _, _, _, _, _, _, _, rfl, rfl, rfl, rfl, rfl, rfl, rfl, structEl, rfl, rfl, one_el _⟩
    intro γ r5 hS hγ hne hput
    have hg := hγ 5 _ _ rfl
    have hl := Nat.le_trans H.out.k.size hg
    have b := hput 6 5 4 _ _ _ rfl rfl
    have n69 := (H.out.s (q6, W) (by simp)).lt
    generalize e7 : γ 5 = q9 at *
    simp [actOf, VK, List.range, List.range.loop, Act.put, e7]
    have N := Lib.hid (show q6 ≠ q9 ∧ w3.heap.size ≤ q9 from ⟨by omega, hl⟩)
    have H := Lib.hid (show RtM w3 q6 q9 W X0 r5 from ⟨hS.s (q6, W) (by simp), b, hS.k⟩)
    clear b hl hput hne hγ hS e7 hg n69
    go_wp2_with fail
    cases t0 with
    | true =>
      refine Txt.wp_textG [0, 1, 4, 6] (RtM w3 q6 q9 W X0) [[_, _, _], [_], [_, _], [_]] (by kernel_rfl) (by kernel_rfl) rfl (H.out.kept (Kept.refl [] _).drew) (Txt.segs_cons ?_)
      have H := Lib.hid (H.out.kept (Kept.refl [] _).drew)
      go_wp2_with (first
        | (with_reducible refine wpl_load_row (o := ⟨some 29, _, _, _, _, _⟩) structEl rfl (.tmp 9) rfl rfl H.out.x rfl ?_)
        | (with_reducible refine wpl_load_row (o := ⟨some 30, _, _, _, _, _⟩) structEl rfl (.tmp 9) rfl rfl H.out.x rfl ?_)
        | (go_at_call 33; refine (cq.out _).mono ?_; rintro e da ⟨rfl, kk⟩; have H := Lib.hid (H.out.kept kk); clear kk))
      refine ⟨rfl, H.out, Txt.segs_cons ?_⟩
      go_wp2_with (go_at_call 39; (with_reducible refine (hs0.out _).mono ?_); rintro e db ⟨rfl, kk⟩; have H := Lib.hid (H.out.kept kk); clear kk)
      refine ⟨rfl, H.out, Txt.segs_cons ?_⟩
      go_wp2_with (first
        | (with_reducible refine wpl_load_row (o := ⟨some 33, _, _, _, _, _⟩) structEl rfl (.tmp 6) rfl rfl H.out.w rfl ?_)
        | (go_at_call 39; refine (hw0.out _).mono ?_; rintro e dc ⟨rfl, kk⟩; have H := Lib.hid (H.out.kept kk); clear kk))
      refine ⟨rfl, H.out, Txt.segs_cons ?_⟩
      go_wp2_with fail
      refine ⟨rfl, H.out, Txt.segs_nil ⟨⟨by kernel_rfl, ?_⟩, ?_⟩⟩
      · intro j hj o ho _
        have hj2 : j = 0 ∨ j = 1 ∨ j = 4 ∨ j = 6 := by simpa using hj
        rcases hj2 with rfl | rfl | rfl | rfl <;> cases ho
        · exact ⟨29, rfl, fun u hu => exec_load structEl (.tmp 9) rfl rfl hu.x rfl⟩
        · exact ⟨30, rfl, fun u hu => exec_load structEl (.tmp 9) rfl rfl hu.x rfl⟩
        · exact ⟨33, rfl, fun u hu => exec_load structEl (.tmp 6) rfl rfl hu.w rfl⟩
        · exact ⟨35, rfl, fun u _ => (exec_neq_ab arrB Try.underlying5 (by kernel_rfl) (by kernel_rfl) (.tmp 32) (.tmp 34) rfl (xs := le s0 32) (ys := le w0 32) rfl rfl (le_len _ _) (le_len _ _)).trans (by rw [qq0.out]; rfl)⟩
      have H := Lib.hid (show RtM w3 q6 q9 W X1 _ from (show X1 = X0 from hxx.out) ▸ H.out)
      go_wp2_with fail
      cases t1 with
      | false =>
        refine Txt.wp_textG [0, 1, 4, 6] (RtM w3 q6 q9 W X1) [[_, _, _], [_], [_, _], [_]] (by kernel_rfl) (by kernel_rfl) rfl (H.out.kept (Kept.refl [] _).drew) (Txt.segs_cons ?_)
        have H := Lib.hid (H.out.kept (Kept.refl [] _).drew)
        go_wp2_with (first
          | (with_reducible refine wpl_load_row (o := ⟨some 39, _, _, _, _, _⟩) structEl rfl (.tmp 9) rfl rfl H.out.x rfl ?_)
          | (with_reducible refine wpl_load_row (o := ⟨some 40, _, _, _, _, _⟩) structEl rfl (.tmp 9) rfl rfl H.out.x rfl ?_)
          | (go_at_call 33; refine (cq1.out _).mono ?_; rintro e fa ⟨rfl, kk⟩; have H := Lib.hid (H.out.kept kk); clear kk))
        refine ⟨rfl, H.out, Txt.segs_cons ?_⟩
        go_wp2_with (go_at_call 39; (with_reducible refine (hs1.out _).mono ?_); rintro e fb ⟨rfl, kk⟩; have H := Lib.hid (H.out.kept kk); clear kk)
        refine ⟨rfl, H.out, Txt.segs_cons ?_⟩
        go_wp2_with (first
          | (with_reducible refine wpl_load_row (o := ⟨some 43, _, _, _, _, _⟩) structEl rfl (.tmp 6) rfl rfl H.out.w rfl ?_)
          | (go_at_call 39; refine (hw0.out _).mono ?_; rintro e fc ⟨rfl, kk⟩; have H := Lib.hid (H.out.kept kk); clear kk))
        refine ⟨rfl, H.out, Txt.segs_cons ?_⟩
        go_wp2_with fail
        refine ⟨rfl, H.out, Txt.segs_nil ⟨⟨by kernel_rfl, ?_⟩, ?_⟩⟩
        · intro j hj o ho _
          have hj2 : j = 0 ∨ j = 1 ∨ j = 4 ∨ j = 6 := by simpa using hj
          rcases hj2 with rfl | rfl | rfl | rfl <;> cases ho
          · exact ⟨39, rfl, fun u hu => exec_load structEl (.tmp 9) rfl rfl hu.x rfl⟩
          · exact ⟨40, rfl, fun u hu => exec_load structEl (.tmp 9) rfl rfl hu.x rfl⟩
          · exact ⟨43, rfl, fun u hu => exec_load structEl (.tmp 6) rfl rfl hu.w rfl⟩
          · exact ⟨45, rfl, fun u _ => (exec_neq_ab arrB Try.underlying5 (by kernel_rfl) (by kernel_rfl) (.tmp 42) (.tmp 44) rfl (xs := le s1 32) (ys := le w0 32) rfl rfl (le_len _ _) (le_len _ _)).trans (by rw [qq1.out]; rfl)⟩
        go_wp2_with (first
          | (with_reducible refine wpl_build0 (o := ⟨some 46, _, _, _, _, _⟩) rfl rfl build_el ?_)
          | ((with_reducible refine wpl_store_row (o := ⟨none, .store 27 (.tmp 4) (.tmp 46), _, _, _, _⟩) structEl rfl (.tmp 4) (.tmp 46) rfl rfl rfl (B4.out.kept H.out.k (by simp)) rfl rfl (one_el _) ?_); intro v4 b4 k4))
        exact ret_row2 structEl rfl rfl b4 rfl rfl ⟨rfl, (D.out.2.then0 H.out.k).then1 k4 D.out.1⟩
      | true =>
        refine Txt.wp_textG [0, 1, 4, 6] (RtM w3 q6 q9 W X1) [[_, _, _], [_], [_, _], [_]] (by kernel_rfl) (by kernel_rfl) rfl (H.out.kept (Kept.refl [] _).drew) (Txt.segs_cons ?_)
        have H := Lib.hid (H.out.kept (Kept.refl [] _).drew)
        go_wp2_with (first
          | (with_reducible refine wpl_load_row (o := ⟨some 39, _, _, _, _, _⟩) structEl rfl (.tmp 9) rfl rfl H.out.x rfl ?_)
          | (with_reducible refine wpl_load_row (o := ⟨some 40, _, _, _, _, _⟩) structEl rfl (.tmp 9) rfl rfl H.out.x rfl ?_)
          | (go_at_call 33; refine (cq1.out _).mono ?_; rintro e fa ⟨rfl, kk⟩; have H := Lib.hid (H.out.kept kk); clear kk))
        refine ⟨rfl, H.out, Txt.segs_cons ?_⟩
        go_wp2_with (go_at_call 39; (with_reducible refine (hs1.out _).mono ?_); rintro e fb ⟨rfl, kk⟩; have H := Lib.hid (H.out.kept kk); clear kk)
        refine ⟨rfl, H.out, Txt.segs_cons ?_⟩
        go_wp2_with (first
          | (with_reducible refine wpl_load_row (o := ⟨some 43, _, _, _, _, _⟩) structEl rfl (.tmp 6) rfl rfl H.out.w rfl ?_)
          | (go_at_call 39; refine (hw0.out _).mono ?_; rintro e fc ⟨rfl, kk⟩; have H := Lib.hid (H.out.kept kk); clear kk))
        refine ⟨rfl, H.out, Txt.segs_cons ?_⟩
        go_wp2_with fail
        refine ⟨rfl, H.out, Txt.segs_nil ⟨⟨by kernel_rfl, ?_⟩, ?_⟩⟩
        · intro j hj o ho _
          have hj2 : j = 0 ∨ j = 1 ∨ j = 4 ∨ j = 6 := by simpa using hj
          rcases hj2 with rfl | rfl | rfl | rfl <;> cases ho
          · exact ⟨39, rfl, fun u hu => exec_load structEl (.tmp 9) rfl rfl hu.x rfl⟩
          · exact ⟨40, rfl, fun u hu => exec_load structEl (.tmp 9) rfl rfl hu.x rfl⟩
          · exact ⟨43, rfl, fun u hu => exec_load structEl (.tmp 6) rfl rfl hu.w rfl⟩
          · exact ⟨45, rfl, fun u _ => (exec_neq_ab arrB Try.underlying5 (by kernel_rfl) (by kernel_rfl) (.tmp 42) (.tmp 44) rfl (xs := le s1 32) (ys := le w0 32) rfl rfl (le_len _ _) (le_len _ _)).trans (by rw [qq1.out]; rfl)⟩
        cases od with
        | false =>
          go_wp2_with (first
            | (with_reducible refine wpl_load_row (o := ⟨some 47, _, _, _, _, _⟩) structEl rfl (.tmp 9) rfl rfl H.out.x rfl ?_)
            | (go_at_call 52; refine (cod.out _).mono ?_; rintro e fd ⟨rfl, kk⟩; have H := Lib.hid (H.out.kept kk); clear kk)
            | (with_reducible refine wpl_load_row (o := ⟨some 52, _, _, _, _, _⟩) structEl rfl (.tmp 9) rfl rfl H.out.x rfl ?_)
            | ((with_reducible refine wpl_store_row (o := ⟨none, .store 27 (.tmp 4) (.tmp 52), _, _, _, _⟩) structEl rfl (.tmp 4) (.tmp 52) rfl rfl rfl (B4.out.kept H.out.k (by simp)) rfl rfl (one_el _) ?_); intro v4 b4 k4))
          exact ret_row2 structEl rfl rfl b4 rfl rfl ⟨rfl, (D.out.2.then0 H.out.k).then1 k4 D.out.1⟩
        | true =>
          go_wp2_with (first
            | (with_reducible refine wpl_load_row (o := ⟨some 47, _, _, _, _, _⟩) structEl rfl (.tmp 9) rfl rfl H.out.x rfl ?_)
            | (go_at_call 52; refine (cod.out _).mono ?_; rintro e fd ⟨rfl, kk⟩; have H := Lib.hid (H.out.kept kk); clear kk)
            | (with_reducible refine wpl_build0 (o := ⟨some 49, _, _, _, _, _⟩) rfl rfl build_el ?_)
            | (with_reducible refine wpl_load_row (o := ⟨some 50, _, _, _, _, _⟩) structEl rfl (.tmp 9) rfl rfl H.out.x rfl ?_)
            | (go_at_call 36; refine (csu.out _).mono ?_; rintro e fe ⟨rfl, kk⟩; have H := Lib.hid (H.out.kept kk); clear kk)
            | ((with_reducible refine wpl_store_row (o := ⟨none, .store 27 (.tmp 9) (.tmp 51), _, _, _, _⟩) structEl rfl (.tmp 9) (.tmp 51) rfl rfl rfl H.out.x rfl rfl (one_el _) ?_); intro v9 b9 k9; have H := Lib.hid (H.out.put N.out b9 k9); clear b9 k9)
            | (with_reducible refine wpl_load_row (o := ⟨some 52, _, _, _, _, _⟩) structEl rfl (.tmp 9) rfl rfl H.out.x rfl ?_)
            | ((with_reducible refine wpl_store_row (o := ⟨none, .store 27 (.tmp 4) (.tmp 52), _, _, _, _⟩) structEl rfl (.tmp 4) (.tmp 52) rfl rfl rfl (B4.out.kept H.out.k (by simp)) rfl rfl (one_el _) ?_); intro v4 b4 k4))
          exact ret_row2 structEl rfl rfl b4 rfl rfl ⟨rfl, (D.out.2.then0 H.out.k).then1 k4 D.out.1⟩
    | false =>
      refine Txt.wp_textG [0, 1, 4, 6] (RtM w3 q6 q9 W X0) [[_, _, _], [_], [_, _], [_]] (by kernel_rfl) (by kernel_rfl) rfl (H.out.kept (Kept.refl [] _).drew) (Txt.segs_cons ?_)
      have H := Lib.hid (H.out.kept (Kept.refl [] _).drew)
      go_wp2_with (first
        | (with_reducible refine wpl_load_row (o := ⟨some 29, _, _, _, _, _⟩) structEl rfl (.tmp 9) rfl rfl H.out.x rfl ?_)
        | (with_reducible refine wpl_load_row (o := ⟨some 30, _, _, _, _, _⟩) structEl rfl (.tmp 9) rfl rfl H.out.x rfl ?_)
        | (go_at_call 33; refine (cq.out _).mono ?_; rintro e da ⟨rfl, kk⟩; have H := Lib.hid (H.out.kept kk); clear kk))
      refine ⟨rfl, H.out, Txt.segs_cons ?_⟩
      go_wp2_with (go_at_call 39; (with_reducible refine (hs0.out _).mono ?_); rintro e db ⟨rfl, kk⟩; have H := Lib.hid (H.out.kept kk); clear kk)
      refine ⟨rfl, H.out, Txt.segs_cons ?_⟩
      go_wp2_with (first
        | (with_reducible refine wpl_load_row (o := ⟨some 33, _, _, _, _, _⟩) structEl rfl (.tmp 6) rfl rfl H.out.w rfl ?_)
        | (go_at_call 39; refine (hw0.out _).mono ?_; rintro e dc ⟨rfl, kk⟩; have H := Lib.hid (H.out.kept kk); clear kk))
      refine ⟨rfl, H.out, Txt.segs_cons ?_⟩
      go_wp2_with fail
      refine ⟨rfl, H.out, Txt.segs_nil ⟨⟨by kernel_rfl, ?_⟩, ?_⟩⟩
      · intro j hj o ho _
        have hj2 : j = 0 ∨ j = 1 ∨ j = 4 ∨ j = 6 := by simpa using hj
        rcases hj2 with rfl | rfl | rfl | rfl <;> cases ho
        · exact ⟨29, rfl, fun u hu => exec_load structEl (.tmp 9) rfl rfl hu.x rfl⟩
        · exact ⟨30, rfl, fun u hu => exec_load structEl (.tmp 9) rfl rfl hu.x rfl⟩
        · exact ⟨33, rfl, fun u hu => exec_load structEl (.tmp 6) rfl rfl hu.w rfl⟩
        · exact ⟨35, rfl, fun u _ => (exec_neq_ab arrB Try.underlying5 (by kernel_rfl) (by kernel_rfl) (.tmp 32) (.tmp 34) rfl (xs := le s0 32) (ys := le w0 32) rfl rfl (le_len _ _) (le_len _ _)).trans (by rw [qq0.out]; rfl)⟩
      go_wp2_with fail
      refine wp_last (by kernel_rfl) [el X0, el m1F, el XM] (RtM w3 q6 q9 W X0) (by kernel_rfl) rfl rfl (by kernel_rfl) (H.out.kept (Kept.refl [] _).drew) (fun u u' h hk => h.kept hk) ?_ ?_
      · refine ⟨?_, ?_, ?_, trivial⟩
        · exact fun a' u K0 R hS hr ho h => wp_loadr structEl (.tmp 9) rfl ((ho 9 (by decide)).trans rfl) hS.x rfl (h u (Kept.refl _ _))
        · refine fun a' u K0 R hS hr ho h => ?_
          exact wp_callf rfl enters_m1 (vs := #[]) (by simp) (c1.out u) h
        · refine fun a' u K0 R hS hr ho h => ?_
          refine wp_callf rfl enters_mul (vs := #[el X0, el m1F]) ?_ (cm1.out u) h
          have h0 := hr 0 (el X0) 36 _ rfl rfl rfl ⟨⟨0, .data⟩, by simp, rfl, rfl⟩
          have h1 := hr 1 (el m1F) 37 _ rfl rfl rfl ⟨⟨1, .data⟩, by simp, rfl, rfl⟩
          simp [Act.eval] at h0 h1 ⊢
          exact ⟨h0, h1⟩
      intro u7 hS7
      have H := Lib.hid (show RtM w3 q6 q9 W X1 (u7.setRow q9 (uv (fam 5 XM)).toArray) from (show X1 = XM from hxx.out) ▸ hS7.put N.out (hS7.x.setRow_ _) ((Kept.refl [q9] u7).setRow (.inl (by simp)) _))
      refine wp_storer structEl (.tmp 9) (.tmp 38) rfl rfl rfl hS7.x rfl rfl (one_el _) ?_
      simp [actOf, List.range, List.range.loop, Act.put]
      generalize u7.setRow q9 (uv (fam 5 XM)).toArray = u8 at *
      clear hS7
      go_wp2_with fail
      cases t1 with
      | false =>
        refine Txt.wp_textG [0, 1, 4, 6] (RtM w3 q6 q9 W X1) [[_, _, _], [_], [_, _], [_]] (by kernel_rfl) (by kernel_rfl) rfl (H.out.kept (Kept.refl [] _).drew) (Txt.segs_cons ?_)
        have H := Lib.hid (H.out.kept (Kept.refl [] _).drew)
        go_wp2_with (first
          | (with_reducible refine wpl_load_row (o := ⟨some 39, _, _, _, _, _⟩) structEl rfl (.tmp 9) rfl rfl H.out.x rfl ?_)
          | (with_reducible refine wpl_load_row (o := ⟨some 40, _, _, _, _, _⟩) structEl rfl (.tmp 9) rfl rfl H.out.x rfl ?_)
          | (go_at_call 33; refine (cq1.out _).mono ?_; rintro e fa ⟨rfl, kk⟩; have H := Lib.hid (H.out.kept kk); clear kk))
        refine ⟨rfl, H.out, Txt.segs_cons ?_⟩
        go_wp2_with (go_at_call 39; (with_reducible refine (hs1.out _).mono ?_); rintro e fb ⟨rfl, kk⟩; have H := Lib.hid (H.out.kept kk); clear kk)
        refine ⟨rfl, H.out, Txt.segs_cons ?_⟩
        go_wp2_with (first
          | (with_reducible refine wpl_load_row (o := ⟨some 43, _, _, _, _, _⟩) structEl rfl (.tmp 6) rfl rfl H.out.w rfl ?_)
          | (go_at_call 39; refine (hw0.out _).mono ?_; rintro e fc ⟨rfl, kk⟩; have H := Lib.hid (H.out.kept kk); clear kk))
        refine ⟨rfl, H.out, Txt.segs_cons ?_⟩
        go_wp2_with fail
        refine ⟨rfl, H.out, Txt.segs_nil ⟨⟨by kernel_rfl, ?_⟩, ?_⟩⟩
        · intro j hj o ho _
          have hj2 : j = 0 ∨ j = 1 ∨ j = 4 ∨ j = 6 := by simpa using hj
          rcases hj2 with rfl | rfl | rfl | rfl <;> cases ho
          · exact ⟨39, rfl, fun u hu => exec_load structEl (.tmp 9) rfl rfl hu.x rfl⟩
          · exact ⟨40, rfl, fun u hu => exec_load structEl (.tmp 9) rfl rfl hu.x rfl⟩
          · exact ⟨43, rfl, fun u hu => exec_load structEl (.tmp 6) rfl rfl hu.w rfl⟩
          · exact ⟨45, rfl, fun u _ => (exec_neq_ab arrB Try.underlying5 (by kernel_rfl) (by kernel_rfl) (.tmp 42) (.tmp 44) rfl (xs := le s1 32) (ys := le w0 32) rfl rfl (le_len _ _) (le_len _ _)).trans (by rw [qq1.out]; rfl)⟩
        go_wp2_with (first
          | (with_reducible refine wpl_build0 (o := ⟨some 46, _, _, _, _, _⟩) rfl rfl build_el ?_)
          | ((with_reducible refine wpl_store_row (o := ⟨none, .store 27 (.tmp 4) (.tmp 46), _, _, _, _⟩) structEl rfl (.tmp 4) (.tmp 46) rfl rfl rfl (B4.out.kept H.out.k (by simp)) rfl rfl (one_el _) ?_); intro v4 b4 k4))
        exact ret_row2 structEl rfl rfl b4 rfl rfl ⟨rfl, (D.out.2.then0 H.out.k).then1 k4 D.out.1⟩
      | true =>
        refine Txt.wp_textG [0, 1, 4, 6] (RtM w3 q6 q9 W X1) [[_, _, _], [_], [_, _], [_]] (by kernel_rfl) (by kernel_rfl) rfl (H.out.kept (Kept.refl [] _).drew) (Txt.segs_cons ?_)
        have H := Lib.hid (H.out.kept (Kept.refl [] _).drew)
        go_wp2_with (first
          | (with_reducible refine wpl_load_row (o := ⟨some 39, _, _, _, _, _⟩) structEl rfl (.tmp 9) rfl rfl H.out.x rfl ?_)
          | (with_reducible refine wpl_load_row (o := ⟨some 40, _, _, _, _, _⟩) structEl rfl (.tmp 9) rfl rfl H.out.x rfl ?_)
          | (go_at_call 33; refine (cq1.out _).mono ?_; rintro e fa ⟨rfl, kk⟩; have H := Lib.hid (H.out.kept kk); clear kk))
        refine ⟨rfl, H.out, Txt.segs_cons ?_⟩
        go_wp2_with (go_at_call 39; (with_reducible refine (hs1.out _).mono ?_); rintro e fb ⟨rfl, kk⟩; have H := Lib.hid (H.out.kept kk); clear kk)
        refine ⟨rfl, H.out, Txt.segs_cons ?_⟩
        go_wp2_with (first
          | (with_reducible refine wpl_load_row (o := ⟨some 43, _, _, _, _, _⟩) structEl rfl (.tmp 6) rfl rfl H.out.w rfl ?_)
          | (go_at_call 39; refine (hw0.out _).mono ?_; rintro e fc ⟨rfl, kk⟩; have H := Lib.hid (H.out.kept kk); clear kk))
        refine ⟨rfl, H.out, Txt.segs_cons ?_⟩
        go_wp2_with fail
        refine ⟨rfl, H.out, Txt.segs_nil ⟨⟨by kernel_rfl, ?_⟩, ?_⟩⟩
        · intro j hj o ho _
          have hj2 : j = 0 ∨ j = 1 ∨ j = 4 ∨ j = 6 := by simpa using hj
          rcases hj2 with rfl | rfl | rfl | rfl <;> cases ho
          · exact ⟨39, rfl, fun u hu => exec_load structEl (.tmp 9) rfl rfl hu.x rfl⟩
          · exact ⟨40, rfl, fun u hu => exec_load structEl (.tmp 9) rfl rfl hu.x rfl⟩
          · exact ⟨43, rfl, fun u hu => exec_load structEl (.tmp 6) rfl rfl hu.w rfl⟩
          · exact ⟨45, rfl, fun u _ => (exec_neq_ab arrB Try.underlying5 (by kernel_rfl) (by kernel_rfl) (.tmp 42) (.tmp 44) rfl (xs := le s1 32) (ys := le w0 32) rfl rfl (le_len _ _) (le_len _ _)).trans (by rw [qq1.out]; rfl)⟩
        cases od with
        | false =>
          go_wp2_with (first
            | (with_reducible refine wpl_load_row (o := ⟨some 47, _, _, _, _, _⟩) structEl rfl (.tmp 9) rfl rfl H.out.x rfl ?_)
            | (go_at_call 52; refine (cod.out _).mono ?_; rintro e fd ⟨rfl, kk⟩; have H := Lib.hid (H.out.kept kk); clear kk)
            | (with_reducible refine wpl_load_row (o := ⟨some 52, _, _, _, _, _⟩) structEl rfl (.tmp 9) rfl rfl H.out.x rfl ?_)
            | ((with_reducible refine wpl_store_row (o := ⟨none, .store 27 (.tmp 4) (.tmp 52), _, _, _, _⟩) structEl rfl (.tmp 4) (.tmp 52) rfl rfl rfl (B4.out.kept H.out.k (by simp)) rfl rfl (one_el _) ?_); intro v4 b4 k4))
          exact ret_row2 structEl rfl rfl b4 rfl rfl ⟨rfl, (D.out.2.then0 H.out.k).then1 k4 D.out.1⟩
        | true =>
          go_wp2_with (first
            | (with_reducible refine wpl_load_row (o := ⟨some 47, _, _, _, _, _⟩) structEl rfl (.tmp 9) rfl rfl H.out.x rfl ?_)
            | (go_at_call 52; refine (cod.out _).mono ?_; rintro e fd ⟨rfl, kk⟩; have H := Lib.hid (H.out.kept kk); clear kk)
            | (with_reducible refine wpl_build0 (o := ⟨some 49, _, _, _, _, _⟩) rfl rfl build_el ?_)
            | (with_reducible refine wpl_load_row (o := ⟨some 50, _, _, _, _, _⟩) structEl rfl (.tmp 9) rfl rfl H.out.x rfl ?_)
            | (go_at_call 36; refine (csu.out _).mono ?_; rintro e fe ⟨rfl, kk⟩; have H := Lib.hid (H.out.kept kk); clear kk)
            | ((with_reducible refine wpl_store_row (o := ⟨none, .store 27 (.tmp 9) (.tmp 51), _, _, _, _⟩) structEl rfl (.tmp 9) (.tmp 51) rfl rfl rfl H.out.x rfl rfl (one_el _) ?_); intro v9 b9 k9; have H := Lib.hid (H.out.put N.out b9 k9); clear b9 k9)
            | (with_reducible refine wpl_load_row (o := ⟨some 52, _, _, _, _, _⟩) structEl rfl (.tmp 9) rfl rfl H.out.x rfl ?_)
            | ((with_reducible refine wpl_store_row (o := ⟨none, .store 27 (.tmp 4) (.tmp 52), _, _, _, _⟩) structEl rfl (.tmp 4) (.tmp 52) rfl rfl rfl (B4.out.kept H.out.k (by simp)) rfl rfl (one_el _) ?_); intro v4 b4 k4))
          exact ret_row2 structEl rfl rfl b4 rfl rfl ⟨rfl, (D.out.2.then0 H.out.k).then1 k4 D.out.1⟩
end Go.Proofs.Ytkflljjcgihaoaa
