/-
  Field: squares: the walk.
-/
import Derived.Test.YthmpdhegodmjjaaFe10
namespace Go.Proofs.Ythmpdhegodmjjaa
open Go.RowKit Go.Mem

set_option maxRecDepth 100000 in
set_option maxHeartbeats 4000000 in
theorem fsquare_any (F : Nat → Nat) (w : World) (hF : Lim F) :
    Calls Try.prog 39 #[el F] w fun e w' => e = .returned (el (carL (gaL (mulT F F)))) ∧ Kept [] w w' := by
  have hgat := fun W => gathered_any (mulT F F) W (mulT_fit hF hF)
  obtain ⟨R, hR⟩ : ∃ R, R = carL (gaL (mulT F F)) := ⟨_, rfl⟩
  rw [← hR] at hgat ⊢
  clear hR
  obtain ⟨a0, ha0⟩ : ∃ x, x = F 0 := ⟨_, rfl⟩
  have ka0 := hF 0 (by omega)
  rw [← ha0] at ka0
  obtain ⟨a1, ha1⟩ : ∃ x, x = F 1 := ⟨_, rfl⟩
  have ka1 := hF 1 (by omega)
  rw [← ha1] at ka1
  obtain ⟨a2, ha2⟩ : ∃ x, x = F 2 := ⟨_, rfl⟩
  have ka2 := hF 2 (by omega)
  rw [← ha2] at ka2
  obtain ⟨a3, ha3⟩ : ∃ x, x = F 3 := ⟨_, rfl⟩
  have ka3 := hF 3 (by omega)
  rw [← ha3] at ka3
  obtain ⟨a4, ha4⟩ : ∃ x, x = F 4 := ⟨_, rfl⟩
  have ka4 := hF 4 (by omega)
  rw [← ha4] at ka4
  obtain ⟨d0, hd0⟩ : ∃ x, x = 2 * a0 := ⟨_, rfl⟩
  obtain ⟨d1, hd1⟩ : ∃ x, x = 2 * a1 := ⟨_, rfl⟩
  obtain ⟨d2, hd2⟩ : ∃ x, x = 2 * a2 := ⟨_, rfl⟩
  obtain ⟨f3, hf3⟩ : ∃ x, x = 19 * a3 := ⟨_, rfl⟩
  obtain ⟨f4, hf4⟩ : ∃ x, x = 19 * a4 := ⟨_, rfl⟩
  obtain ⟨e3, he3⟩ : ∃ x, x = 2 * a3 := ⟨_, rfl⟩
  obtain ⟨s00, s01, T0, c00, c01, c02, hT0⟩ := chain3 (a0 := a0) (b0 := a0) (a1 := d1) (b1 := f4) (a2 := d2) (b2 := f3) ⟨by omega, by omega⟩ ⟨by omega, by omega⟩ ⟨by omega, by omega⟩
  obtain ⟨s10, s11, T1, c10, c11, c12, hT1⟩ := chain3 (a0 := d0) (b0 := a1) (a1 := d2) (b1 := f4) (a2 := a3) (b2 := f3) ⟨by omega, by omega⟩ ⟨by omega, by omega⟩ ⟨by omega, by omega⟩
  obtain ⟨s20, s21, T2, c20, c21, c22, hT2⟩ := chain3 (a0 := d0) (b0 := a2) (a1 := a1) (b1 := a1) (a2 := e3) (b2 := f4) ⟨by omega, by omega⟩ ⟨by omega, by omega⟩ ⟨by omega, by omega⟩
  obtain ⟨s30, s31, T3, c30, c31, c32, hT3⟩ := chain3 (a0 := d0) (b0 := a3) (a1 := d1) (b1 := a2) (a2 := a4) (b2 := f4) ⟨by omega, by omega⟩ ⟨by omega, by omega⟩ ⟨by omega, by omega⟩
  obtain ⟨s40, s41, T4, c40, c41, c42, hT4⟩ := chain3 (a0 := d0) (b0 := a4) (a1 := d1) (b1 := a3) (a2 := a2) (b2 := a2) ⟨by omega, by omega⟩ ⟨by omega, by omega⟩ ⟨by omega, by omega⟩
  have e0 : mulT F F 0 = T0 := by
    rw [hT0]
    simp only [hd1, hd2, hf3, hf4, ha0, ha1, ha2, ha3, ha4]
    unfold mulT
    simp only [reduceIte, reduceCtorEq]
    generalize F 0 = a0, F 1 = a1, F 2 = a2, F 3 = a3, F 4 = a4
    grind
  have e1 : mulT F F 1 = T1 := by
    rw [hT1]
    simp only [hd0, hd2, hf3, hf4, ha0, ha1, ha2, ha3, ha4]
    unfold mulT
    simp only [reduceIte, Nat.reduceEqDiff, reduceCtorEq]
    generalize F 0 = a0, F 1 = a1, F 2 = a2, F 3 = a3, F 4 = a4
    grind
  have e2 : mulT F F 2 = T2 := by
    rw [hT2]
    simp only [hd0, hf4, he3, ha0, ha1, ha2, ha3, ha4]
    unfold mulT
    simp only [reduceIte, Nat.reduceEqDiff, reduceCtorEq]
    generalize F 0 = a0, F 1 = a1, F 2 = a2, F 3 = a3, F 4 = a4
    grind
  have e3 : mulT F F 3 = T3 := by
    rw [hT3]
    simp only [hd0, hd1, hf4, ha0, ha1, ha2, ha3, ha4]
    unfold mulT
    simp only [reduceIte, Nat.reduceEqDiff, reduceCtorEq]
    generalize F 0 = a0, F 1 = a1, F 2 = a2, F 3 = a3, F 4 = a4
    grind
  have e4 : mulT F F 4 = T4 := by
    rw [hT4]
    simp only [hd0, hd1, ha0, ha1, ha2, ha3, ha4]
    unfold mulT
    simp only [reduceIte, Nat.reduceEqDiff, reduceCtorEq]
    generalize F 0 = a0, F 1 = a1, F 2 = a2, F 3 = a3, F 4 = a4
    grind
  rw [e0, e1, e2, e3, e4] at hgat
  have hg := Lib.hid (show GaC T0 T1 T2 T3 T4 R from fun W => by rw [← pr_flat, ← pr_flat, ← pr_flat, ← pr_flat, ← pr_flat]; exact hgat W)
  clear hgat e0 e1 e2 e3 e4 hT0 hT1 hT2 hT3 hT4
  replace c00 := Lib.hid c00
  replace c01 := Lib.hid c01
  replace c02 := Lib.hid c02
  replace c10 := Lib.hid c10
  replace c11 := Lib.hid c11
  replace c12 := Lib.hid c12
  replace c20 := Lib.hid c20
  replace c21 := Lib.hid c21
  replace c22 := Lib.hid c22
  replace c30 := Lib.hid c30
  replace c31 := Lib.hid c31
  replace c32 := Lib.hid c32
  replace c40 := Lib.hid c40
  replace c41 := Lib.hid c41
  replace c42 := Lib.hid c42
  have md0 : (2 : Int) * ((a0 : Nat) : Int) = ((d0 : Nat) : Int) := by rw [hd0]; omega
  have md1 : (2 : Int) * ((a1 : Nat) : Int) = ((d1 : Nat) : Int) := by rw [hd1]; omega
  have md2 : (2 : Int) * ((a2 : Nat) : Int) = ((d2 : Nat) : Int) := by rw [hd2]; omega
  have mf3 : (19 : Int) * ((a3 : Nat) : Int) = ((f3 : Nat) : Int) := by rw [hf3]; omega
  have mf4 : (19 : Int) * ((a4 : Nat) : Int) = ((f4 : Nat) : Int) := by rw [hf4]; omega
  have me3 : (2 : Int) * ((a3 : Nat) : Int) = ((e3 : Nat) : Int) := by rw [he3]; omega
  have kk : True := trivial
  clear hd0 hd1 hd2 hf3 hf4 he3
  have Va0 := Lib.hid ha0
  have Va1 := Lib.hid ha1
  have Va2 := Lib.hid ha2
  have Va3 := Lib.hid ha3
  have Va4 := Lib.hid ha4
  clear ha0 ha1 ha2 ha3 ha4
  clear hF
  go_enter Try.func39, Try.ntmps39
  go_wp2_with (first
    | ((with_reducible refine wpl_box (o := ⟨some 1, _, _, _, _, _⟩) (v := el F) rfl (.tmp 0) rfl rfl ?_); intro g1 w1 m1)
    | ((with_reducible refine wpl_new (o := ⟨some 2, _, _, _, _, _⟩) rfl rfl zeroEl ?_); intro g3 w3 m3))
  have A := Lib.hid (m1.blk.kept m3.kept (by simp))
  have H := Lib.hid (show Sums w g3 [] w3 from ⟨m3.blk, fun p hp => absurd hp (by simp), m1.kept.then0 m3.kept, Nat.le_trans m1.kept.size m3.le⟩)
  clear m1 m3
  have pa0 := Blk.eget A.out 0 (by omega)
  rw [← Va0.out] at pa0
  have pa1 := Blk.eget A.out 1 (by omega)
  rw [← Va1.out] at pa1
  have pa2 := Blk.eget A.out 2 (by omega)
  rw [← Va2.out] at pa2
  have pa3 := Blk.eget A.out 3 (by omega)
  rw [← Va3.out] at pa3
  have pa4 := Blk.eget A.out 4 (by omega)
  rw [← Va4.out] at pa4
  clear A
  clear Va0 Va1 Va2 Va3 Va4
  refine Txt.wp_text (by kernel_rfl) (by kernel_rfl) ?_
  go_wp2_with fail
  refine ⟨rfl, by kernel_rfl, ?_⟩
  have H := Lib.hid (H.out.kept ((Kept.refl [] w3).drew))
  clear pa0 pa1 pa2 pa3 pa4
  go_wp2_with (first
    | (go_at_call 32; (with_reducible refine (c00.out _).mono ?_); rintro e u00 ⟨rfl, kk⟩; have H := Lib.hid (H.out.kept kk); clear kk)
    | (go_at_call 33; (with_reducible refine (c01.out _).mono ?_); rintro e u01 ⟨rfl, kk⟩; have H := Lib.hid (H.out.kept kk); clear kk)
    | (go_at_call 33; (with_reducible refine (c02.out _).mono ?_); rintro e u02 ⟨rfl, kk⟩; have H := Lib.hid (H.out.kept kk); clear kk)
    | ((with_reducible refine wpl_new (o := ⟨some 13, _, _, _, _, _⟩) rfl rfl zeroPr ?_); intro q0 x0 m0)
    | ((with_reducible refine wpl_store_row (o := ⟨none, .store 55 (.tmp 13) (.tmp 51), _, _, _, _⟩) structPr rfl (.tmp 13) (.tmp 51) rfl rfl rfl m0.blk rfl rfl (one_uva _) ?_); intro y0 b0 k0; have H := Lib.hid (H.out.put m0 b0 k0); clear m0 b0 k0))
  go_wp2_with (first
    | (go_at_call 32; (with_reducible refine (c10.out _).mono ?_); rintro e u10 ⟨rfl, kk⟩; have H := Lib.hid (H.out.kept kk); clear kk)
    | (go_at_call 33; (with_reducible refine (c11.out _).mono ?_); rintro e u11 ⟨rfl, kk⟩; have H := Lib.hid (H.out.kept kk); clear kk)
    | (go_at_call 33; (with_reducible refine (c12.out _).mono ?_); rintro e u12 ⟨rfl, kk⟩; have H := Lib.hid (H.out.kept kk); clear kk)
    | ((with_reducible refine wpl_new (o := ⟨some 14, _, _, _, _, _⟩) rfl rfl zeroPr ?_); intro q1 x1 m1)
    | ((with_reducible refine wpl_store_row (o := ⟨none, .store 55 (.tmp 14) (.tmp 60), _, _, _, _⟩) structPr rfl (.tmp 14) (.tmp 60) rfl rfl rfl m1.blk rfl rfl (one_uva _) ?_); intro y1 b1 k1; have H := Lib.hid (H.out.put m1 b1 k1); clear m1 b1 k1))
  go_wp2_with (first
    | (go_at_call 32; (with_reducible refine (c20.out _).mono ?_); rintro e u20 ⟨rfl, kk⟩; have H := Lib.hid (H.out.kept kk); clear kk)
    | (go_at_call 33; (with_reducible refine (c21.out _).mono ?_); rintro e u21 ⟨rfl, kk⟩; have H := Lib.hid (H.out.kept kk); clear kk)
    | (go_at_call 33; (with_reducible refine (c22.out _).mono ?_); rintro e u22 ⟨rfl, kk⟩; have H := Lib.hid (H.out.kept kk); clear kk)
    | ((with_reducible refine wpl_new (o := ⟨some 15, _, _, _, _, _⟩) rfl rfl zeroPr ?_); intro q2 x2 m2)
    | ((with_reducible refine wpl_store_row (o := ⟨none, .store 55 (.tmp 15) (.tmp 70), _, _, _, _⟩) structPr rfl (.tmp 15) (.tmp 70) rfl rfl rfl m2.blk rfl rfl (one_uva _) ?_); intro y2 b2 k2; have H := Lib.hid (H.out.put m2 b2 k2); clear m2 b2 k2))
  go_wp2_with (first
    | (go_at_call 32; (with_reducible refine (c30.out _).mono ?_); rintro e u30 ⟨rfl, kk⟩; have H := Lib.hid (H.out.kept kk); clear kk)
    | (go_at_call 33; (with_reducible refine (c31.out _).mono ?_); rintro e u31 ⟨rfl, kk⟩; have H := Lib.hid (H.out.kept kk); clear kk)
    | (go_at_call 33; (with_reducible refine (c32.out _).mono ?_); rintro e u32 ⟨rfl, kk⟩; have H := Lib.hid (H.out.kept kk); clear kk)
    | ((with_reducible refine wpl_new (o := ⟨some 16, _, _, _, _, _⟩) rfl rfl zeroPr ?_); intro q3 x3 m3)
    | ((with_reducible refine wpl_store_row (o := ⟨none, .store 55 (.tmp 16) (.tmp 79), _, _, _, _⟩) structPr rfl (.tmp 16) (.tmp 79) rfl rfl rfl m3.blk rfl rfl (one_uva _) ?_); intro y3 b3 k3; have H := Lib.hid (H.out.put m3 b3 k3); clear m3 b3 k3))
  go_wp2_with (first
    | (go_at_call 32; (with_reducible refine (c40.out _).mono ?_); rintro e u40 ⟨rfl, kk⟩; have H := Lib.hid (H.out.kept kk); clear kk)
    | (go_at_call 33; (with_reducible refine (c41.out _).mono ?_); rintro e u41 ⟨rfl, kk⟩; have H := Lib.hid (H.out.kept kk); clear kk)
    | (go_at_call 33; (with_reducible refine (c42.out _).mono ?_); rintro e u42 ⟨rfl, kk⟩; have H := Lib.hid (H.out.kept kk); clear kk)
    | ((with_reducible refine wpl_new (o := ⟨some 17, _, _, _, _, _⟩) rfl rfl zeroPr ?_); intro q4 x4 m4)
    | ((with_reducible refine wpl_store_row (o := ⟨none, .store 55 (.tmp 17) (.tmp 88), _, _, _, _⟩) structPr rfl (.tmp 17) (.tmp 88) rfl rfl rfl m4.blk rfl rfl (one_uva _) ?_); intro y4 b4 k4; have H := Lib.hid (H.out.put m4 b4 k4); clear m4 b4 k4)
    | (with_reducible refine wpl_load_row (o := ⟨some 89, _, _, _, _, _⟩) structPr rfl (.tmp 13) rfl rfl H.out.tl.tl.tl.tl.at0 rfl ?_)
    | (with_reducible refine wpl_load_row (o := ⟨some 90, _, _, _, _, _⟩) structPr rfl (.tmp 14) rfl rfl H.out.tl.tl.tl.at0 rfl ?_)
    | (with_reducible refine wpl_load_row (o := ⟨some 91, _, _, _, _, _⟩) structPr rfl (.tmp 15) rfl rfl H.out.tl.tl.at0 rfl ?_)
    | (with_reducible refine wpl_load_row (o := ⟨some 92, _, _, _, _, _⟩) structPr rfl (.tmp 16) rfl rfl H.out.tl.at0 rfl ?_)
    | (with_reducible refine wpl_load_row (o := ⟨some 93, _, _, _, _, _⟩) structPr rfl (.tmp 17) rfl rfl H.out.at0 rfl ?_)
    | (go_at_call 34; (with_reducible refine (hg.out _).mono ?_); rintro e w6 ⟨rfl, k6⟩; have H := Lib.hid (H.out.kept k6); clear k6)
    | ((with_reducible refine wpl_store_row (o := ⟨none, .store 27 (.tmp 2) (.tmp 94), _, _, _, _⟩) structEl rfl (.tmp 2) (.tmp 94) rfl rfl rfl H.out.r rfl rfl (one_el _) ?_); intro w8 b8 k8))
  exact ret_row structEl rfl rfl b8 rfl rfl ⟨rfl, H.out.k.then1 k8 H.out.le⟩
end Go.Proofs.Ythmpdhegodmjjaa
