/-
  Field's laws: inverses (FieldInv).
-/
import Derived.Test.YthmpdhegodmjjaaRf11
namespace Go.Proofs.Ythmpdhegodmjjaa
open Go.RowKit Go.Mem Go.Txt

set_option maxRecDepth 100000 in
set_option maxHeartbeats 1600000 in
theorem inv_walk (a : List UInt8) (w : World) (ha : a.length = 32) :
    Calls Try.prog 5 #[ab a] w fun e w' => e = .returned (.bool true) ∧ Kept [] w w' := by
  obtain ⟨l0, hl0, z0, u0⟩ := lit_zero
  obtain ⟨l1, hl1, o1, u1⟩ := lit_one
  replace z0 := Lib.hid z0
  replace u0 := Lib.hid u0
  replace o1 := Lib.hid o1
  replace u1 := Lib.hid u1
  have iX := in_any a ha
  have rX := in_rep a
  have hD := dr_dgN (leV a % T255) (Nat.lt_trans (Nat.mod_lt _ (by decide +kernel)) (by decide +kernel))
  have cD := Lib.hid (load_any a ha)
  have cI := Lib.hid (rinv_any hD)
  have hI := dr_inv hD
  obtain ⟨y, hy0⟩ : ∃ y, y = (leV a % T255) ^ IE % PP := ⟨_, rfl⟩
  have cP := Lib.hid (dr_pk hI hy0.symm)
  have hy := Lib.hid (show invM (inV a) % PP = y from by rw [invM_eq, hy0]; exact mp (Nat.mod_mod _ _) _)
  generalize dgN (leV a % T255) = D at *
  generalize invN D = I at *
  generalize inF a = X, inV a = x at *
  have hl := Lib.hid (show (bv a).length = 32 by simp [ha])
  have chX := Lib.hid (hb_c rX)
  clear ha hD hI hy0
  replace iX := Lib.hid iX
  by_cases hx : x % PP = 0
  · have Q11 : (hb X == l0) = true := (z0.out _ _ rX).trans (decide_eq_true hx)
    have q11 := eql_run Q11 (hb_len _) hl0
    have cN := Lib.hid (inv_c rX)
    have cH := Lib.hid (hb_c rX.inv)
    have Q16 : (hb (invF X) == l0) = true := (z0.out _ _ rX.inv).trans (decide_eq_true (inv_zero hx))
    have q16 := eql_run Q16 (hb_len _) hl0
    clear rX hx Q11 Q16
    go_enter Try.func5, Try.ntmps5
    go_wp2_with (first
      | ((with_reducible refine wpl_box (o := ⟨some 1, _, _, _, _, _⟩) (v := ab a) rfl (.tmp 0) rfl rfl ?_); intro g1 w1 m1)
      | (go_at_call 11; refine (first_true _).mono ?_; rintro e w5 ⟨rfl, kk4⟩)
      | (refine wpl_load_arr (o := ⟨some 6, _, _, _, _, _⟩) arrB rfl (.tmp 1) rfl rfl (m1.blk.kept kk4 (by simp)) hl.out ?_)
      | (go_at_call 22; (with_reducible refine (iX.out _).mono ?_); rintro e w6 ⟨rfl, kk6⟩)
      | ((with_reducible refine wpl_new (o := ⟨some 3, _, _, _, _, _⟩) rfl rfl zeroEl ?_); intro g3 w3 m3)
      | ((with_reducible refine wpl_store_row (o := ⟨none, .store 27 (.tmp 3) (.tmp 7), _, _, _, _⟩) structEl rfl (.tmp 3) (.tmp 7) rfl rfl rfl m3.blk rfl rfl (one_el _) ?_); intro v3 b3 k3; have K3 := (m1.kept.then0 kk4).then0 kk6; have t := Lib.hid (show Mm w [(g1, a)] [(g3, X)] [] v3 from Mm.econs (Mm.bcons ⟨fun _ h => absurd h (by simp), fun _ h => absurd h (by simp), fun _ h => absurd h (by simp), (K3.then0 m3.kept).then1 k3 (Nat.le_trans K3.size m3.le)⟩ ((((m1.blk.kept kk4 (by simp)).kept kk6 (by simp)).kept m3.kept (by simp)).kept k3 (by simpa using m3.ne ((m1.blk.kept kk4 (by simp)).kept kk6 (by simp)).lt))) b3); clear m1 kk4 kk6 m3 b3 k3 K3)
      | (with_reducible refine wpl_load_row (o := ⟨some 8, _, _, _, _, _⟩) structEl rfl (.tmp 3) rfl rfl (t.out.e (g3, X) (by simp)) rfl ?_)
      | (go_at_call 14; (with_reducible refine (chX.out _).mono ?_); rintro e w7 ⟨rfl, kk⟩; have t := Lib.hid (t.out.kept kk); clear kk)
      | (with_reducible refine wpl_build0 (o := ⟨some 10, _, _, _, _, _⟩) rfl rfl u0.out ?_)
      | (with_reducible refine wpl_load_row (o := ⟨some 12, _, _, _, _, _⟩) structEl rfl (.tmp 3) rfl rfl (t.out.e (g3, X) (by simp)) rfl ?_)
      | (go_at_call 23; (with_reducible refine (cN.out _).mono ?_); rintro e w7 ⟨rfl, kk⟩; have t := Lib.hid (t.out.kept kk); clear kk)
      | (go_at_call 14; (with_reducible refine (cH.out _).mono ?_); rintro e w7 ⟨rfl, kk⟩; have t := Lib.hid (t.out.kept kk); clear kk)
      | (with_reducible refine wpl_build0 (o := ⟨some 15, _, _, _, _, _⟩) rfl rfl u0.out ?_))
    go_ret
    exact ⟨rfl, t.out.k⟩
  · have Q11 : (hb X == l0) = false := (z0.out _ _ rX).trans (decide_eq_false hx)
    have q11 := eql_run Q11 (hb_len _) hl0
    have k0 : InvC X (invF X) := inv_c rX
    replace k0 := Lib.hid k0
    have k1 : MlC X (invF X) (mlF X (invF X)) := ml_c rX (Rep.inv rX)
    replace k1 := Lib.hid k1
    have k2 : HbC (mlF X (invF X)) := hb_c (Rep.m rX (Rep.inv rX))
    replace k2 := Lib.hid k2
    have k3 : InvC (invF X) (invF (invF X)) := inv_c (Rep.inv rX)
    replace k3 := Lib.hid k3
    have k4 : HbC (invF (invF X)) := hb_c (Rep.inv (Rep.inv rX))
    replace k4 := Lib.hid k4
    have k5 : HbC X := hb_c rX
    replace k5 := Lib.hid k5
    have k6 : HbC (invF X) := hb_c (Rep.inv rX)
    replace k6 := Lib.hid k6
    have k7 : ∀ W, Calls Try.prog 25 #[ab a] W fun e w' => e = .returned (nu D) ∧ Kept [] W w' := cD.out
    replace k7 := Lib.hid k7
    have k8 : RiC D I := cI.out
    replace k8 := Lib.hid k8
    have k9 : PkC I y := cP.out
    replace k9 := Lib.hid k9
    have Q23 : ((hb (mlF X (invF X))) == l1) = true := o1.out _ _ (Rep.m rX (Rep.inv rX)) (inv_mul hx)
    have q23 := eql_run Q23 (hb_len _) hl1
    replace Q23 := Lib.hid Q23
    have Q31 : ((hb (invF (invF X))) == (hb X)) = true := hb_eq (Rep.inv (Rep.inv rX)) rX (inv_inv hx)
    have q31 := eql_run Q31 (hb_len _) (hb_len _)
    replace Q31 := Lib.hid Q31
    have Q41 : ((hb (invF X)) == (le y 32)) = true := hb_le_eq (Rep.inv rX) hy.out
    have q41 := eql_run Q41 (hb_len _) (le_len _ _)
    replace Q41 := Lib.hid Q41
    clear rX hx Q11
    go_enter Try.func5, Try.ntmps5
    go_wp2_with (first
      | ((with_reducible refine wpl_box (o := ⟨some 1, _, _, _, _, _⟩) (v := ab a) rfl (.tmp 0) rfl rfl ?_); intro g1 w1 m1)
      | (go_at_call 11; refine (first_true _).mono ?_; rintro e w5 ⟨rfl, kk4⟩)
      | (refine wpl_load_arr (o := ⟨some 6, _, _, _, _, _⟩) arrB rfl (.tmp 1) rfl rfl (m1.blk.kept kk4 (by simp)) hl.out ?_)
      | (go_at_call 22; (with_reducible refine (iX.out _).mono ?_); rintro e w6 ⟨rfl, kk6⟩)
      | ((with_reducible refine wpl_new (o := ⟨some 3, _, _, _, _, _⟩) rfl rfl zeroEl ?_); intro g3 w3 m3)
      | ((with_reducible refine wpl_store_row (o := ⟨none, .store 27 (.tmp 3) (.tmp 7), _, _, _, _⟩) structEl rfl (.tmp 3) (.tmp 7) rfl rfl rfl m3.blk rfl rfl (one_el _) ?_); intro v3 b3 k3; have K3 := (m1.kept.then0 kk4).then0 kk6; have t := Lib.hid (show Mm w [(g1, a)] [(g3, X)] [] v3 from Mm.econs (Mm.bcons ⟨fun _ h => absurd h (by simp), fun _ h => absurd h (by simp), fun _ h => absurd h (by simp), (K3.then0 m3.kept).then1 k3 (Nat.le_trans K3.size m3.le)⟩ ((((m1.blk.kept kk4 (by simp)).kept kk6 (by simp)).kept m3.kept (by simp)).kept k3 (by simpa using m3.ne ((m1.blk.kept kk4 (by simp)).kept kk6 (by simp)).lt))) b3); clear m1 kk4 kk6 m3 b3 k3 K3)
      | (with_reducible refine wpl_load_row (o := ⟨some 8, _, _, _, _, _⟩) structEl rfl (.tmp 3) rfl rfl (t.out.e (g3, X) (by simp)) rfl ?_)
      | (go_at_call 14; (with_reducible refine (chX.out _).mono ?_); rintro e w7 ⟨rfl, kk⟩; have t := Lib.hid (t.out.kept kk); clear kk)
      | (with_reducible refine wpl_build0 (o := ⟨some 10, _, _, _, _, _⟩) rfl rfl u0.out ?_))
    refine Txt.wp_textG [0, 1, 5, 6, 8, 12, 14, 17, 20, 24] (Mm w [(g1, a)] [(g3, X)] []) [[_, _, _], [_], [_], [_], [_, _, _, _], [_], [_], [_, _], [_, _, _, _, _], [_], [_, _], [_], [_], [_, _, _]] (by kernel_rfl) (by kernel_rfl) rfl t.out.drew (Txt.segs_cons ?_)
    replace t := Lib.hid t.out.drew
    go_wp2_with (first
      | (with_reducible refine wpl_load_row (o := ⟨some 17, _, _, _, _, _⟩) structEl rfl (.tmp 3) rfl rfl (t.out.e (g3, X) (by simp)) rfl ?_)
      | (with_reducible refine wpl_load_row (o := ⟨some 18, _, _, _, _, _⟩) structEl rfl (.tmp 3) rfl rfl (t.out.e (g3, X) (by simp)) rfl ?_)
      | (go_at_call 23; (with_reducible refine (k0.out _).mono ?_); rintro e v ⟨rfl, kk⟩; have t := Lib.hid (t.out.kept kk); clear kk))
    refine ⟨rfl, t.out, Txt.segs_cons ?_⟩
    go_wp2_with (first
      | (go_at_call 15; (with_reducible refine (k1.out _).mono ?_); rintro e v ⟨rfl, kk⟩; have t := Lib.hid (t.out.kept kk); clear kk))
    refine ⟨rfl, t.out, Txt.segs_cons ?_⟩
    go_wp2_with (first
      | (go_at_call 14; (with_reducible refine (k2.out _).mono ?_); rintro e v ⟨rfl, kk⟩; have t := Lib.hid (t.out.kept kk); clear kk))
    refine ⟨rfl, t.out, Txt.segs_cons ?_⟩
    go_wp2_with (first
      | (refine wpl_build1 (o := ⟨some 22, _, _, _, _, _⟩) rfl 0 (.const (.int .u8 1)) rfl rfl u1.out ?_))
    refine ⟨rfl, t.out, Txt.segs_cons ?_⟩
    go_wp2_with (first
      | (with_reducible refine wpl_load_row (o := ⟨some 25, _, _, _, _, _⟩) structEl rfl (.tmp 3) rfl rfl (t.out.e (g3, X) (by simp)) rfl ?_)
      | (go_at_call 23; (with_reducible refine (k0.out _).mono ?_); rintro e v ⟨rfl, kk⟩; have t := Lib.hid (t.out.kept kk); clear kk))
    refine ⟨rfl, t.out, Txt.segs_cons ?_⟩
    go_wp2_with (first
      | (go_at_call 23; (with_reducible refine (k3.out _).mono ?_); rintro e v ⟨rfl, kk⟩; have t := Lib.hid (t.out.kept kk); clear kk))
    refine ⟨rfl, t.out, Txt.segs_cons ?_⟩
    go_wp2_with (first
      | (go_at_call 14; (with_reducible refine (k4.out _).mono ?_); rintro e v ⟨rfl, kk⟩; have t := Lib.hid (t.out.kept kk); clear kk))
    refine ⟨rfl, t.out, Txt.segs_cons ?_⟩
    go_wp2_with (first
      | (with_reducible refine wpl_load_row (o := ⟨some 29, _, _, _, _, _⟩) structEl rfl (.tmp 3) rfl rfl (t.out.e (g3, X) (by simp)) rfl ?_)
      | (go_at_call 14; (with_reducible refine (k5.out _).mono ?_); rintro e v ⟨rfl, kk⟩; have t := Lib.hid (t.out.kept kk); clear kk))
    refine ⟨rfl, t.out, Txt.segs_cons ?_⟩
    go_wp2_with (first
      | (with_reducible refine wpl_load_row (o := ⟨some 34, _, _, _, _, _⟩) structEl rfl (.tmp 3) rfl rfl (t.out.e (g3, X) (by simp)) rfl ?_)
      | (go_at_call 23; (with_reducible refine (k0.out _).mono ?_); rintro e v ⟨rfl, kk⟩; have t := Lib.hid (t.out.kept kk); clear kk))
    refine ⟨rfl, t.out, Txt.segs_cons ?_⟩
    go_wp2_with (first
      | (go_at_call 14; (with_reducible refine (k6.out _).mono ?_); rintro e v ⟨rfl, kk⟩; have t := Lib.hid (t.out.kept kk); clear kk))
    refine ⟨rfl, t.out, Txt.segs_cons ?_⟩
    go_wp2_with (first
      | (refine wpl_load_arr (o := ⟨some 37, _, _, _, _, _⟩) arrB rfl (.tmp 1) rfl rfl (t.out.b (g1, a) (by simp)) hl.out ?_)
      | (go_at_call 25; (with_reducible refine (k7.out _).mono ?_); rintro e v ⟨rfl, kk⟩; have t := Lib.hid (t.out.kept kk); clear kk))
    refine ⟨rfl, t.out, Txt.segs_cons ?_⟩
    go_wp2_with (first
      | (go_at_call 24; (with_reducible refine (k8.out _).mono ?_); rintro e v ⟨rfl, kk⟩; have t := Lib.hid (t.out.kept kk); clear kk))
    refine ⟨rfl, t.out, Txt.segs_cons ?_⟩
    go_wp2_with (first
      | (go_at_call 20; (with_reducible refine (k9.out _).mono ?_); rintro e v ⟨rfl, kk⟩; have t := Lib.hid (t.out.kept kk); clear kk))
    refine ⟨rfl, t.out, Txt.segs_cons ?_⟩
    go_wp2_with fail
    refine ⟨rfl, t.out, Txt.segs_nil ⟨⟨by kernel_rfl, ?_⟩, ?_⟩⟩
    · intro j hj o ho hw
      have hj2 : j = 0 ∨ j = 1 ∨ j = 5 ∨ j = 6 ∨ j = 8 ∨ j = 12 ∨ j = 14 ∨ j = 17 ∨ j = 20 ∨ j = 24 := by simpa using hj
      rcases hj2 with rfl | rfl | rfl | rfl | rfl | rfl | rfl | rfl | rfl | rfl <;> cases ho
      · exact ⟨17, rfl, fun u hu => exec_load structEl (.tmp 3) rfl rfl (hu.e (g3, X) (by simp)) rfl⟩
      · exact ⟨18, rfl, fun u hu => exec_load structEl (.tmp 3) rfl rfl (hu.e (g3, X) (by simp)) rfl⟩
      · exact ⟨22, rfl, fun u _ => exec_build1 0 (.const (.int .u8 1)) rfl rfl u1.out⟩
      · exact ⟨23, rfl, fun u _ => exec_eqb (.tmp 21) (.tmp 22) rfl rfl rfl Q23.out (hb_len _) hl1⟩
      · exact ⟨25, rfl, fun u hu => exec_load structEl (.tmp 3) rfl rfl (hu.e (g3, X) (by simp)) rfl⟩
      · exact ⟨29, rfl, fun u hu => exec_load structEl (.tmp 3) rfl rfl (hu.e (g3, X) (by simp)) rfl⟩
      · exact ⟨31, rfl, fun u _ => exec_eqb (.tmp 28) (.tmp 30) rfl rfl rfl Q31.out (hb_len _) (hb_len _)⟩
      · exact ⟨34, rfl, fun u hu => exec_load structEl (.tmp 3) rfl rfl (hu.e (g3, X) (by simp)) rfl⟩
      · exact ⟨37, rfl, fun u hu => exec_load arrB.row (.tmp 1) rfl rfl (hu.b (g1, a) (by simp)) hl.out⟩
      · exact ⟨41, rfl, fun u _ => exec_eqb (.tmp 36) (.tmp 40) rfl rfl rfl Q41.out (hb_len _) (le_len _ _)⟩
    go_wp2_with fail
    go_ret
    exact ⟨rfl, t.out.k⟩
end Go.Proofs.Ythmpdhegodmjjaa
