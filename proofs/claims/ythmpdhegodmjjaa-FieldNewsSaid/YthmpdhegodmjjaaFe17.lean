/-
  Field: inverses: the walk.
-/
import Derived.Test.YthmpdhegodmjjaaFe16
namespace Go.Proofs.Ythmpdhegodmjjaa
open Go.RowKit Go.Mem Go.Txt

set_option maxRecDepth 100000 in
set_option maxHeartbeats 1600000 in
theorem inv_any (F : Nat → Nat) (hF : Lim F) (w : World) :
    Calls Try.prog 23 #[el F] w fun e w' => e = .returned (el (invF F)) ∧ Kept [] w w' := by
  have co := fun W => ones_any F hF W
  have c5 : SnC 5 (o_nn F) (sqn 5 (o_nn F)) := sqn_any 5 _ (o_nn_lim hF) (by decide)
  have cm : MlC (sqn 5 (o_nn F)) (o_elev F) (invF F) := mlF_any _ _ (sqn_lim (o_nn_lim hF) 5) (o_elev_lim hF)
  generalize o_nn F = nn, o_elev F = ee, invF F = rr at *
  generalize sqn 5 nn = n5 at *
  replace co := Lib.hid co
  replace c5 := Lib.hid c5
  replace cm := Lib.hid cm
  clear hF
  go_enter Try.func23, Try.ntmps23
  go_wp2_with (first
    | ((with_reducible refine wpl_box (o := ⟨some 1, _, _, _, _, _⟩) (v := el F) rfl (.tmp 0) rfl rfl ?_); intro g1 w1 m1)
    | ((with_reducible refine wpl_new (o := ⟨some 2, _, _, _, _, _⟩) rfl rfl zeroEl ?_); intro g2 w2 m2; have H := Lib.hid (Els.none w2); have D := Lib.hid (And.intro (Nat.le_trans m1.kept.size m2.le) (And.intro m1.le (And.intro (m2.ne m1.blk.lt) (m1.kept.then0 m2.kept)))); have B1 := Lib.hid (m1.blk.kept m2.kept (by simp)); have B2 := Lib.hid m2.blk; clear m1 m2)
    | (with_reducible refine wpl_load_row (o := ⟨some 6, _, _, _, _, _⟩) structEl rfl (.tmp 1) rfl rfl (B1.out.kept H.out.k (by simp)) rfl ?_)
    | (go_at_call 36; refine (co.out _).mono ?_; rintro e u1 ⟨rfl, kk⟩; have H := Lib.hid (H.out.kept kk); clear kk)
    | ((with_reducible refine wpl_new (o := ⟨some 3, _, _, _, _, _⟩) rfl rfl zeroEl ?_); intro q3 x3 m3; have H := Lib.hid (H.out.put m3 m3.blk (Kept.refl _ _)); clear m3)
    | ((with_reducible refine wpl_new (o := ⟨some 4, _, _, _, _, _⟩) rfl rfl zeroEl ?_); intro q4 x4 m4; have N := Lib.hid (m4.ne (H.out.s (q3, nought) (by simp)).lt); have H := Lib.hid (H.out.put m4 m4.blk (Kept.refl _ _)); clear m4)
    | ((with_reducible refine wpl_store_row (o := ⟨none, .store 27 (.tmp 3) (.tmp 8), _, _, _, _⟩) structEl rfl (.tmp 3) (.tmp 8) rfl rfl rfl (H.out.s (q3, nought) (by simp)) rfl rfl (one_el _) ?_); intro v3 b3 k3; have B4 := Lib.hid ((H.out.s (q4, nought) (by simp)).kept k3 (by simpa using Ne.symm N.out)))
    | ((with_reducible refine wpl_store_row (o := ⟨none, .store 27 (.tmp 4) (.tmp 9), _, _, _, _⟩) structEl rfl (.tmp 4) (.tmp 9) rfl rfl rfl B4.out rfl rfl (one_el _) ?_); intro v4 b4 k4))
  have f3 := H.out.f (q3, nought) (by simp)
  have f4 := H.out.f (q4, nought) (by simp)
  have E := Lib.hid (show Els w2 [(q4, ee), (q3, nn)] v4 from
    ((show Els w2 [] v4 from ⟨fun _ h => absurd h (by simp), fun _ h => absurd h (by simp), (H.out.k.then1 k3 f3).then1 k4 f4⟩).cons (b3.kept k4 (by simpa using N.out)) f3).cons b4 f4)
  clear b3 k3 b4 k4 H f3 f4
  have H := Lib.hid (E.out.fin B2.out B1.out (Ne.symm D.out.2.2.1))
  refine Txt.wp_textG [0, 2] (Fin w2 g2 g1 [(q4, ee), (q3, nn)]) [[_, _], [_, _], [_], []] (by kernel_rfl) (by kernel_rfl) rfl (H.out.kept (Kept.refl [] _).drew) (Txt.segs_cons ?_)
  have H := Lib.hid (H.out.kept (Kept.refl [] v4).drew)
  go_wp2_with (first
    | (with_reducible refine wpl_load_row (o := ⟨some 10, _, _, _, _, _⟩) structEl rfl (.tmp 3) rfl rfl (H.out.s (q3, nn) (by simp)) rfl ?_)
    | (go_at_call 37; refine (c5.out _).mono ?_; rintro e u5 ⟨rfl, kk⟩; have H := Lib.hid (H.out.kept kk); clear kk))
  refine ⟨rfl, H.out, Txt.segs_cons ?_⟩
  go_wp2_with (first
    | (with_reducible refine wpl_load_row (o := ⟨some 12, _, _, _, _, _⟩) structEl rfl (.tmp 4) rfl rfl (H.out.s (q4, ee) (by simp)) rfl ?_)
    | (go_at_call 15; refine (cm.out _).mono ?_; rintro e u6 ⟨rfl, kk⟩; have H := Lib.hid (H.out.kept kk); clear kk))
  refine ⟨rfl, H.out, Txt.segs_cons ?_⟩
  go_wp2_with (obtain ⟨f2, hf2⟩ := H.out.b2; (with_reducible refine wpl_store_row (o := ⟨none, .store 27 (.tmp 2) (.tmp 13), _, _, _, _⟩) structEl rfl (.tmp 2) (.tmp 13) rfl rfl rfl hf2 rfl rfl (one_el _) ?_); clear hf2; intro v2 b2 k2; have H := Lib.hid (H.out.put2 b2 k2); have C2 := Lib.hid b2; clear b2 k2)
  refine ⟨rfl, H.out, Txt.segs_cons ?_⟩
  go_wp2_with fail
  refine ⟨rfl, H.out, Txt.segs_nil ⟨⟨by kernel_rfl, ?_⟩, ?_⟩⟩
  · intro j hj o ho _
    have hj2 : j = 0 ∨ j = 2 := by simpa using hj
    rcases hj2 with rfl | rfl <;> cases ho
    · exact ⟨10, rfl, fun u hu => exec_load structEl (.tmp 3) rfl rfl (hu.s (q3, nn) (by simp)) rfl⟩
    · exact ⟨12, rfl, fun u hu => exec_load structEl (.tmp 4) rfl rfl (hu.s (q4, ee) (by simp)) rfl⟩
  go_wp2_with fail
  exact ret_row structEl rfl rfl C2.out rfl rfl ⟨rfl, (D.out.2.2.2).fresh H.out.k (fun x hx => by simp at hx; rcases hx with rfl | rfl; exact D.out.1; exact D.out.2.1)⟩
end Go.Proofs.Ythmpdhegodmjjaa
