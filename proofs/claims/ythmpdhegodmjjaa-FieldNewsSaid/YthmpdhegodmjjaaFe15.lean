/-
  Field: the powers 2^250 - 1 and 11: the walk.
-/
import Derived.Test.YthmpdhegodmjjaaFe14
namespace Go.Proofs.Ythmpdhegodmjjaa
open Go.RowKit Go.Mem Go.Txt

def o_two (F : Nat → Nat) : Nat → Nat := sqF F
def o_qa (F : Nat → Nat) : Nat → Nat := sqn 2 (o_two F)
def o_nine (F : Nat → Nat) : Nat → Nat := mlF (o_qa F) F
def o_elev (F : Nat → Nat) : Nat → Nat := mlF (o_nine F) (o_two F)
def o_qb (F : Nat → Nat) : Nat → Nat := sqF (o_elev F)
def o_n5 (F : Nat → Nat) : Nat → Nat := mlF (o_qb F) (o_nine F)
def o_qc (F : Nat → Nat) : Nat → Nat := sqn 5 (o_n5 F)
def o_n10 (F : Nat → Nat) : Nat → Nat := mlF (o_qc F) (o_n5 F)
def o_qd (F : Nat → Nat) : Nat → Nat := sqn 10 (o_n10 F)
def o_n20 (F : Nat → Nat) : Nat → Nat := mlF (o_qd F) (o_n10 F)
def o_qe (F : Nat → Nat) : Nat → Nat := sqn 20 (o_n20 F)
def o_qf (F : Nat → Nat) : Nat → Nat := mlF (o_qe F) (o_n20 F)
def o_qg (F : Nat → Nat) : Nat → Nat := sqn 10 (o_qf F)
def o_n50 (F : Nat → Nat) : Nat → Nat := mlF (o_qg F) (o_n10 F)
def o_qh (F : Nat → Nat) : Nat → Nat := sqn 50 (o_n50 F)
def o_n100 (F : Nat → Nat) : Nat → Nat := mlF (o_qh F) (o_n50 F)
def o_qi (F : Nat → Nat) : Nat → Nat := sqn 100 (o_n100 F)
def o_qj (F : Nat → Nat) : Nat → Nat := mlF (o_qi F) (o_n100 F)
def o_qk (F : Nat → Nat) : Nat → Nat := sqn 50 (o_qj F)
def o_nn (F : Nat → Nat) : Nat → Nat := mlF (o_qk F) (o_n50 F)
theorem o_two_lim {F : Nat → Nat} (h : Lim F) : Lim (o_two F) := sqF_lim h
theorem o_qa_lim {F : Nat → Nat} (h : Lim F) : Lim (o_qa F) := sqn_lim (o_two_lim h) 2
theorem o_nine_lim {F : Nat → Nat} (h : Lim F) : Lim (o_nine F) := mlF_lim (o_qa_lim h) h
theorem o_elev_lim {F : Nat → Nat} (h : Lim F) : Lim (o_elev F) := mlF_lim (o_nine_lim h) (o_two_lim h)
theorem o_qb_lim {F : Nat → Nat} (h : Lim F) : Lim (o_qb F) := sqF_lim (o_elev_lim h)
theorem o_n5_lim {F : Nat → Nat} (h : Lim F) : Lim (o_n5 F) := mlF_lim (o_qb_lim h) (o_nine_lim h)
theorem o_qc_lim {F : Nat → Nat} (h : Lim F) : Lim (o_qc F) := sqn_lim (o_n5_lim h) 5
theorem o_n10_lim {F : Nat → Nat} (h : Lim F) : Lim (o_n10 F) := mlF_lim (o_qc_lim h) (o_n5_lim h)
theorem o_qd_lim {F : Nat → Nat} (h : Lim F) : Lim (o_qd F) := sqn_lim (o_n10_lim h) 10
theorem o_n20_lim {F : Nat → Nat} (h : Lim F) : Lim (o_n20 F) := mlF_lim (o_qd_lim h) (o_n10_lim h)
theorem o_qe_lim {F : Nat → Nat} (h : Lim F) : Lim (o_qe F) := sqn_lim (o_n20_lim h) 20
theorem o_qf_lim {F : Nat → Nat} (h : Lim F) : Lim (o_qf F) := mlF_lim (o_qe_lim h) (o_n20_lim h)
theorem o_qg_lim {F : Nat → Nat} (h : Lim F) : Lim (o_qg F) := sqn_lim (o_qf_lim h) 10
theorem o_n50_lim {F : Nat → Nat} (h : Lim F) : Lim (o_n50 F) := mlF_lim (o_qg_lim h) (o_n10_lim h)
theorem o_qh_lim {F : Nat → Nat} (h : Lim F) : Lim (o_qh F) := sqn_lim (o_n50_lim h) 50
theorem o_n100_lim {F : Nat → Nat} (h : Lim F) : Lim (o_n100 F) := mlF_lim (o_qh_lim h) (o_n50_lim h)
theorem o_qi_lim {F : Nat → Nat} (h : Lim F) : Lim (o_qi F) := sqn_lim (o_n100_lim h) 100
theorem o_qj_lim {F : Nat → Nat} (h : Lim F) : Lim (o_qj F) := mlF_lim (o_qi_lim h) (o_n100_lim h)
theorem o_qk_lim {F : Nat → Nat} (h : Lim F) : Lim (o_qk F) := sqn_lim (o_qj_lim h) 50
theorem o_nn_lim {F : Nat → Nat} (h : Lim F) : Lim (o_nn F) := mlF_lim (o_qk_lim h) (o_n50_lim h)
set_option maxRecDepth 100000 in
set_option maxHeartbeats 4000000 in
theorem ones_any (F : Nat → Nat) (hF : Lim F) (w : World) :
    Calls Try.prog 36 #[el F] w fun e w' => e = .returned (.tuple #[el (o_nn F), el (o_elev F)]) ∧ Kept [] w w' := by
  have c_two : SqC F (o_two F) := sqF_any _ hF
  have c_qa : SnC 2 (o_two F) (o_qa F) := sqn_any 2 _ (o_two_lim hF) (by decide)
  have c_nine : MlC (o_qa F) F (o_nine F) := mlF_any _ _ (o_qa_lim hF) hF
  have c_elev : MlC (o_nine F) (o_two F) (o_elev F) := mlF_any _ _ (o_nine_lim hF) (o_two_lim hF)
  have c_qb : SqC (o_elev F) (o_qb F) := sqF_any _ (o_elev_lim hF)
  have c_n5 : MlC (o_qb F) (o_nine F) (o_n5 F) := mlF_any _ _ (o_qb_lim hF) (o_nine_lim hF)
  have c_qc : SnC 5 (o_n5 F) (o_qc F) := sqn_any 5 _ (o_n5_lim hF) (by decide)
  have c_n10 : MlC (o_qc F) (o_n5 F) (o_n10 F) := mlF_any _ _ (o_qc_lim hF) (o_n5_lim hF)
  have c_qd : SnC 10 (o_n10 F) (o_qd F) := sqn_any 10 _ (o_n10_lim hF) (by decide)
  have c_n20 : MlC (o_qd F) (o_n10 F) (o_n20 F) := mlF_any _ _ (o_qd_lim hF) (o_n10_lim hF)
  have c_qe : SnC 20 (o_n20 F) (o_qe F) := sqn_any 20 _ (o_n20_lim hF) (by decide)
  have c_qf : MlC (o_qe F) (o_n20 F) (o_qf F) := mlF_any _ _ (o_qe_lim hF) (o_n20_lim hF)
  have c_qg : SnC 10 (o_qf F) (o_qg F) := sqn_any 10 _ (o_qf_lim hF) (by decide)
  have c_n50 : MlC (o_qg F) (o_n10 F) (o_n50 F) := mlF_any _ _ (o_qg_lim hF) (o_n10_lim hF)
  have c_qh : SnC 50 (o_n50 F) (o_qh F) := sqn_any 50 _ (o_n50_lim hF) (by decide)
  have c_n100 : MlC (o_qh F) (o_n50 F) (o_n100 F) := mlF_any _ _ (o_qh_lim hF) (o_n50_lim hF)
  have c_qi : SnC 100 (o_n100 F) (o_qi F) := sqn_any 100 _ (o_n100_lim hF) (by decide)
  have c_qj : MlC (o_qi F) (o_n100 F) (o_qj F) := mlF_any _ _ (o_qi_lim hF) (o_n100_lim hF)
  have c_qk : SnC 50 (o_qj F) (o_qk F) := sqn_any 50 _ (o_qj_lim hF) (by decide)
  have c_nn : MlC (o_qk F) (o_n50 F) (o_nn F) := mlF_any _ _ (o_qk_lim hF) (o_n50_lim hF)
  generalize o_two F = two, o_qa F = qa, o_nine F = nine, o_elev F = elev, o_qb F = qb, o_n5 F = n5, o_qc F = qc, o_n10 F = n10, o_qd F = qd, o_n20 F = n20, o_qe F = qe, o_qf F = qf, o_qg F = qg, o_n50 F = n50, o_qh F = qh, o_n100 F = n100, o_qi F = qi, o_qj F = qj, o_qk F = qk, o_nn F = nn at *
  replace c_two := Lib.hid c_two
  replace c_qa := Lib.hid c_qa
  replace c_nine := Lib.hid c_nine
  replace c_elev := Lib.hid c_elev
  replace c_qb := Lib.hid c_qb
  replace c_n5 := Lib.hid c_n5
  replace c_qc := Lib.hid c_qc
  replace c_n10 := Lib.hid c_n10
  replace c_qd := Lib.hid c_qd
  replace c_n20 := Lib.hid c_n20
  replace c_qe := Lib.hid c_qe
  replace c_qf := Lib.hid c_qf
  replace c_qg := Lib.hid c_qg
  replace c_n50 := Lib.hid c_n50
  replace c_qh := Lib.hid c_qh
  replace c_n100 := Lib.hid c_n100
  replace c_qi := Lib.hid c_qi
  replace c_qj := Lib.hid c_qj
  replace c_qk := Lib.hid c_qk
  replace c_nn := Lib.hid c_nn
  clear hF
  go_enter Try.func36, Try.ntmps36
  go_wp2_with (first
    | ((with_reducible refine wpl_box (o := ⟨some 1, _, _, _, _, _⟩) (v := el F) rfl (.tmp 0) rfl rfl ?_); intro g1 w1 m1)
    | ((with_reducible refine wpl_new (o := ⟨some 2, _, _, _, _, _⟩) rfl rfl zeroEl ?_); intro g2 w2 m2)
    | ((with_reducible refine wpl_new (o := ⟨some 3, _, _, _, _, _⟩) rfl rfl zeroEl ?_); intro g3 w3 m3; have H := Lib.hid (Els.none w3); have D := Lib.hid (And.intro (Nat.le_trans m1.kept.size m2.le) (And.intro (Nat.le_trans (m1.kept.then0 m2.kept).size m3.le) (And.intro (m3.ne m2.blk.lt) ((m1.kept.then0 m2.kept).then0 m3.kept)))); have B1 := Lib.hid ((m1.blk.kept m2.kept (by simp)).kept m3.kept (by simp)); have B2 := Lib.hid (m2.blk.kept m3.kept (by simp)); have B3 := Lib.hid m3.blk; clear m1 m2 m3)
    | (with_reducible refine wpl_load_row (o := ⟨some 12, _, _, _, _, _⟩) structEl rfl (.tmp 1) rfl rfl (B1.out.kept H.out.k (by simp)) rfl ?_)
    | (go_at_call 39; (with_reducible refine (c_two.out _).mono ?_); rintro e u1 ⟨rfl, kk⟩; have H := Lib.hid (H.out.kept kk); clear kk)
    | ((with_reducible refine wpl_new (o := ⟨some 4, _, _, _, _, _⟩) rfl rfl zeroEl ?_); intro q4 x4 m4)
    | ((with_reducible refine wpl_store_row (o := ⟨none, .store 27 (.tmp 4) (.tmp 13), _, _, _, _⟩) structEl rfl (.tmp 4) (.tmp 13) rfl rfl rfl m4.blk rfl rfl (one_el _) ?_); intro v4 b4 k4; have H := Lib.hid (H.out.put m4 b4 k4); clear m4 b4 k4))
  refine wp_multi (by kernel_rfl) [.val (el two), .val (el qa), .val (el F), .val (el nine), .new 27 (el nought), .put 4 3 (uv (fam 5 nine)).toArray] (Els w3 [(q4, two)]) (by kernel_rfl) (by kernel_rfl) H.out.drew (H.out.fresh) ?_ ?_
  · refine ⟨?_, ?_, ?_, ?_, ?_, ?_, trivial⟩
    · exact ⟨⟨_, rfl⟩, fun a' u K0 R hS hr ho h => wp_loadr structEl (.tmp 4) rfl ((ho 4 (by decide)).trans rfl) (hS.s (q4, two) (by simp)) rfl (h u (Kept.refl _ _))⟩
    · refine ⟨⟨_, rfl⟩, fun a' u K0 R hS hr ho h => ?_⟩
      refine wp_callf rfl enters_squared (vs := #[el two, .int .i64 (2 : Nat)]) ?_ (c_qa.out u) h
      have h0 := hr 0 (el two) 14 _ rfl rfl rfl ⟨⟨0, .data⟩, by simp, rfl, rfl⟩
      simp [Act.eval] at h0 ⊢
      exact h0
    · exact ⟨⟨_, rfl⟩, fun a' u K0 R hS hr ho h => wp_loadr structEl (.tmp 1) rfl ((ho 1 (by decide)).trans rfl) (B1.out.kept hS.k (by simp)) rfl (h u (Kept.refl _ _))⟩
    · refine ⟨⟨_, rfl⟩, fun a' u K0 R hS hr ho h => ?_⟩
      refine wp_callf rfl enters_mul (vs := #[el qa, el F]) ?_ (c_nine.out u) h
      have h0 := hr 1 (el qa) 15 _ rfl rfl rfl ⟨⟨1, .data⟩, by simp, rfl, rfl⟩
      have h1 := hr 2 (el F) 16 _ rfl rfl rfl ⟨⟨2, .data⟩, by simp, rfl, rfl⟩
      simp [Act.eval] at h0 h1 ⊢
      exact ⟨h0, h1⟩
    · exact ⟨⟨_, rfl⟩, rfl, zeroEl⟩
    · exact ⟨rfl, ⟨⟨4, .data⟩, by simp, rfl, rfl⟩, ⟨⟨3, .data⟩, by simp, rfl, rfl⟩, _, _, _, _, _, _, _, _, rfl, rfl, rfl, rfl, rfl, rfl, rfl, structEl, rfl, rfl, one_el _⟩
  intro γ r2 hS hγ hne hput
  have hl := Nat.le_trans H.out.k.size (hγ 4 _ _ rfl)
  have b := hput 5 4 3 _ _ _ rfl rfl
  generalize e7 : γ 4 = q5 at *
  simp [actOf, VK, List.range, List.range.loop, Act.put, e7]
  have H := Lib.hid (hS.cons b hl)
  clear b hl hput hne hγ hS e7
  go_wp2_with (first
    | (with_reducible refine wpl_load_row (o := ⟨some 18, _, _, _, _, _⟩) structEl rfl (.tmp 5) rfl rfl (H.out.s (q5, nine) (by simp)) rfl ?_)
    | (with_reducible refine wpl_load_row (o := ⟨some 19, _, _, _, _, _⟩) structEl rfl (.tmp 4) rfl rfl (H.out.s (q4, two) (by simp)) rfl ?_)
    | (go_at_call 15; refine (c_elev.out _).mono ?_; rintro e u2 ⟨rfl, kk⟩; have H := Lib.hid (H.out.kept kk); clear kk)
    | ((with_reducible refine wpl_new (o := ⟨some 6, _, _, _, _, _⟩) rfl rfl zeroEl ?_); intro q6 x6 m6)
    | ((with_reducible refine wpl_store_row (o := ⟨none, .store 27 (.tmp 6) (.tmp 20), _, _, _, _⟩) structEl rfl (.tmp 6) (.tmp 20) rfl rfl rfl m6.blk rfl rfl (one_el _) ?_); intro v6 b6 k6; have H := Lib.hid (H.out.put m6 b6 k6); clear m6 b6 k6))
  refine wp_multi (by kernel_rfl) [.val (el elev), .val (el qb), .val (el nine), .val (el n5), .new 27 (el nought), .put 4 3 (uv (fam 5 n5)).toArray] (Els w3 [(q6, elev), (q5, nine), (q4, two)]) (by kernel_rfl) (by kernel_rfl) H.out.drew (H.out.fresh) ?_ ?_
  · refine ⟨?_, ?_, ?_, ?_, ?_, ?_, trivial⟩
    · exact ⟨⟨_, rfl⟩, fun a' u K0 R hS hr ho h => wp_loadr structEl (.tmp 6) rfl ((ho 6 (by decide)).trans rfl) (hS.s (q6, elev) (by simp)) rfl (h u (Kept.refl _ _))⟩
    · refine ⟨⟨_, rfl⟩, fun a' u K0 R hS hr ho h => ?_⟩
      refine wp_callf rfl enters_square (vs := #[el elev]) ?_ (c_qb.out u) h
      have h0 := hr 0 (el elev) 21 _ rfl rfl rfl ⟨⟨0, .data⟩, by simp, rfl, rfl⟩
      simp [Act.eval] at h0 ⊢
      exact h0
    · exact ⟨⟨_, rfl⟩, fun a' u K0 R hS hr ho h => wp_loadr structEl (.tmp 5) rfl ((ho 5 (by decide)).trans rfl) (hS.s (q5, nine) (by simp)) rfl (h u (Kept.refl _ _))⟩
    · refine ⟨⟨_, rfl⟩, fun a' u K0 R hS hr ho h => ?_⟩
      refine wp_callf rfl enters_mul (vs := #[el qb, el nine]) ?_ (c_n5.out u) h
      have h0 := hr 1 (el qb) 22 _ rfl rfl rfl ⟨⟨1, .data⟩, by simp, rfl, rfl⟩
      have h1 := hr 2 (el nine) 23 _ rfl rfl rfl ⟨⟨2, .data⟩, by simp, rfl, rfl⟩
      simp [Act.eval] at h0 h1 ⊢
      exact ⟨h0, h1⟩
    · exact ⟨⟨_, rfl⟩, rfl, zeroEl⟩
    · exact ⟨rfl, ⟨⟨4, .data⟩, by simp, rfl, rfl⟩, ⟨⟨3, .data⟩, by simp, rfl, rfl⟩, _, _, _, _, _, _, _, _, rfl, rfl, rfl, rfl, rfl, rfl, rfl, structEl, rfl, rfl, one_el _⟩
  intro γ r4 hS hγ hne hput
  have hl := Nat.le_trans H.out.k.size (hγ 4 _ _ rfl)
  have b := hput 5 4 3 _ _ _ rfl rfl
  generalize e7 : γ 4 = q7 at *
  simp [actOf, VK, List.range, List.range.loop, Act.put, e7]
  have H := Lib.hid (hS.cons b hl)
  clear b hl hput hne hγ hS e7
  go_wp2_with fail
  refine wp_multi (by kernel_rfl) [.val (el n5), .val (el qc), .val (el n5), .val (el n10), .new 27 (el nought), .put 4 3 (uv (fam 5 n10)).toArray] (Els w3 [(q7, n5), (q6, elev), (q5, nine), (q4, two)]) (by kernel_rfl) (by kernel_rfl) H.out.drew (H.out.fresh) ?_ ?_
  · refine ⟨?_, ?_, ?_, ?_, ?_, ?_, trivial⟩
    · exact ⟨⟨_, rfl⟩, fun a' u K0 R hS hr ho h => wp_loadr structEl (.tmp 7) rfl ((ho 7 (by decide)).trans rfl) (hS.s (q7, n5) (by simp)) rfl (h u (Kept.refl _ _))⟩
    · refine ⟨⟨_, rfl⟩, fun a' u K0 R hS hr ho h => ?_⟩
      refine wp_callf rfl enters_squared (vs := #[el n5, .int .i64 (5 : Nat)]) ?_ (c_qc.out u) h
      have h0 := hr 0 (el n5) 25 _ rfl rfl rfl ⟨⟨0, .data⟩, by simp, rfl, rfl⟩
      simp [Act.eval] at h0 ⊢
      exact h0
    · exact ⟨⟨_, rfl⟩, fun a' u K0 R hS hr ho h => wp_loadr structEl (.tmp 7) rfl ((ho 7 (by decide)).trans rfl) (hS.s (q7, n5) (by simp)) rfl (h u (Kept.refl _ _))⟩
    · refine ⟨⟨_, rfl⟩, fun a' u K0 R hS hr ho h => ?_⟩
      refine wp_callf rfl enters_mul (vs := #[el qc, el n5]) ?_ (c_n10.out u) h
      have h0 := hr 1 (el qc) 26 _ rfl rfl rfl ⟨⟨1, .data⟩, by simp, rfl, rfl⟩
      have h1 := hr 2 (el n5) 27 _ rfl rfl rfl ⟨⟨2, .data⟩, by simp, rfl, rfl⟩
      simp [Act.eval] at h0 h1 ⊢
      exact ⟨h0, h1⟩
    · exact ⟨⟨_, rfl⟩, rfl, zeroEl⟩
    · exact ⟨rfl, ⟨⟨4, .data⟩, by simp, rfl, rfl⟩, ⟨⟨3, .data⟩, by simp, rfl, rfl⟩, _, _, _, _, _, _, _, _, rfl, rfl, rfl, rfl, rfl, rfl, rfl, structEl, rfl, rfl, one_el _⟩
  intro γ r5 hS hγ hne hput
  have hl := Nat.le_trans H.out.k.size (hγ 4 _ _ rfl)
  have b := hput 5 4 3 _ _ _ rfl rfl
  generalize e7 : γ 4 = q8 at *
  simp [actOf, VK, List.range, List.range.loop, Act.put, e7]
  have H := Lib.hid (hS.cons b hl)
  clear b hl hput hne hγ hS e7
  go_wp2_with fail
  refine wp_multi (by kernel_rfl) [.val (el n10), .val (el qd), .val (el n10), .val (el n20), .new 27 (el nought), .put 4 3 (uv (fam 5 n20)).toArray] (Els w3 [(q8, n10), (q7, n5), (q6, elev), (q5, nine), (q4, two)]) (by kernel_rfl) (by kernel_rfl) H.out.drew (H.out.fresh) ?_ ?_
  · refine ⟨?_, ?_, ?_, ?_, ?_, ?_, trivial⟩
    · exact ⟨⟨_, rfl⟩, fun a' u K0 R hS hr ho h => wp_loadr structEl (.tmp 8) rfl ((ho 8 (by decide)).trans rfl) (hS.s (q8, n10) (by simp)) rfl (h u (Kept.refl _ _))⟩
    · refine ⟨⟨_, rfl⟩, fun a' u K0 R hS hr ho h => ?_⟩
      refine wp_callf rfl enters_squared (vs := #[el n10, .int .i64 (10 : Nat)]) ?_ (c_qd.out u) h
      have h0 := hr 0 (el n10) 29 _ rfl rfl rfl ⟨⟨0, .data⟩, by simp, rfl, rfl⟩
      simp [Act.eval] at h0 ⊢
      exact h0
    · exact ⟨⟨_, rfl⟩, fun a' u K0 R hS hr ho h => wp_loadr structEl (.tmp 8) rfl ((ho 8 (by decide)).trans rfl) (hS.s (q8, n10) (by simp)) rfl (h u (Kept.refl _ _))⟩
    · refine ⟨⟨_, rfl⟩, fun a' u K0 R hS hr ho h => ?_⟩
      refine wp_callf rfl enters_mul (vs := #[el qd, el n10]) ?_ (c_n20.out u) h
      have h0 := hr 1 (el qd) 30 _ rfl rfl rfl ⟨⟨1, .data⟩, by simp, rfl, rfl⟩
      have h1 := hr 2 (el n10) 31 _ rfl rfl rfl ⟨⟨2, .data⟩, by simp, rfl, rfl⟩
      simp [Act.eval] at h0 h1 ⊢
      exact ⟨h0, h1⟩
    · exact ⟨⟨_, rfl⟩, rfl, zeroEl⟩
    · exact ⟨rfl, ⟨⟨4, .data⟩, by simp, rfl, rfl⟩, ⟨⟨3, .data⟩, by simp, rfl, rfl⟩, _, _, _, _, _, _, _, _, rfl, rfl, rfl, rfl, rfl, rfl, rfl, structEl, rfl, rfl, one_el _⟩
  intro γ r6 hS hγ hne hput
  have hl := Nat.le_trans H.out.k.size (hγ 4 _ _ rfl)
  have b := hput 5 4 3 _ _ _ rfl rfl
  generalize e7 : γ 4 = q9 at *
  simp [actOf, VK, List.range, List.range.loop, Act.put, e7]
  have H := Lib.hid (hS.cons b hl)
  clear b hl hput hne hγ hS e7
  go_wp2_with fail
  refine wp_multi (by kernel_rfl) [.val (el n20), .val (el qe), .val (el n20), .val (el qf), .val (el qg), .val (el n10), .val (el n50), .new 27 (el nought), .put 7 6 (uv (fam 5 n50)).toArray] (Els w3 [(q9, n20), (q8, n10), (q7, n5), (q6, elev), (q5, nine), (q4, two)]) (by kernel_rfl) (by kernel_rfl) H.out.drew (H.out.fresh) ?_ ?_
  · refine ⟨?_, ?_, ?_, ?_, ?_, ?_, ?_, ?_, ?_, trivial⟩
    · exact ⟨⟨_, rfl⟩, fun a' u K0 R hS hr ho h => wp_loadr structEl (.tmp 9) rfl ((ho 9 (by decide)).trans rfl) (hS.s (q9, n20) (by simp)) rfl (h u (Kept.refl _ _))⟩
    · refine ⟨⟨_, rfl⟩, fun a' u K0 R hS hr ho h => ?_⟩
      refine wp_callf rfl enters_squared (vs := #[el n20, .int .i64 (20 : Nat)]) ?_ (c_qe.out u) h
      have h0 := hr 0 (el n20) 33 _ rfl rfl rfl ⟨⟨0, .data⟩, by simp, rfl, rfl⟩
      simp [Act.eval] at h0 ⊢
      exact h0
    · exact ⟨⟨_, rfl⟩, fun a' u K0 R hS hr ho h => wp_loadr structEl (.tmp 9) rfl ((ho 9 (by decide)).trans rfl) (hS.s (q9, n20) (by simp)) rfl (h u (Kept.refl _ _))⟩
    · refine ⟨⟨_, rfl⟩, fun a' u K0 R hS hr ho h => ?_⟩
      refine wp_callf rfl enters_mul (vs := #[el qe, el n20]) ?_ (c_qf.out u) h
      have h0 := hr 1 (el qe) 34 _ rfl rfl rfl ⟨⟨1, .data⟩, by simp, rfl, rfl⟩
      have h1 := hr 2 (el n20) 35 _ rfl rfl rfl ⟨⟨2, .data⟩, by simp, rfl, rfl⟩
      simp [Act.eval] at h0 h1 ⊢
      exact ⟨h0, h1⟩
    · refine ⟨⟨_, rfl⟩, fun a' u K0 R hS hr ho h => ?_⟩
      refine wp_callf rfl enters_squared (vs := #[el qf, .int .i64 (10 : Nat)]) ?_ (c_qg.out u) h
      have h0 := hr 3 (el qf) 36 _ rfl rfl rfl ⟨⟨3, .data⟩, by simp, rfl, rfl⟩
      simp [Act.eval] at h0 ⊢
      exact h0
    · exact ⟨⟨_, rfl⟩, fun a' u K0 R hS hr ho h => wp_loadr structEl (.tmp 8) rfl ((ho 8 (by decide)).trans rfl) (hS.s (q8, n10) (by simp)) rfl (h u (Kept.refl _ _))⟩
    · refine ⟨⟨_, rfl⟩, fun a' u K0 R hS hr ho h => ?_⟩
      refine wp_callf rfl enters_mul (vs := #[el qg, el n10]) ?_ (c_n50.out u) h
      have h0 := hr 4 (el qg) 37 _ rfl rfl rfl ⟨⟨4, .data⟩, by simp, rfl, rfl⟩
      have h1 := hr 5 (el n10) 38 _ rfl rfl rfl ⟨⟨5, .data⟩, by simp, rfl, rfl⟩
      simp [Act.eval] at h0 h1 ⊢
      exact ⟨h0, h1⟩
    · exact ⟨⟨_, rfl⟩, rfl, zeroEl⟩
    · exact ⟨rfl, ⟨⟨7, .data⟩, by simp, rfl, rfl⟩, ⟨⟨6, .data⟩, by simp, rfl, rfl⟩, _, _, _, _, _, _, _, _, rfl, rfl, rfl, rfl, rfl, rfl, rfl, structEl, rfl, rfl, one_el _⟩
  intro γ r7 hS hγ hne hput
  have hl := Nat.le_trans H.out.k.size (hγ 7 _ _ rfl)
  have b := hput 8 7 6 _ _ _ rfl rfl
  generalize e7 : γ 7 = q10 at *
  simp [actOf, VK, List.range, List.range.loop, Act.put, e7]
  have H := Lib.hid (hS.cons b hl)
  clear b hl hput hne hγ hS e7
  go_wp2_with fail
  refine wp_multi (by kernel_rfl) [.val (el n50), .val (el qh), .val (el n50), .val (el n100), .new 27 (el nought), .put 4 3 (uv (fam 5 n100)).toArray] (Els w3 [(q10, n50), (q9, n20), (q8, n10), (q7, n5), (q6, elev), (q5, nine), (q4, two)]) (by kernel_rfl) (by kernel_rfl) H.out.drew (H.out.fresh) ?_ ?_
  · refine ⟨?_, ?_, ?_, ?_, ?_, ?_, trivial⟩
    · exact ⟨⟨_, rfl⟩, fun a' u K0 R hS hr ho h => wp_loadr structEl (.tmp 10) rfl ((ho 10 (by decide)).trans rfl) (hS.s (q10, n50) (by simp)) rfl (h u (Kept.refl _ _))⟩
    · refine ⟨⟨_, rfl⟩, fun a' u K0 R hS hr ho h => ?_⟩
      refine wp_callf rfl enters_squared (vs := #[el n50, .int .i64 (50 : Nat)]) ?_ (c_qh.out u) h
      have h0 := hr 0 (el n50) 40 _ rfl rfl rfl ⟨⟨0, .data⟩, by simp, rfl, rfl⟩
      simp [Act.eval] at h0 ⊢
      exact h0
    · exact ⟨⟨_, rfl⟩, fun a' u K0 R hS hr ho h => wp_loadr structEl (.tmp 10) rfl ((ho 10 (by decide)).trans rfl) (hS.s (q10, n50) (by simp)) rfl (h u (Kept.refl _ _))⟩
    · refine ⟨⟨_, rfl⟩, fun a' u K0 R hS hr ho h => ?_⟩
      refine wp_callf rfl enters_mul (vs := #[el qh, el n50]) ?_ (c_n100.out u) h
      have h0 := hr 1 (el qh) 41 _ rfl rfl rfl ⟨⟨1, .data⟩, by simp, rfl, rfl⟩
      have h1 := hr 2 (el n50) 42 _ rfl rfl rfl ⟨⟨2, .data⟩, by simp, rfl, rfl⟩
      simp [Act.eval] at h0 h1 ⊢
      exact ⟨h0, h1⟩
    · exact ⟨⟨_, rfl⟩, rfl, zeroEl⟩
    · exact ⟨rfl, ⟨⟨4, .data⟩, by simp, rfl, rfl⟩, ⟨⟨3, .data⟩, by simp, rfl, rfl⟩, _, _, _, _, _, _, _, _, rfl, rfl, rfl, rfl, rfl, rfl, rfl, structEl, rfl, rfl, one_el _⟩
  intro γ r8 hS hγ hne hput
  have hl := Nat.le_trans H.out.k.size (hγ 4 _ _ rfl)
  have b := hput 5 4 3 _ _ _ rfl rfl
  generalize e7 : γ 4 = q11 at *
  simp [actOf, VK, List.range, List.range.loop, Act.put, e7]
  have H := Lib.hid (hS.cons b hl)
  clear b hl hput hne hγ hS e7
  go_wp2_with fail
  have H := Lib.hid (H.out.fin B2.out B3.out D.out.2.2.1)
  refine Txt.wp_textG [0, 2, 5, 7] (Fin w3 g2 g3 [(q11, n100), (q10, n50), (q9, n20), (q8, n10), (q7, n5), (q6, elev), (q5, nine), (q4, two)]) [[_, _], [_, _], [_], [_, _], [_, _], [_], []] (by kernel_rfl) (by kernel_rfl) rfl (H.out.kept (Kept.refl [] _).drew) (Txt.segs_cons ?_)
  have H := Lib.hid (H.out.kept (Kept.refl [] r8).drew)
  obtain ⟨f2, hf2⟩ := H.out.b2
  obtain ⟨f3, hf3⟩ := H.out.b3
  clear hf2 hf3
  go_wp2_with (first
    | (with_reducible refine wpl_load_row (o := ⟨some 44, _, _, _, _, _⟩) structEl rfl (.tmp 11) rfl rfl (H.out.s (q11, n100) (by simp)) rfl ?_)
    | (go_at_call 37; refine (c_qi.out _).mono ?_; rintro e u_qi ⟨rfl, kk⟩; have H := Lib.hid (H.out.kept kk); clear kk))
  refine ⟨rfl, H.out, Txt.segs_cons ?_⟩
  go_wp2_with (first
    | (with_reducible refine wpl_load_row (o := ⟨some 46, _, _, _, _, _⟩) structEl rfl (.tmp 11) rfl rfl (H.out.s (q11, n100) (by simp)) rfl ?_)
    | (go_at_call 15; refine (c_qj.out _).mono ?_; rintro e u_qj ⟨rfl, kk⟩; have H := Lib.hid (H.out.kept kk); clear kk))
  refine ⟨rfl, H.out, Txt.segs_cons ?_⟩
  go_wp2_with (first
    | (go_at_call 37; refine (c_qk.out _).mono ?_; rintro e u_qk ⟨rfl, kk⟩; have H := Lib.hid (H.out.kept kk); clear kk))
  refine ⟨rfl, H.out, Txt.segs_cons ?_⟩
  go_wp2_with (first
    | (with_reducible refine wpl_load_row (o := ⟨some 49, _, _, _, _, _⟩) structEl rfl (.tmp 10) rfl rfl (H.out.s (q10, n50) (by simp)) rfl ?_)
    | (go_at_call 15; refine (c_nn.out _).mono ?_; rintro e u_nn ⟨rfl, kk⟩; have H := Lib.hid (H.out.kept kk); clear kk))
  refine ⟨rfl, H.out, Txt.segs_cons ?_⟩
  go_wp2_with (first
    | (with_reducible refine wpl_load_row (o := ⟨some 51, _, _, _, _, _⟩) structEl rfl (.tmp 6) rfl rfl (H.out.s (q6, elev) (by simp)) rfl ?_)
    | (obtain ⟨f2, hf2⟩ := H.out.b2; (with_reducible refine wpl_store_row (o := ⟨none, .store 27 (.tmp 2) (.tmp 50), _, _, _, _⟩) structEl rfl (.tmp 2) (.tmp 50) rfl rfl rfl hf2 rfl rfl (one_el _) ?_); clear hf2; intro v2 b2 k2; have H := Lib.hid (H.out.put2 b2 k2); have C2 := Lib.hid b2; clear b2 k2))
  refine ⟨rfl, H.out, Txt.segs_cons ?_⟩
  go_wp2_with (first
    | (obtain ⟨f3, hf3⟩ := H.out.b3; (with_reducible refine wpl_store_row (o := ⟨none, .store 27 (.tmp 3) (.tmp 51), _, _, _, _⟩) structEl rfl (.tmp 3) (.tmp 51) rfl rfl rfl hf3 rfl rfl (one_el _) ?_); clear hf3; intro v3 b3 k3; have C2 := Lib.hid (C2.out.kept k3 (by simpa using D.out.2.2.1)); have H := Lib.hid (H.out.put3 b3 k3); have C3 := Lib.hid b3; clear b3 k3))
  refine ⟨rfl, H.out, Txt.segs_cons ?_⟩
  go_wp2_with fail
  refine ⟨rfl, H.out, Txt.segs_nil ⟨⟨by kernel_rfl, ?_⟩, ?_⟩⟩
  · intro j hj o ho _
    have hj2 : j = 0 ∨ j = 2 ∨ j = 5 ∨ j = 7 := by simpa using hj
    rcases hj2 with rfl | rfl | rfl | rfl <;> cases ho
    · exact ⟨44, rfl, fun u hu => exec_load structEl (.tmp 11) rfl rfl (hu.s (q11, n100) (by simp)) rfl⟩
    · exact ⟨46, rfl, fun u hu => exec_load structEl (.tmp 11) rfl rfl (hu.s (q11, n100) (by simp)) rfl⟩
    · exact ⟨49, rfl, fun u hu => exec_load structEl (.tmp 10) rfl rfl (hu.s (q10, n50) (by simp)) rfl⟩
    · exact ⟨51, rfl, fun u hu => exec_load structEl (.tmp 6) rfl rfl (hu.s (q6, elev) (by simp)) rfl⟩
  go_wp2_with fail
  exact ret_rows structEl rfl rfl rfl C2.out rfl C3.out rfl rfl ⟨rfl, (D.out.2.2.2).fresh H.out.k (fun x hx => by simp at hx; rcases hx with rfl | rfl; exact D.out.1; exact D.out.2.1)⟩
end Go.Proofs.Ythmpdhegodmjjaa
