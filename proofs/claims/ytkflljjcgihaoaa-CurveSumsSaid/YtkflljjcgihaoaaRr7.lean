/-
  The document's curve: which bytes are points; the base point.
-/
import Derived.Test.YtkflljjcgihaoaaRr6
namespace Go.Proofs.Ytkflljjcgihaoaa
open Go.RowKit Go.Mem Go.Txt

theorem enc_mod (P : Ed.Pt) : enc P % T255 = P.y.v := by
  have hyl := v_lt P.y
  unfold enc T255 PP at *
  split <;> omega
theorem enc_top (P : Ed.Pt) : T255 ≤ enc P ↔ P.x.v % 2 = 1 := by
  have hyl := v_lt P.y
  unfold enc T255 PP at *
  split <;> omega
theorem top_iff {X : Nat} (hX : X < T256) : 128 ≤ c31 X ↔ T255 ≤ X := by
  have := dcO_eq hX
  unfold dcO at this
  exact decide_eq_decide.1 this
theorem neg_odd {x : Ed.Fq} (h : x.v % 2 = 0) (h0 : ¬ x.v = 0) : (-x).v % 2 = 1 := by
  have hl := v_lt x
  have hp := P_odd
  rw [neg_v, if_neg h0]
  omega
theorem even_uniq {y x z : Ed.Fq} (h : HasR y x) (h2 : HasR y z) (hx : x.v % 2 = 0) (hz : z.v % 2 = 0) : x = z := by
  rcases hasR_two h h2 with e | e
  · exact e
  · by_cases h0 : z.v = 0
    · apply Ed.Fq.ext
      rw [e, neg_v, if_pos h0, h0]
    · have := neg_odd hz h0
      rw [← e] at this
      omega
theorem even_ex {y : Ed.Fq} (h : ∃ x, HasR y x) : ∃ x, HasR y x ∧ x.v % 2 = 0 := by
  obtain ⟨x, hx⟩ := h
  by_cases ho : x.v % 2 = 1
  · exact ⟨-x, by unfold HasR; rw [neg_sq_]; exact hx, neg_even ho⟩
  · exact ⟨x, hx, by omega⟩
theorem root_x {dc : Nat → Int} {y x : Ed.Fq} (hD : Dq 70000 dc Ed.D) (h : HasR y x) (he : x.v % 2 = 0) (dy : Nat → Int) (hy : Dq 70000 dy y) : ∃ r, RtC dc dy r true ∧ Dq 70000 r x := by
  rcases root_r hD hy with ⟨z, r, c, hr, hz, hze⟩ | ⟨_, hn⟩
  · rw [even_uniq hz h hze he] at hr
    exact ⟨r, c, hr⟩
  · exact absurd h (hn x)
theorem rdec_r {dc : Nat → Int} (hD : Dq 70000 dc Ed.D) {X : Nat} (hX : X < T256) : (∃ P r, enc P = X ∧ RdC dc (le X 32) r true ∧ Rr r P) ∨ (RdC dc (le X 32) rz false ∧ ∀ P, enc P ≠ X) := by
  have hg : RgC (le (X % T255) 32) (dcN X) := fun W => rgood_any _ (le_len _ _) W
  cases hn : dcN X with
  | false =>
    rw [hn] at hg
    right
    refine ⟨?_, fun P hP => ?_⟩
    · by_cases ho : 128 ≤ c31 X
      · exact rdec_Go hD ho hg
      · exact rdec_Ge hD ho hg
    · have h1 := enc_mod P
      have h2 := v_lt P.y
      rw [hP] at h1
      rw [dcN_eq] at hn
      exact absurd (h1 ▸ h2) (of_decide_eq_false hn)
  | true =>
    rw [hn] at hg
    have hyP : ∀ P, enc P = X → P.y = yOf X := fun P hP => Ed.Fq.ext (by rw [yOf_v hn, ← hP, enc_mod])
    by_cases hex : ∃ x, HasR (yOf X) x
    · obtain ⟨x, hx, he⟩ := even_ex hex
      have hrt := root_x hD hx he
      by_cases ho : 128 ≤ c31 X
      · have ht := (top_iff hX).1 ho
        by_cases hz : x.v = 0
        · right
          refine ⟨rdec_Zo hD ho hg hrt hz, fun P hP => ?_⟩
          have h1 := (enc_top P).1 (by rw [hP]; exact ht)
          have h2 := pt_hasR P
          rw [hyP P hP] at h2
          have h3 : P.x = 0 ∨ P.x = 0 := by
            have hx0 : x = 0 := Ed.Fq.ext (hz.trans Ed.v_zero.symm)
            rcases hasR_two h2 hx with e | e
            · exact .inl (e.trans hx0)
            · rw [hx0] at e
              exact .inr (e.trans (by grind))
          rcases h3 with e | e <;> (rw [e, Ed.v_zero] at h1; omega)
        · left
          have hon : HasR (yOf X) (-x) := by unfold HasR; rw [neg_sq_]; exact hx
          obtain ⟨r, c, hr⟩ := rdec_Oo hD ho hg hrt hz (P := ⟨-x, yOf X, hasR_pt hon⟩) rfl rfl
          exact ⟨_, r, enc_of hX hn rfl ⟨fun _ => ht, fun _ => neg_odd he hz⟩, c, hr⟩
      · left
        obtain ⟨r, c, hr⟩ := rdec_Ee hD ho hg hrt (P := ⟨x, yOf X, hasR_pt hx⟩) rfl rfl
        have ht := fun h => ho ((top_iff hX).2 h)
        exact ⟨_, r, enc_of hX hn rfl ⟨fun e => by have e2 : x.v % 2 = 1 := e; omega, fun h => absurd h ht⟩, c, hr⟩
    · right
      have hrt : ∀ dy, Dq 70000 dy (yOf X) → RtC dc dy zd false := fun dy hy => by
        rcases root_r hD hy with ⟨z, r, c, hr, hz, hze⟩ | ⟨h, _⟩
        · exact absurd ⟨z, hz⟩ hex
        · exact h
      refine ⟨?_, fun P hP => hex ⟨P.x, by rw [← hyP P hP]; exact pt_hasR P⟩⟩
      by_cases ho : 128 ≤ c31 X
      · exact rdec_No hD ho hg hrt
      · exact rdec_Ne hD ho hg hrt
theorem base_y : Ed.mk 4 * Ed.inv (Ed.mk 5) = BB.y := by
  have h5 : Ed.mk 5 ≠ 0 := fun e => absurd (Ed.mk_eq.1 e) (by decide +kernel)
  refine rb_div h5 ?_
  exact Ed.Fq.ext (by decide +kernel)
theorem base_xe : BB.x.v % 2 = 0 := by decide +kernel
abbrev RbC (d : Nat → Int) (r : R4) : Prop := ∀ W, Calls Try.prog 23 #[nu d] W fun e w' => e = .returned r.v ∧ Kept [] W w'
theorem enters_qbase (xs : Array Value) (w : World) : (callFunc 23 xs).run Try.prog w = .ok (.enter 23 xs) w := enters_of (c := _) Try.func23 (by kernel_rfl) rfl xs w
theorem enters_qmul (xs : Array Value) (w : World) : (callFunc 22 xs).run Try.prog w = .ok (.enter 22 xs) w := enters_of (c := _) Try.func22 (by kernel_rfl) rfl xs w
theorem rb_l {q : R4} {P Q : Ed.Pt} {l : List UInt8} (hl : l = le (enc Q) 32) (h : Rr q P) (e : P = Q) : BytC q l := by
  subst e
  rw [hl]
  exact rbytes h
set_option maxRecDepth 100000 in
set_option maxHeartbeats 4000000 in
theorem rbase_r {dc : Nat → Int} (hD : Dq 70000 dc Ed.D) : ∃ r, RbC dc r ∧ Rr r BB := by
  obtain ⟨d1, c1, h1⟩ := of_d 4 (z := 4) (by omega) rfl
  obtain ⟨d2, c2, h2⟩ := of_d 5 (z := 5) (by omega) rfl
  obtain ⟨d3, c3, h3⟩ := rinv_d h2 (by omega)
  obtain ⟨d4, c4, h4⟩ := rmul_d h1 h3 (by omega) (by omega)
  have hyB := h4.to base_y
  obtain ⟨xr, crt, hx⟩ := root_x hD (pt_hasR BB) base_xe _ hyB
  obtain ⟨R, con, hR⟩ := on_r (P := BB) hx hyB
  refine ⟨R, ?_, hR⟩
  intro w
  replace c1 := Lib.hid c1
  replace c2 := Lib.hid c2
  replace c3 := Lib.hid c3
  replace c4 := Lib.hid c4
  replace crt := Lib.hid crt
  replace con := Lib.hid con
  clear hD hR hx hyB h1 h2 h3 h4
  go_enter Try.func23, Try.ntmps23
  have t := Lib.hid (Pm.none w)
  go_wp2_with (first
    | ((with_reducible refine wpl_box (o := ⟨some 1, _, _, _, _, _⟩) (v := nu dc) rfl (.tmp 0) rfl rfl ?_); intro g1 w1 m1; have N1 := Lib.hid (fun p hp => m1.ne (t.out.s p hp).lt); have L1 := Lib.hid (Nat.le_trans t.out.k.size m1.le); replace t := Lib.hid ((t.out.kept m1.kept).cons (show Blk w1 g1 36 (iv (fam 16 dc)).toArray from m1.blk)); clear m1)
    | ((with_reducible refine wpl_new (o := ⟨some 2, _, _, _, _, _⟩) rfl rfl zeroRt ?_); intro g2 w2 m2; have N2 := Lib.hid (fun p hp => m2.ne (t.out.s p hp).lt); have L2 := Lib.hid (Nat.le_trans t.out.k.size m2.le); replace t := Lib.hid ((t.out.kept m2.kept).cons (show Blk w2 g2 39 rz.c.toArray from m2.blk)); clear m2)
    | (go_at_call 48; (with_reducible refine (c1.out _).mono ?_); rintro e v ⟨rfl, kk⟩; replace t := Lib.hid (t.out.kept kk); clear kk)
    | (go_at_call 48; (with_reducible refine (c2.out _).mono ?_); rintro e v ⟨rfl, kk⟩; replace t := Lib.hid (t.out.kept kk); clear kk)
    | (go_at_call 60; (with_reducible refine (c3.out _).mono ?_); rintro e v ⟨rfl, kk⟩; replace t := Lib.hid (t.out.kept kk); clear kk)
    | (go_at_call 46; (with_reducible refine (c4.out _).mono ?_); rintro e v ⟨rfl, kk⟩; replace t := Lib.hid (t.out.kept kk); clear kk)
    | ((with_reducible refine wpl_new (o := ⟨some 3, _, _, _, _, _⟩) rfl rfl zeroN ?_); intro g3 w3 m3; have N3 := Lib.hid (fun p hp => m3.ne (t.out.s p hp).lt); have L3 := Lib.hid (Nat.le_trans t.out.k.size m3.le); replace t := Lib.hid ((t.out.kept m3.kept).cons (show Blk w3 g3 34 (iv (fam 16 zd)).toArray from m3.blk)); clear m3)
    | ((refine wpl_store_row (o := ⟨none, .store 34 (.tmp 3) (.tmp 9), _, _, _, _⟩) arrN.row rfl (.tmp 3) (.tmp 9) rfl rfl rfl (t.out.s (g3, 34, (iv (fam 16 zd)).toArray) (by simp)) rfl rfl (one_nu _) ?_); intro v3 b3 k3; replace t := Lib.hid (t.out.again L3.out N3.out b3 k3); clear b3 k3)
    | (with_reducible refine wpl_load_row (o := ⟨some 11, _, _, _, _, _⟩) structCv rfl (.tmp 1) rfl rfl (t.out.s (g1, 36, (iv (fam 16 dc)).toArray) (by simp)) rfl ?_)
    | (with_reducible refine wpl_load_row (o := ⟨some 12, _, _, _, _, _⟩) arrN.row rfl (.tmp 3) rfl rfl (t.out.s (g3, 34, (iv (fam 16 d4)).toArray) (by simp)) rfl ?_)
    | (go_at_call 44; (with_reducible refine (crt.out _).mono ?_); rintro e v ⟨rfl, kk⟩; replace t := Lib.hid (t.out.kept kk); clear kk)
    | ((with_reducible refine wpl_new (o := ⟨some 4, _, _, _, _, _⟩) rfl rfl zeroN ?_); intro g4 w4 m4; have N4 := Lib.hid (fun p hp => m4.ne (t.out.s p hp).lt); have L4 := Lib.hid (Nat.le_trans t.out.k.size m4.le); replace t := Lib.hid ((t.out.kept m4.kept).cons (show Blk w4 g4 34 (iv (fam 16 zd)).toArray from m4.blk)); clear m4)
    | ((refine wpl_store_row (o := ⟨none, .store 34 (.tmp 4) (.tmp 14), _, _, _, _⟩) arrN.row rfl (.tmp 4) (.tmp 14) rfl rfl rfl (t.out.s (g4, 34, (iv (fam 16 zd)).toArray) (by simp)) rfl rfl (one_nu _) ?_); intro v4 b4 k4; replace t := Lib.hid (t.out.again L4.out N4.out b4 k4); clear b4 k4)
    | (with_reducible refine wpl_load_row (o := ⟨some 16, _, _, _, _, _⟩) arrN.row rfl (.tmp 4) rfl rfl (t.out.s (g4, 34, (iv (fam 16 xr)).toArray) (by simp)) rfl ?_)
    | (with_reducible refine wpl_load_row (o := ⟨some 17, _, _, _, _, _⟩) arrN.row rfl (.tmp 3) rfl rfl (t.out.s (g3, 34, (iv (fam 16 d4)).toArray) (by simp)) rfl ?_)
    | (go_at_call 49; (with_reducible refine (con.out _).mono ?_); rintro e v ⟨rfl, kk⟩; replace t := Lib.hid (t.out.kept kk); clear kk)
    | ((refine wpl_store_row (o := ⟨none, .store 39 (.tmp 2) (.tmp 18), _, _, _, _⟩) structRt rfl (.tmp 2) (.tmp 18) rfl rfl rfl (t.out.s (g2, 39, rz.c.toArray) (by simp)) (R4.size rz) (R4.size R) (R4.one R) ?_); intro v2 b2 k2; have bR := Lib.hid b2; have kR := Lib.hid k2; clear b2 k2))
  exact ret_row structRt rfl rfl bR.out (R4.size _) rfl ⟨rfl, t.out.k.then1 kR.out L2.out⟩
end Go.Proofs.Ytkflljjcgihaoaa
