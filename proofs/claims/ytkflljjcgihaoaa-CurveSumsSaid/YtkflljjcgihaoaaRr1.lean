/-
  The document's curve: its functions.
-/
import Derived.Test.YtkflljjcgihaoaaRr0
namespace Go.Proofs.Ytkflljjcgihaoaa
open Go.RowKit Go.Mem Go.Txt

section
variable {P : Program} {w : World} {o : Oper} {a : Act} {C : Act → World → Prop} {R : Exit → Act → World → Prop}
theorem wp_bld {t : TypeId} {ps : Array (Nat × Operand)} {vs : List (Nat × Value)} {cs : Array Value} (ho : o.op = .build t ps) (hv : (ps.map fun (p : Nat × Operand) => (p.1, a.eval p.2)).toList = vs) (hb : P.built t vs = some cs) (h : C (a.put o.dst (.agg cs)) w) : o.wp P a w C R := by
  refine wp_build t ps ho (by rw [show (ps.map fun (p : Nat × Operand) => (p.1, a.eval p.2)).toList = vs from hv, hb]; rfl) ?_
  rw [show (ps.map fun (p : Nat × Operand) => (p.1, a.eval p.2)).toList = vs from hv, hb]
  exact h
theorem wp_not (x : Operand) {t : TypeId} (ho : o.op = .unOp .not t x) {b : Bool} (hx : a.eval x = .bool b) (h : C (a.put o.dst (.bool (!b))) w) : o.wp P a w C R := by
  unfold Oper.wp execOp
  simp [ho, hx, Op.unary]
  exact h
end
theorem zdq : Dq 70000 zd 0 := ⟨fun i _ => by unfold zd; omega, by rw [Ed.v_zero]; decide +kernel⟩
theorem mul_one_ (a : Ed.Fq) : a * Ed.mk 1 = a := Lean.Grind.Semiring.mul_one a
theorem rpack_e {M : Int} {d : Nat → Int} {a : Ed.Fq} (h : Dq M d a) (hM : M ≤ 4611686018427387904) : ∃ l, RkC d l ∧ l = le a.v 32 ∧ l.length = 32 := ⟨_, rpack_d h hM, rfl, le_len _ _⟩
theorem dee_e : (Ed.mk 0 - Ed.mk 121665) * Ed.inv (Ed.mk 121666) = Ed.D := by
  have h : Ed.mk 121666 ≠ 0 := fun e => absurd (Ed.mk_eq.1 e) (by decide +kernel)
  have h1 := Ed.mul_inv' _ h
  have h2 : Ed.D * Ed.mk 121666 = Ed.mk 0 - Ed.mk 121665 := by
    unfold Ed.D
    exact Ed.Fq.ext (by decide +kernel)
  rw [← h2]
  generalize Ed.mk 121666 = x at *
  generalize Ed.inv x = i at *
  generalize Ed.D = D at *
  clear h h2
  grind
abbrev DeeC (r : Nat → Int) : Prop := ∀ W, Calls Try.prog 41 #[] W fun e w' => e = .returned (nu r) ∧ Kept [] W w'
set_option maxRecDepth 100000 in
set_option maxHeartbeats 4000000 in
theorem dee_r : ∃ r, DeeC r ∧ Dq 70000 r Ed.D := by
  obtain ⟨d1, c1, h1⟩ := of_d 0 (z := 0) (by omega) rfl
  obtain ⟨d2, c2, h2⟩ := of_d 121665 (z := 121665) (by omega) rfl
  obtain ⟨d3, c3, h3⟩ := rsub_d h1 h2 (by omega) (by omega)
  obtain ⟨d4, c4, h4⟩ := of_d 121666 (z := 121666) (by omega) rfl
  obtain ⟨d5, c5, h5⟩ := rinv_d h4 (by omega)
  obtain ⟨d6, c6, h6⟩ := rmul_d h3 h5 (by omega) (by omega)
  refine ⟨d6, ?_, h6.to dee_e⟩
  intro w
  replace c1 := Lib.hid c1
  replace c2 := Lib.hid c2
  replace c3 := Lib.hid c3
  replace c4 := Lib.hid c4
  replace c5 := Lib.hid c5
  replace c6 := Lib.hid c6
  go_enter Try.func41, Try.ntmps41
  have t := Lib.hid (Pm.none w)
  go_wp2_with (first
    | ((with_reducible refine wpl_new (o := ⟨some 0, _, _, _, _, _⟩) rfl rfl zeroN ?_); intro g0 w0 m0; have N0 := Lib.hid (fun p hp => m0.ne (t.out.s p hp).lt); have L0 := Lib.hid (Nat.le_trans t.out.k.size m0.le); replace t := Lib.hid ((t.out.kept m0.kept).cons (show Blk w0 g0 34 (iv (fam 16 zd)).toArray from m0.blk)); clear m0)
    | (go_at_call 48; (with_reducible refine (c1.out _).mono ?_); rintro e v ⟨rfl, kk⟩; replace t := Lib.hid (t.out.kept kk); clear kk)
    | (go_at_call 48; (with_reducible refine (c2.out _).mono ?_); rintro e v ⟨rfl, kk⟩; replace t := Lib.hid (t.out.kept kk); clear kk)
    | (go_at_call 47; (with_reducible refine (c3.out _).mono ?_); rintro e v ⟨rfl, kk⟩; replace t := Lib.hid (t.out.kept kk); clear kk)
    | (go_at_call 48; (with_reducible refine (c4.out _).mono ?_); rintro e v ⟨rfl, kk⟩; replace t := Lib.hid (t.out.kept kk); clear kk)
    | (go_at_call 60; (with_reducible refine (c5.out _).mono ?_); rintro e v ⟨rfl, kk⟩; replace t := Lib.hid (t.out.kept kk); clear kk)
    | (go_at_call 46; (with_reducible refine (c6.out _).mono ?_); rintro e v ⟨rfl, kk⟩; replace t := Lib.hid (t.out.kept kk); clear kk)
    | ((refine wpl_store_row (o := ⟨none, .store 34 (.tmp 0) (.tmp 6), _, _, _, _⟩) arrN.row rfl (.tmp 0) (.tmp 6) rfl rfl rfl (t.out.s (g0, 34, (iv (fam 16 zd)).toArray) (by simp)) rfl rfl (one_nu _) ?_); intro v0 b0 k0; replace t := Lib.hid (t.out.again L0.out N0.out b0 k0); clear b0 k0))
  exact ret_row arrN.row rfl rfl (t.out.s (g0, 34, (iv (fam 16 d6)).toArray) (by simp)) rfl rfl ⟨rfl, t.out.k⟩
abbrev ZeC (r : R4) : Prop := ∀ W, Calls Try.prog 21 #[] W fun e w' => e = .returned r.v ∧ Kept [] W w'
set_option maxRecDepth 100000 in
set_option maxHeartbeats 4000000 in
theorem zero_r : ∃ r, ZeC r ∧ Rr r Ed.Pt.zero := by
  obtain ⟨d1, c1, h1⟩ := of_d 1 (z := 1) (by omega) rfl
  obtain ⟨R2, hR2⟩ : ∃ R : R4, R = (R4.mk zd d1 d1 zd) := ⟨_, rfl⟩
  have bu2 : Try.prog.built 39 [(1, nu d1), (2, nu d1)] = some R2.c.toArray := by rw [hR2]; exact built_r2 _ _
  have hRr : Rr R2 Ed.Pt.zero := by rw [hR2]; exact ⟨_, _, _, zdq, h1, h1, one_ne0, by rw [zero_x]; exact Lean.Grind.Semiring.zero_mul _, by rw [zero_y]; exact Lean.Grind.Semiring.one_mul _⟩
  clear hR2
  refine ⟨R2, ?_, hRr⟩
  clear hRr
  intro w
  replace c1 := Lib.hid c1
  replace bu2 := Lib.hid bu2
  go_enter Try.func21, Try.ntmps21
  have t := Lib.hid (Pm.none w)
  go_wp2_with (first
    | ((with_reducible refine wpl_new (o := ⟨some 0, _, _, _, _, _⟩) rfl rfl zeroRt ?_); intro g0 w0 m0; have N0 := Lib.hid (fun p hp => m0.ne (t.out.s p hp).lt); have L0 := Lib.hid (Nat.le_trans t.out.k.size m0.le); replace t := Lib.hid ((t.out.kept m0.kept).cons (show Blk w0 g0 39 rz.c.toArray from m0.blk)); clear m0)
    | (go_at_call 48; (with_reducible refine (c1.out _).mono ?_); rintro e v ⟨rfl, kk⟩; replace t := Lib.hid (t.out.kept kk); clear kk)
    | (go_at_call 48; (with_reducible refine (c1.out _).mono ?_); rintro e v ⟨rfl, kk⟩; replace t := Lib.hid (t.out.kept kk); clear kk)
    | (refine wpl_build2 (o := ⟨some 3, _, _, _, _, _⟩) (v := nu d1) (u := nu d1) rfl 1 2 (.tmp 1) (.tmp 2) rfl rfl rfl (bu2.out) ?_)
    | ((refine wpl_store_row (o := ⟨none, .store 39 (.tmp 0) (.tmp 3), _, _, _, _⟩) structRt rfl (.tmp 0) (.tmp 3) rfl rfl rfl (t.out.s (g0, 39, rz.c.toArray) (by simp)) (R4.size rz) (R4.size R2) (R4.one R2) ?_); intro v0 b0 k0; replace t := Lib.hid (t.out.again L0.out N0.out b0 k0); clear b0 k0))
  exact ret_row structRt rfl rfl (t.out.s (g0, 39, R2.c.toArray) (by simp)) (R4.size _) rfl ⟨rfl, t.out.k⟩
abbrev OnC (a b : Nat → Int) (r : R4) : Prop := ∀ W, Calls Try.prog 49 #[nu a, nu b] W fun e w' => e = .returned r.v ∧ Kept [] W w'
set_option maxRecDepth 100000 in
set_option maxHeartbeats 4000000 in
theorem on_r {P : Ed.Pt} {dx dy : Nat → Int} (hx : Dq 70000 dx P.x) (hy : Dq 70000 dy P.y) : ∃ r, OnC dx dy r ∧ Rr r P := by
  obtain ⟨d1, c1, h1⟩ := of_d 1 (z := 1) (by omega) rfl
  obtain ⟨d2, c2, h2⟩ := rmul_d hx hy (by omega) (by omega)
  obtain ⟨R3, hR3⟩ : ∃ R : R4, R = (R4.mk dx dy d1 d2) := ⟨_, rfl⟩
  have bu3 : Try.prog.built 39 [(0, nu dx), (1, nu dy), (2, nu d1), (3, nu d2)] = some R3.c.toArray := by rw [hR3]; exact built_r4 _ _ _ _
  have hRr : Rr R3 P := by rw [hR3]; exact ⟨_, _, _, hx, hy, h1, one_ne0, mul_one_ _, mul_one_ _⟩
  clear hR3
  refine ⟨R3, ?_, hRr⟩
  clear hRr
  intro w
  replace c1 := Lib.hid c1
  replace c2 := Lib.hid c2
  replace bu3 := Lib.hid bu3
  go_enter Try.func49, Try.ntmps49
  have t := Lib.hid (Pm.none w)
  go_wp2_with (first
    | ((with_reducible refine wpl_box (o := ⟨some 2, _, _, _, _, _⟩) (v := nu dx) rfl (.tmp 0) rfl rfl ?_); intro g2 w2 m2; have N2 := Lib.hid (fun p hp => m2.ne (t.out.s p hp).lt); have L2 := Lib.hid (Nat.le_trans t.out.k.size m2.le); replace t := Lib.hid ((t.out.kept m2.kept).cons (show Blk w2 g2 34 (iv (fam 16 dx)).toArray from m2.blk)); clear m2)
    | ((with_reducible refine wpl_box (o := ⟨some 3, _, _, _, _, _⟩) (v := nu dy) rfl (.tmp 1) rfl rfl ?_); intro g3 w3 m3; have N3 := Lib.hid (fun p hp => m3.ne (t.out.s p hp).lt); have L3 := Lib.hid (Nat.le_trans t.out.k.size m3.le); replace t := Lib.hid ((t.out.kept m3.kept).cons (show Blk w3 g3 34 (iv (fam 16 dy)).toArray from m3.blk)); clear m3)
    | ((with_reducible refine wpl_new (o := ⟨some 4, _, _, _, _, _⟩) rfl rfl zeroRt ?_); intro g4 w4 m4; have N4 := Lib.hid (fun p hp => m4.ne (t.out.s p hp).lt); have L4 := Lib.hid (Nat.le_trans t.out.k.size m4.le); replace t := Lib.hid ((t.out.kept m4.kept).cons (show Blk w4 g4 39 rz.c.toArray from m4.blk)); clear m4))
  refine wp_last (by kernel_rfl) [nu dx, nu dy, nu d1, nu dx, nu dy, nu d2, R3.v]
    (Pm w [(g4, 39, rz.c.toArray), (g3, 34, (iv (fam 16 dy)).toArray), (g2, 34, (iv (fam 16 dx)).toArray)]) (by kernel_rfl) rfl rfl (by kernel_rfl) t.out.drew (fun u u' h hk => h.kept hk) ?_ ?_
  · refine ⟨?_, ?_, ?_, ?_, ?_, ?_, ?_, trivial⟩
    · exact fun a' u K0 R hS hr ho h => wp_loadr arrN.row (.tmp 2) rfl ((ho 2 (by decide)).trans rfl) (hS.s (g2, 34, (iv (fam 16 dx)).toArray) (by simp)) rfl (h u (Kept.refl _ _))
    · exact fun a' u K0 R hS hr ho h => wp_loadr arrN.row (.tmp 3) rfl ((ho 3 (by decide)).trans rfl) (hS.s (g3, 34, (iv (fam 16 dy)).toArray) (by simp)) rfl (h u (Kept.refl _ _))
    · refine fun a' u K0 R hS hr ho h => wp_callf rfl enters_rof (vs := #[.int .u64 1]) ?_ (c1.out u) h
      simp [Act.eval]
    · exact fun a' u K0 R hS hr ho h => wp_loadr arrN.row (.tmp 2) rfl ((ho 2 (by decide)).trans rfl) (hS.s (g2, 34, (iv (fam 16 dx)).toArray) (by simp)) rfl (h u (Kept.refl _ _))
    · exact fun a' u K0 R hS hr ho h => wp_loadr arrN.row (.tmp 3) rfl ((ho 3 (by decide)).trans rfl) (hS.s (g3, 34, (iv (fam 16 dy)).toArray) (by simp)) rfl (h u (Kept.refl _ _))
    · refine fun a' u K0 R hS hr ho h => wp_callf rfl enters_rmul (vs := #[nu dx, nu dy]) ?_ (c2.out u) h
      have x0 := hr 3 (nu dx) 8 _ rfl rfl rfl ⟨⟨3, .data⟩, by simp, rfl, rfl⟩
      have x1 := hr 4 (nu dy) 9 _ rfl rfl rfl ⟨⟨4, .data⟩, by simp, rfl, rfl⟩
      simp [Act.eval] at x0 x1 ⊢
      exact ⟨x0, x1⟩
    · refine fun a' u K0 R hS hr ho h => ?_
      have x0 := hr 0 (nu dx) 5 _ rfl rfl rfl ⟨⟨0, .data⟩, by simp, rfl, rfl⟩
      have x1 := hr 1 (nu dy) 6 _ rfl rfl rfl ⟨⟨1, .data⟩, by simp, rfl, rfl⟩
      have x2 := hr 2 (nu d1) 7 _ rfl rfl rfl ⟨⟨2, .data⟩, by simp, rfl, rfl⟩
      have x3 := hr 5 (nu d2) 10 _ rfl rfl rfl ⟨⟨5, .data⟩, by simp, rfl, rfl⟩
      simp at x0 x1 x2 x3
      exact wp_bld rfl (by simp [Act.eval, x0, x1, x2, x3]) (bu3.out) (h u (Kept.refl _ _))
  intro ul hSl
  simp [actOf, List.range, List.range.loop, Act.put]
  refine wp_storer structRt (.tmp 4) (.tmp 11) rfl rfl rfl (hSl.s (g4, 39, rz.c.toArray) (by simp)) (R4.size rz) (R4.size R3) (R4.one R3) ?_
  simp [Act.put]
  have bl := (hSl.s (g4, 39, rz.c.toArray) (by simp)).setRow_ R3.c.toArray
  have kl : Kept [g4] ul (ul.setRow g4 R3.c.toArray) := (Kept.refl [g4] ul).setRow (.inl (by simp)) _
  replace t := Lib.hid (hSl.again L4.out N4.out bl kl)
  clear bl kl hSl
  go_wp2_with fail
  exact ret_row structRt rfl rfl (t.out.s (g4, 39, R3.c.toArray) (by simp)) (R4.size _) rfl ⟨rfl, t.out.k⟩
abbrev NwC (r : Nat → Int) : Prop := ∀ W, Calls Try.prog 12 #[] W fun e w' => e = .returned (nu r) ∧ Kept [] W w'
set_option maxRecDepth 100000 in
set_option maxHeartbeats 4000000 in
theorem new_r : ∃ r, NwC r ∧ Dq 70000 r Ed.D := by
  obtain ⟨dD, cD, hD⟩ := dee_r
  refine ⟨dD, ?_, hD⟩
  intro w
  replace cD := Lib.hid cD
  go_enter Try.func12, Try.ntmps12
  have t := Lib.hid (Pm.none w)
  go_wp2_with (first
    | ((with_reducible refine wpl_new (o := ⟨some 0, _, _, _, _, _⟩) rfl rfl zeroCv ?_); intro g0 w0 m0; have N0 := Lib.hid (fun p hp => m0.ne (t.out.s p hp).lt); have L0 := Lib.hid (Nat.le_trans t.out.k.size m0.le); replace t := Lib.hid ((t.out.kept m0.kept).cons (show Blk w0 g0 36 (iv (fam 16 zd)).toArray from m0.blk)); clear m0)
    | (go_at_call 41; (with_reducible refine (cD.out _).mono ?_); rintro e v ⟨rfl, kk⟩; replace t := Lib.hid (t.out.kept kk); clear kk)
    | (refine wpl_build1 (o := ⟨some 2, _, _, _, _, _⟩) (v := nu dD) rfl 0 (.tmp 1) rfl rfl (built_cv _) ?_)
    | ((refine wpl_store_row (o := ⟨none, .store 36 (.tmp 0) (.tmp 2), _, _, _, _⟩) structCv rfl (.tmp 0) (.tmp 2) rfl rfl rfl (t.out.s (g0, 36, (iv (fam 16 zd)).toArray) (by simp)) rfl rfl (one_nu _) ?_); intro v0 b0 k0; replace t := Lib.hid (t.out.again L0.out N0.out b0 k0); clear b0 k0))
  exact ret_row structCv rfl rfl (t.out.s (g0, 36, (iv (fam 16 dD)).toArray) (by simp)) rfl rfl ⟨rfl, t.out.k⟩
end Go.Proofs.Ytkflljjcgihaoaa
