/-
  The document's curve: its functions.
-/
import Derived.Test.YtkflljjcgihaoaaRr1
namespace Go.Proofs.Ytkflljjcgihaoaa
open Go.RowKit Go.Mem Go.Txt

theorem radd_math {P Q : Ed.Pt} {x1 y1 u x2 y2 v : Ed.Fq} {dX dY dZ : Nat → Int} (p0 : u ≠ 0) (p1 : P.x * u = x1) (p2 : P.y * u = y1) (q0 : v ≠ 0) (q1 : Q.x * v = x2) (q2 : Q.y * v = y2)
    (hX : Dq 70000 dX ((x1 * y2 + y1 * x2) * (u * v) * (u * v * (u * v) - Ed.D * (x1 * x2 * (y1 * y2))))) (hY : Dq 70000 dY ((y1 * y2 + x1 * x2) * (u * v) * (u * v * (u * v) + Ed.D * (x1 * x2 * (y1 * y2))))) (hZ : Dq 70000 dZ ((u * v * (u * v) + Ed.D * (x1 * x2 * (y1 * y2))) * (u * v * (u * v) - Ed.D * (x1 * x2 * (y1 * y2))))) :
    Rr ⟨dX, dY, dZ, zd⟩ (P + Q) := by
  have hx := sum_xm P Q
  have hy := sum_ym P Q
  have n1 := Ed.good.plus P.on Q.on
  have n2 := Ed.good.minus P.on Q.on
  subst p1 p2 q1 q2
  have ep : u * v * (u * v) + Ed.D * (P.x * u * (Q.x * v) * (P.y * u * (Q.y * v))) = u * v * (u * v) * (1 + Ed.D * P.x * Q.x * P.y * Q.y) := by
    generalize Ed.D = D at *; generalize P.x = a at *; generalize P.y = b at *; generalize Q.x = c at *; generalize Q.y = d at *
    clear hx hy n1 n2 hX hY hZ
    grind
  have em : u * v * (u * v) - Ed.D * (P.x * u * (Q.x * v) * (P.y * u * (Q.y * v))) = u * v * (u * v) * (1 - Ed.D * P.x * Q.x * P.y * Q.y) := by
    generalize Ed.D = D at *; generalize P.x = a at *; generalize P.y = b at *; generalize Q.x = c at *; generalize Q.y = d at *
    clear hx hy n1 n2 hX hY hZ ep
    grind
  rw [ep, em] at hZ
  rw [em] at hX
  rw [ep] at hY
  have huv := Ed.mul_ne (Ed.mul_ne p0 q0) (Ed.mul_ne p0 q0)
  refine ⟨_, _, _, hX, hY, hZ, Ed.mul_ne (Ed.mul_ne huv n1) (Ed.mul_ne huv n2), ?_, ?_⟩
  · generalize (P + Q).x = X at *
    generalize 1 - Ed.D * P.x * Q.x * P.y * Q.y = m at *
    generalize 1 + Ed.D * P.x * Q.x * P.y * Q.y = n at *
    have e : X * (u * v * (u * v) * n * (u * v * (u * v) * m)) = X * n * (u * v * (u * v) * (u * v * (u * v) * m)) := by clear hx hy n1 n2 hX hY hZ ep em; grind
    rw [e, hx]
    clear e hx hy n1 n2 hX hY hZ ep em
    grind
  · generalize (P + Q).y = X at *
    generalize 1 - Ed.D * P.x * Q.x * P.y * Q.y = m at *
    generalize 1 + Ed.D * P.x * Q.x * P.y * Q.y = n at *
    have e : X * (u * v * (u * v) * n * (u * v * (u * v) * m)) = X * m * (u * v * (u * v) * (u * v * (u * v) * n)) := by clear hx hy n1 n2 hX hY hZ ep em; grind
    rw [e, hy]
    clear e hx hy n1 n2 hX hY hZ ep em
    grind
theorem rneg_x {x z : Ed.Fq} : -x * z = (Ed.mk 0 - x * z) * Ed.mk 1 := by
  show -x * z = (0 - x * z) * 1
  grind
abbrev RaddC (d : Nat → Int) (p q r : R4) : Prop := ∀ W, Calls Try.prog 25 #[nu d, p.v, q.v] W fun e w' => e = .returned r.v ∧ Kept [] W w'
set_option maxRecDepth 100000 in
set_option maxHeartbeats 4000000 in
theorem radd_r {dc : Nat → Int} {p q : R4} {P Q : Ed.Pt} (hD : Dq 70000 dc Ed.D) (hp : Rr p P) (hq : Rr q Q) : ∃ r, RaddC dc p q r ∧ Rr r (P + Q) := by
  obtain ⟨pX, pY, pZ, px, py, pz, p0, p1, p2⟩ := hp.e
  obtain ⟨qX, qY, qZ, qx, qy, qz, q0, q1, q2⟩ := hq.e
  obtain ⟨d1, c1, h1⟩ := rmul_d pz qz (by omega) (by omega)
  obtain ⟨d2, c2, h2⟩ := rmul_d h1 h1 (by omega) (by omega)
  obtain ⟨d3, c3, h3⟩ := rmul_d px qx (by omega) (by omega)
  obtain ⟨d4, c4, h4⟩ := rmul_d py qy (by omega) (by omega)
  obtain ⟨d5, c5, h5⟩ := rmul_d h3 h4 (by omega) (by omega)
  obtain ⟨d6, c6, h6⟩ := rmul_d hD h5 (by omega) (by omega)
  obtain ⟨d7, c7, h7⟩ := rmul_d px qy (by omega) (by omega)
  obtain ⟨d8, c8, h8⟩ := rmul_d py qx (by omega) (by omega)
  obtain ⟨d9, c9, h9⟩ := radd_d h7 h8 (by omega) (by omega)
  obtain ⟨d10, c10, h10⟩ := radd_d h4 h3 (by omega) (by omega)
  obtain ⟨d11, c11, h11⟩ := radd_d h2 h6 (by omega) (by omega)
  obtain ⟨d12, c12, h12⟩ := rsub_d h2 h6 (by omega) (by omega)
  obtain ⟨d13, c13, h13⟩ := rmul_d h9 h1 (by omega) (by omega)
  obtain ⟨d14, c14, h14⟩ := rmul_d h13 h12 (by omega) (by omega)
  obtain ⟨d15, c15, h15⟩ := rmul_d h10 h1 (by omega) (by omega)
  obtain ⟨d16, c16, h16⟩ := rmul_d h15 h11 (by omega) (by omega)
  obtain ⟨d17, c17, h17⟩ := rmul_d h11 h12 (by omega) (by omega)
  obtain ⟨R18, hR18⟩ : ∃ R : R4, R = (R4.mk d14 d16 d17 zd) := ⟨_, rfl⟩
  have bu18 : Try.prog.built 39 [(0, nu d14), (1, nu d16), (2, nu d17)] = some R18.c.toArray := by rw [hR18]; exact built_r3 _ _ _
  have hRr : Rr R18 (P + Q) := by
    rw [hR18]
    exact radd_math p0 p1 p2 q0 q1 q2 h14 h16 h17
  clear hR18
  refine ⟨R18, ?_, hRr⟩
  clear hRr
  intro w
  replace c1 := Lib.hid c1
  replace c2 := Lib.hid c2
  replace c3 := Lib.hid c3
  replace c4 := Lib.hid c4
  replace c5 := Lib.hid c5
  replace c6 := Lib.hid c6
  replace c7 := Lib.hid c7
  replace c8 := Lib.hid c8
  replace c9 := Lib.hid c9
  replace c10 := Lib.hid c10
  replace c11 := Lib.hid c11
  replace c12 := Lib.hid c12
  replace c13 := Lib.hid c13
  replace c14 := Lib.hid c14
  replace c15 := Lib.hid c15
  replace c16 := Lib.hid c16
  replace c17 := Lib.hid c17
  replace bu18 := Lib.hid bu18
  clear hD hp hq px py pz p0 p1 p2 qx qy qz q0 q1 q2 h1 h2 h3 h4 h5 h6 h7 h8 h9 h10 h11 h12 h13 h14 h15 h16 h17
  go_enter Try.func25, Try.ntmps25
  have t := Lib.hid (Pm.none w)
  go_wp2_with (first
    | ((with_reducible refine wpl_box (o := ⟨some 3, _, _, _, _, _⟩) (v := nu dc) rfl (.tmp 0) rfl rfl ?_); intro g3 w3 m3; have N3 := Lib.hid (fun p hp => m3.ne (t.out.s p hp).lt); have L3 := Lib.hid (Nat.le_trans t.out.k.size m3.le); replace t := Lib.hid ((t.out.kept m3.kept).cons (show Blk w3 g3 36 (iv (fam 16 dc)).toArray from m3.blk)); clear m3)
    | ((with_reducible refine wpl_box (o := ⟨some 4, _, _, _, _, _⟩) (v := p.v) rfl (.tmp 1) rfl rfl ?_); intro g4 w4 m4; have N4 := Lib.hid (fun p hp => m4.ne (t.out.s p hp).lt); have L4 := Lib.hid (Nat.le_trans t.out.k.size m4.le); replace t := Lib.hid ((t.out.kept m4.kept).cons (show Blk w4 g4 39 p.c.toArray from m4.blk)); clear m4)
    | ((with_reducible refine wpl_box (o := ⟨some 5, _, _, _, _, _⟩) (v := q.v) rfl (.tmp 2) rfl rfl ?_); intro g5 w5 m5; have N5 := Lib.hid (fun p hp => m5.ne (t.out.s p hp).lt); have L5 := Lib.hid (Nat.le_trans t.out.k.size m5.le); replace t := Lib.hid ((t.out.kept m5.kept).cons (show Blk w5 g5 39 q.c.toArray from m5.blk)); clear m5)
    | ((with_reducible refine wpl_new (o := ⟨some 6, _, _, _, _, _⟩) rfl rfl zeroRt ?_); intro g6 w6 m6; have N6 := Lib.hid (fun p hp => m6.ne (t.out.s p hp).lt); have L6 := Lib.hid (Nat.le_trans t.out.k.size m6.le); replace t := Lib.hid ((t.out.kept m6.kept).cons (show Blk w6 g6 39 rz.c.toArray from m6.blk)); clear m6)
    | (with_reducible refine wpl_loadp (o := ⟨some 15, _, _, _, _, _⟩) arrN.row rfl (.tmp 14) rfl rfl (R4.pz (t.out.s (g4, 39, p.c.toArray) (by simp))) (iv16 _) ?_)
    | (with_reducible refine wpl_loadp (o := ⟨some 17, _, _, _, _, _⟩) arrN.row rfl (.tmp 16) rfl rfl (R4.pz (t.out.s (g5, 39, q.c.toArray) (by simp))) (iv16 _) ?_)
    | (go_at_call 46; (with_reducible refine (c1.out _).mono ?_); rintro e v ⟨rfl, kk⟩; replace t := Lib.hid (t.out.kept kk); clear kk)
    | ((with_reducible refine wpl_new (o := ⟨some 7, _, _, _, _, _⟩) rfl rfl zeroN ?_); intro g7 w7 m7; have N7 := Lib.hid (fun p hp => m7.ne (t.out.s p hp).lt); have L7 := Lib.hid (Nat.le_trans t.out.k.size m7.le); replace t := Lib.hid ((t.out.kept m7.kept).cons (show Blk w7 g7 34 (iv (fam 16 zd)).toArray from m7.blk)); clear m7)
    | ((refine wpl_store_row (o := ⟨none, .store 34 (.tmp 7) (.tmp 18), _, _, _, _⟩) arrN.row rfl (.tmp 7) (.tmp 18) rfl rfl rfl (t.out.s (g7, 34, (iv (fam 16 zd)).toArray) (by simp)) rfl rfl (one_nu _) ?_); intro v7 b7 k7; replace t := Lib.hid (t.out.again L7.out N7.out b7 k7); clear b7 k7)
    | (with_reducible refine wpl_load_row (o := ⟨some 19, _, _, _, _, _⟩) arrN.row rfl (.tmp 7) rfl rfl (t.out.s (g7, 34, (iv (fam 16 d1)).toArray) (by simp)) rfl ?_)
    | (with_reducible refine wpl_load_row (o := ⟨some 20, _, _, _, _, _⟩) arrN.row rfl (.tmp 7) rfl rfl (t.out.s (g7, 34, (iv (fam 16 d1)).toArray) (by simp)) rfl ?_)
    | (go_at_call 46; (with_reducible refine (c2.out _).mono ?_); rintro e v ⟨rfl, kk⟩; replace t := Lib.hid (t.out.kept kk); clear kk)
    | ((with_reducible refine wpl_new (o := ⟨some 8, _, _, _, _, _⟩) rfl rfl zeroN ?_); intro g8 w8 m8; have N8 := Lib.hid (fun p hp => m8.ne (t.out.s p hp).lt); have L8 := Lib.hid (Nat.le_trans t.out.k.size m8.le); replace t := Lib.hid ((t.out.kept m8.kept).cons (show Blk w8 g8 34 (iv (fam 16 zd)).toArray from m8.blk)); clear m8)
    | ((refine wpl_store_row (o := ⟨none, .store 34 (.tmp 8) (.tmp 21), _, _, _, _⟩) arrN.row rfl (.tmp 8) (.tmp 21) rfl rfl rfl (t.out.s (g8, 34, (iv (fam 16 zd)).toArray) (by simp)) rfl rfl (one_nu _) ?_); intro v8 b8 k8; replace t := Lib.hid (t.out.again L8.out N8.out b8 k8); clear b8 k8))
  refine wp_multi (by kernel_rfl) [.val (.pointer (some ⟨g3, 0, none⟩)), .val (nu dc), .val (.pointer (some ⟨g4, 0, none⟩)), .val (nu p.x), .val (.pointer (some ⟨g5, 0, none⟩)), .val (nu q.x), .val (nu d3), .val (.pointer (some ⟨g4, 16, none⟩)), .val (nu p.y), .val (.pointer (some ⟨g5, 16, none⟩)), .val (nu q.y), .val (nu d4), .val (nu d5), .val (nu d6), .new 34 (nu zd), .put 14 13 (iv (fam 16 d6)).toArray]
    (Pm w [(g8, 34, (iv (fam 16 d2)).toArray), (g7, 34, (iv (fam 16 d1)).toArray), (g6, 39, rz.c.toArray), (g5, 39, q.c.toArray), (g4, 39, p.c.toArray), (g3, 36, (iv (fam 16 dc)).toArray)]) (by kernel_rfl) (by kernel_rfl) t.out.drew (fun u u' T hS hk hT => t.out.fresh u u' T hS hk hT) ?_ ?_
  · refine ⟨?_, ?_, ?_, ?_, ?_, ?_, ?_, ?_, ?_, ?_, ?_, ?_, ?_, ?_, ⟨⟨_, rfl⟩, rfl, zeroN⟩, ?_, trivial⟩
    · exact ⟨⟨_, rfl⟩, fun a' u K0 R hS hr ho h => wp_fieldp (.tmp 3) rfl ((ho 3 (by decide)).trans rfl) (cfa0 g3) (h u (Kept.refl _ _))⟩
    · exact ⟨⟨_, rfl⟩, fun a' u K0 R hS hr ho h => wp_loadp arrN.row (.tmp 22) rfl (hr 0 _ 22 _ rfl rfl rfl ⟨⟨0, .data⟩, by simp, rfl, rfl⟩) (cv_d (hS.s (g3, 36, (iv (fam 16 dc)).toArray) (by simp))) (iv16 _) (h u (Kept.refl _ _))⟩
    · exact ⟨⟨_, rfl⟩, fun a' u K0 R hS hr ho h => wp_fieldp (.tmp 4) rfl ((ho 4 (by decide)).trans rfl) (rfa0 g4) (h u (Kept.refl _ _))⟩
    · exact ⟨⟨_, rfl⟩, fun a' u K0 R hS hr ho h => wp_loadp arrN.row (.tmp 24) rfl (hr 2 _ 24 _ rfl rfl rfl ⟨⟨2, .data⟩, by simp, rfl, rfl⟩) (R4.px (hS.s (g4, 39, p.c.toArray) (by simp))) (iv16 _) (h u (Kept.refl _ _))⟩
    · exact ⟨⟨_, rfl⟩, fun a' u K0 R hS hr ho h => wp_fieldp (.tmp 5) rfl ((ho 5 (by decide)).trans rfl) (rfa0 g5) (h u (Kept.refl _ _))⟩
    · exact ⟨⟨_, rfl⟩, fun a' u K0 R hS hr ho h => wp_loadp arrN.row (.tmp 26) rfl (hr 4 _ 26 _ rfl rfl rfl ⟨⟨4, .data⟩, by simp, rfl, rfl⟩) (R4.px (hS.s (g5, 39, q.c.toArray) (by simp))) (iv16 _) (h u (Kept.refl _ _))⟩
    · refine ⟨⟨_, rfl⟩, fun a' u K0 R hS hr ho h => wp_callf rfl enters_rmul (vs := #[nu p.x, nu q.x]) ?_ (c3.out u) h⟩
      have x0 := hr 3 (nu p.x) 25 _ rfl rfl rfl ⟨⟨3, .data⟩, by simp, rfl, rfl⟩
      have x1 := hr 5 (nu q.x) 27 _ rfl rfl rfl ⟨⟨5, .data⟩, by simp, rfl, rfl⟩
      simp [Act.eval] at x0 x1 ⊢
      exact ⟨x0, x1⟩
    · exact ⟨⟨_, rfl⟩, fun a' u K0 R hS hr ho h => wp_fieldp (.tmp 4) rfl ((ho 4 (by decide)).trans rfl) (rfa1 g4) (h u (Kept.refl _ _))⟩
    · exact ⟨⟨_, rfl⟩, fun a' u K0 R hS hr ho h => wp_loadp arrN.row (.tmp 29) rfl (hr 7 _ 29 _ rfl rfl rfl ⟨⟨7, .data⟩, by simp, rfl, rfl⟩) (R4.py (hS.s (g4, 39, p.c.toArray) (by simp))) (iv16 _) (h u (Kept.refl _ _))⟩
    · exact ⟨⟨_, rfl⟩, fun a' u K0 R hS hr ho h => wp_fieldp (.tmp 5) rfl ((ho 5 (by decide)).trans rfl) (rfa1 g5) (h u (Kept.refl _ _))⟩
    · exact ⟨⟨_, rfl⟩, fun a' u K0 R hS hr ho h => wp_loadp arrN.row (.tmp 31) rfl (hr 9 _ 31 _ rfl rfl rfl ⟨⟨9, .data⟩, by simp, rfl, rfl⟩) (R4.py (hS.s (g5, 39, q.c.toArray) (by simp))) (iv16 _) (h u (Kept.refl _ _))⟩
    · refine ⟨⟨_, rfl⟩, fun a' u K0 R hS hr ho h => wp_callf rfl enters_rmul (vs := #[nu p.y, nu q.y]) ?_ (c4.out u) h⟩
      have x0 := hr 8 (nu p.y) 30 _ rfl rfl rfl ⟨⟨8, .data⟩, by simp, rfl, rfl⟩
      have x1 := hr 10 (nu q.y) 32 _ rfl rfl rfl ⟨⟨10, .data⟩, by simp, rfl, rfl⟩
      simp [Act.eval] at x0 x1 ⊢
      exact ⟨x0, x1⟩
    · refine ⟨⟨_, rfl⟩, fun a' u K0 R hS hr ho h => wp_callf rfl enters_rmul (vs := #[nu d3, nu d4]) ?_ (c5.out u) h⟩
      have x0 := hr 6 (nu d3) 28 _ rfl rfl rfl ⟨⟨6, .data⟩, by simp, rfl, rfl⟩
      have x1 := hr 11 (nu d4) 33 _ rfl rfl rfl ⟨⟨11, .data⟩, by simp, rfl, rfl⟩
      simp [Act.eval] at x0 x1 ⊢
      exact ⟨x0, x1⟩
    · refine ⟨⟨_, rfl⟩, fun a' u K0 R hS hr ho h => wp_callf rfl enters_rmul (vs := #[nu dc, nu d5]) ?_ (c6.out u) h⟩
      have x0 := hr 1 (nu dc) 23 _ rfl rfl rfl ⟨⟨1, .data⟩, by simp, rfl, rfl⟩
      have x1 := hr 12 (nu d5) 34 _ rfl rfl rfl ⟨⟨12, .data⟩, by simp, rfl, rfl⟩
      simp [Act.eval] at x0 x1 ⊢
      exact ⟨x0, x1⟩
    · exact ⟨rfl, ⟨⟨14, .data⟩, by simp, rfl, rfl⟩, ⟨⟨13, .data⟩, by simp, rfl, rfl⟩, _, _, _, _, _, _, _, _, rfl, rfl, rfl, rfl, rfl, rfl, rfl, arrN.row, rfl, rfl, one_nu _⟩
  intro γ wm hS hγ hne hput
  have b9 := hput 15 14 13 _ _ _ rfl rfl
  have hf9 := hγ 14 _ _ rfl
  generalize e9 : γ 14 = g9 at *
  simp [actOf, VK, List.range, List.range.loop, Act.put, e9]
  have N9 := Lib.hid (fun p hp => Nat.ne_of_lt (Nat.lt_of_lt_of_le (t.out.s p hp).lt hf9))
  have L9 := Lib.hid (Nat.le_trans t.out.k.size hf9)
  replace t := Lib.hid (show Pm w [(g9, 34, (iv (fam 16 d6)).toArray), (g8, 34, (iv (fam 16 d2)).toArray), (g7, 34, (iv (fam 16 d1)).toArray), (g6, 39, rz.c.toArray), (g5, 39, q.c.toArray), (g4, 39, p.c.toArray), (g3, 36, (iv (fam 16 dc)).toArray)] wm from (hS).cons b9)
  clear b9 hf9 hput hne hγ hS e9
  go_wp2_with fail
  refine wp_multi (by kernel_rfl) [.val (.pointer (some ⟨g4, 0, none⟩)), .val (nu p.x), .val (.pointer (some ⟨g5, 16, none⟩)), .val (nu q.y), .val (nu d7), .val (.pointer (some ⟨g4, 16, none⟩)), .val (nu p.y), .val (.pointer (some ⟨g5, 0, none⟩)), .val (nu q.x), .val (nu d8), .val (nu d9), .new 34 (nu zd), .put 11 10 (iv (fam 16 d9)).toArray]
    (Pm w [(g9, 34, (iv (fam 16 d6)).toArray), (g8, 34, (iv (fam 16 d2)).toArray), (g7, 34, (iv (fam 16 d1)).toArray), (g6, 39, rz.c.toArray), (g5, 39, q.c.toArray), (g4, 39, p.c.toArray), (g3, 36, (iv (fam 16 dc)).toArray)]) (by kernel_rfl) (by kernel_rfl) t.out.drew (fun u u' T hS hk hT => t.out.fresh u u' T hS hk hT) ?_ ?_
  · refine ⟨?_, ?_, ?_, ?_, ?_, ?_, ?_, ?_, ?_, ?_, ?_, ⟨⟨_, rfl⟩, rfl, zeroN⟩, ?_, trivial⟩
    · exact ⟨⟨_, rfl⟩, fun a' u K0 R hS hr ho h => wp_fieldp (.tmp 4) rfl ((ho 4 (by decide)).trans rfl) (rfa0 g4) (h u (Kept.refl _ _))⟩
    · exact ⟨⟨_, rfl⟩, fun a' u K0 R hS hr ho h => wp_loadp arrN.row (.tmp 36) rfl (hr 0 _ 36 _ rfl rfl rfl ⟨⟨0, .data⟩, by simp, rfl, rfl⟩) (R4.px (hS.s (g4, 39, p.c.toArray) (by simp))) (iv16 _) (h u (Kept.refl _ _))⟩
    · exact ⟨⟨_, rfl⟩, fun a' u K0 R hS hr ho h => wp_fieldp (.tmp 5) rfl ((ho 5 (by decide)).trans rfl) (rfa1 g5) (h u (Kept.refl _ _))⟩
    · exact ⟨⟨_, rfl⟩, fun a' u K0 R hS hr ho h => wp_loadp arrN.row (.tmp 38) rfl (hr 2 _ 38 _ rfl rfl rfl ⟨⟨2, .data⟩, by simp, rfl, rfl⟩) (R4.py (hS.s (g5, 39, q.c.toArray) (by simp))) (iv16 _) (h u (Kept.refl _ _))⟩
    · refine ⟨⟨_, rfl⟩, fun a' u K0 R hS hr ho h => wp_callf rfl enters_rmul (vs := #[nu p.x, nu q.y]) ?_ (c7.out u) h⟩
      have x0 := hr 1 (nu p.x) 37 _ rfl rfl rfl ⟨⟨1, .data⟩, by simp, rfl, rfl⟩
      have x1 := hr 3 (nu q.y) 39 _ rfl rfl rfl ⟨⟨3, .data⟩, by simp, rfl, rfl⟩
      simp [Act.eval] at x0 x1 ⊢
      exact ⟨x0, x1⟩
    · exact ⟨⟨_, rfl⟩, fun a' u K0 R hS hr ho h => wp_fieldp (.tmp 4) rfl ((ho 4 (by decide)).trans rfl) (rfa1 g4) (h u (Kept.refl _ _))⟩
    · exact ⟨⟨_, rfl⟩, fun a' u K0 R hS hr ho h => wp_loadp arrN.row (.tmp 41) rfl (hr 5 _ 41 _ rfl rfl rfl ⟨⟨5, .data⟩, by simp, rfl, rfl⟩) (R4.py (hS.s (g4, 39, p.c.toArray) (by simp))) (iv16 _) (h u (Kept.refl _ _))⟩
    · exact ⟨⟨_, rfl⟩, fun a' u K0 R hS hr ho h => wp_fieldp (.tmp 5) rfl ((ho 5 (by decide)).trans rfl) (rfa0 g5) (h u (Kept.refl _ _))⟩
    · exact ⟨⟨_, rfl⟩, fun a' u K0 R hS hr ho h => wp_loadp arrN.row (.tmp 43) rfl (hr 7 _ 43 _ rfl rfl rfl ⟨⟨7, .data⟩, by simp, rfl, rfl⟩) (R4.px (hS.s (g5, 39, q.c.toArray) (by simp))) (iv16 _) (h u (Kept.refl _ _))⟩
    · refine ⟨⟨_, rfl⟩, fun a' u K0 R hS hr ho h => wp_callf rfl enters_rmul (vs := #[nu p.y, nu q.x]) ?_ (c8.out u) h⟩
      have x0 := hr 6 (nu p.y) 42 _ rfl rfl rfl ⟨⟨6, .data⟩, by simp, rfl, rfl⟩
      have x1 := hr 8 (nu q.x) 44 _ rfl rfl rfl ⟨⟨8, .data⟩, by simp, rfl, rfl⟩
      simp [Act.eval] at x0 x1 ⊢
      exact ⟨x0, x1⟩
    · refine ⟨⟨_, rfl⟩, fun a' u K0 R hS hr ho h => wp_callf rfl enters_radd (vs := #[nu d7, nu d8]) ?_ (c9.out u) h⟩
      have x0 := hr 4 (nu d7) 40 _ rfl rfl rfl ⟨⟨4, .data⟩, by simp, rfl, rfl⟩
      have x1 := hr 9 (nu d8) 45 _ rfl rfl rfl ⟨⟨9, .data⟩, by simp, rfl, rfl⟩
      simp [Act.eval] at x0 x1 ⊢
      exact ⟨x0, x1⟩
    · exact ⟨rfl, ⟨⟨11, .data⟩, by simp, rfl, rfl⟩, ⟨⟨10, .data⟩, by simp, rfl, rfl⟩, _, _, _, _, _, _, _, _, rfl, rfl, rfl, rfl, rfl, rfl, rfl, arrN.row, rfl, rfl, one_nu _⟩
  intro γ wm hS hγ hne hput
  have b10 := hput 12 11 10 _ _ _ rfl rfl
  have hf10 := hγ 11 _ _ rfl
  generalize e10 : γ 11 = g10 at *
  simp [actOf, VK, List.range, List.range.loop, Act.put, e10]
  have N10 := Lib.hid (fun p hp => Nat.ne_of_lt (Nat.lt_of_lt_of_le (t.out.s p hp).lt hf10))
  have L10 := Lib.hid (Nat.le_trans t.out.k.size hf10)
  replace t := Lib.hid (show Pm w [(g10, 34, (iv (fam 16 d9)).toArray), (g9, 34, (iv (fam 16 d6)).toArray), (g8, 34, (iv (fam 16 d2)).toArray), (g7, 34, (iv (fam 16 d1)).toArray), (g6, 39, rz.c.toArray), (g5, 39, q.c.toArray), (g4, 39, p.c.toArray), (g3, 36, (iv (fam 16 dc)).toArray)] wm from (hS).cons b10)
  clear b10 hf10 hput hne hγ hS e10
  go_wp2_with fail
  refine wp_multi (by kernel_rfl) [.val (.pointer (some ⟨g4, 16, none⟩)), .val (nu p.y), .val (.pointer (some ⟨g5, 16, none⟩)), .val (nu q.y), .val (nu d4), .val (.pointer (some ⟨g4, 0, none⟩)), .val (nu p.x), .val (.pointer (some ⟨g5, 0, none⟩)), .val (nu q.x), .val (nu d3), .val (nu d10), .new 34 (nu zd), .put 11 10 (iv (fam 16 d10)).toArray]
    (Pm w [(g10, 34, (iv (fam 16 d9)).toArray), (g9, 34, (iv (fam 16 d6)).toArray), (g8, 34, (iv (fam 16 d2)).toArray), (g7, 34, (iv (fam 16 d1)).toArray), (g6, 39, rz.c.toArray), (g5, 39, q.c.toArray), (g4, 39, p.c.toArray), (g3, 36, (iv (fam 16 dc)).toArray)]) (by kernel_rfl) (by kernel_rfl) t.out.drew (fun u u' T hS hk hT => t.out.fresh u u' T hS hk hT) ?_ ?_
  · refine ⟨?_, ?_, ?_, ?_, ?_, ?_, ?_, ?_, ?_, ?_, ?_, ⟨⟨_, rfl⟩, rfl, zeroN⟩, ?_, trivial⟩
    · exact ⟨⟨_, rfl⟩, fun a' u K0 R hS hr ho h => wp_fieldp (.tmp 4) rfl ((ho 4 (by decide)).trans rfl) (rfa1 g4) (h u (Kept.refl _ _))⟩
    · exact ⟨⟨_, rfl⟩, fun a' u K0 R hS hr ho h => wp_loadp arrN.row (.tmp 47) rfl (hr 0 _ 47 _ rfl rfl rfl ⟨⟨0, .data⟩, by simp, rfl, rfl⟩) (R4.py (hS.s (g4, 39, p.c.toArray) (by simp))) (iv16 _) (h u (Kept.refl _ _))⟩
    · exact ⟨⟨_, rfl⟩, fun a' u K0 R hS hr ho h => wp_fieldp (.tmp 5) rfl ((ho 5 (by decide)).trans rfl) (rfa1 g5) (h u (Kept.refl _ _))⟩
    · exact ⟨⟨_, rfl⟩, fun a' u K0 R hS hr ho h => wp_loadp arrN.row (.tmp 49) rfl (hr 2 _ 49 _ rfl rfl rfl ⟨⟨2, .data⟩, by simp, rfl, rfl⟩) (R4.py (hS.s (g5, 39, q.c.toArray) (by simp))) (iv16 _) (h u (Kept.refl _ _))⟩
    · refine ⟨⟨_, rfl⟩, fun a' u K0 R hS hr ho h => wp_callf rfl enters_rmul (vs := #[nu p.y, nu q.y]) ?_ (c4.out u) h⟩
      have x0 := hr 1 (nu p.y) 48 _ rfl rfl rfl ⟨⟨1, .data⟩, by simp, rfl, rfl⟩
      have x1 := hr 3 (nu q.y) 50 _ rfl rfl rfl ⟨⟨3, .data⟩, by simp, rfl, rfl⟩
      simp [Act.eval] at x0 x1 ⊢
      exact ⟨x0, x1⟩
    · exact ⟨⟨_, rfl⟩, fun a' u K0 R hS hr ho h => wp_fieldp (.tmp 4) rfl ((ho 4 (by decide)).trans rfl) (rfa0 g4) (h u (Kept.refl _ _))⟩
    · exact ⟨⟨_, rfl⟩, fun a' u K0 R hS hr ho h => wp_loadp arrN.row (.tmp 52) rfl (hr 5 _ 52 _ rfl rfl rfl ⟨⟨5, .data⟩, by simp, rfl, rfl⟩) (R4.px (hS.s (g4, 39, p.c.toArray) (by simp))) (iv16 _) (h u (Kept.refl _ _))⟩
    · exact ⟨⟨_, rfl⟩, fun a' u K0 R hS hr ho h => wp_fieldp (.tmp 5) rfl ((ho 5 (by decide)).trans rfl) (rfa0 g5) (h u (Kept.refl _ _))⟩
    · exact ⟨⟨_, rfl⟩, fun a' u K0 R hS hr ho h => wp_loadp arrN.row (.tmp 54) rfl (hr 7 _ 54 _ rfl rfl rfl ⟨⟨7, .data⟩, by simp, rfl, rfl⟩) (R4.px (hS.s (g5, 39, q.c.toArray) (by simp))) (iv16 _) (h u (Kept.refl _ _))⟩
    · refine ⟨⟨_, rfl⟩, fun a' u K0 R hS hr ho h => wp_callf rfl enters_rmul (vs := #[nu p.x, nu q.x]) ?_ (c3.out u) h⟩
      have x0 := hr 6 (nu p.x) 53 _ rfl rfl rfl ⟨⟨6, .data⟩, by simp, rfl, rfl⟩
      have x1 := hr 8 (nu q.x) 55 _ rfl rfl rfl ⟨⟨8, .data⟩, by simp, rfl, rfl⟩
      simp [Act.eval] at x0 x1 ⊢
      exact ⟨x0, x1⟩
    · refine ⟨⟨_, rfl⟩, fun a' u K0 R hS hr ho h => wp_callf rfl enters_radd (vs := #[nu d4, nu d3]) ?_ (c10.out u) h⟩
      have x0 := hr 4 (nu d4) 51 _ rfl rfl rfl ⟨⟨4, .data⟩, by simp, rfl, rfl⟩
      have x1 := hr 9 (nu d3) 56 _ rfl rfl rfl ⟨⟨9, .data⟩, by simp, rfl, rfl⟩
      simp [Act.eval] at x0 x1 ⊢
      exact ⟨x0, x1⟩
    · exact ⟨rfl, ⟨⟨11, .data⟩, by simp, rfl, rfl⟩, ⟨⟨10, .data⟩, by simp, rfl, rfl⟩, _, _, _, _, _, _, _, _, rfl, rfl, rfl, rfl, rfl, rfl, rfl, arrN.row, rfl, rfl, one_nu _⟩
  intro γ wm hS hγ hne hput
  have b11 := hput 12 11 10 _ _ _ rfl rfl
  have hf11 := hγ 11 _ _ rfl
  generalize e11 : γ 11 = g11 at *
  simp [actOf, VK, List.range, List.range.loop, Act.put, e11]
  have N11 := Lib.hid (fun p hp => Nat.ne_of_lt (Nat.lt_of_lt_of_le (t.out.s p hp).lt hf11))
  have L11 := Lib.hid (Nat.le_trans t.out.k.size hf11)
  replace t := Lib.hid (show Pm w [(g11, 34, (iv (fam 16 d10)).toArray), (g10, 34, (iv (fam 16 d9)).toArray), (g9, 34, (iv (fam 16 d6)).toArray), (g8, 34, (iv (fam 16 d2)).toArray), (g7, 34, (iv (fam 16 d1)).toArray), (g6, 39, rz.c.toArray), (g5, 39, q.c.toArray), (g4, 39, p.c.toArray), (g3, 36, (iv (fam 16 dc)).toArray)] wm from (hS).cons b11)
  clear b11 hf11 hput hne hγ hS e11
  go_wp2_with fail
  refine wp_multi (by kernel_rfl) [.val (nu d2), .val (nu d6), .val (nu d11), .val (nu d2), .val (nu d6), .val (nu d12), .new 34 (nu zd), .new 34 (nu zd), .put 6 2 (iv (fam 16 d11)).toArray, .put 7 5 (iv (fam 16 d12)).toArray]
    (Pm w [(g11, 34, (iv (fam 16 d10)).toArray), (g10, 34, (iv (fam 16 d9)).toArray), (g9, 34, (iv (fam 16 d6)).toArray), (g8, 34, (iv (fam 16 d2)).toArray), (g7, 34, (iv (fam 16 d1)).toArray), (g6, 39, rz.c.toArray), (g5, 39, q.c.toArray), (g4, 39, p.c.toArray), (g3, 36, (iv (fam 16 dc)).toArray)]) (by kernel_rfl) (by kernel_rfl) t.out.drew (fun u u' T hS hk hT => t.out.fresh u u' T hS hk hT) ?_ ?_
  · refine ⟨?_, ?_, ?_, ?_, ?_, ?_, ⟨⟨_, rfl⟩, rfl, zeroN⟩, ⟨⟨_, rfl⟩, rfl, zeroN⟩, ?_, ?_, trivial⟩
    · exact ⟨⟨_, rfl⟩, fun a' u K0 R hS hr ho h => wp_loadr arrN.row (.tmp 8) rfl ((ho 8 (by decide)).trans rfl) (hS.s (g8, 34, (iv (fam 16 d2)).toArray) (by simp)) rfl (h u (Kept.refl _ _))⟩
    · exact ⟨⟨_, rfl⟩, fun a' u K0 R hS hr ho h => wp_loadr arrN.row (.tmp 9) rfl ((ho 9 (by decide)).trans rfl) (hS.s (g9, 34, (iv (fam 16 d6)).toArray) (by simp)) rfl (h u (Kept.refl _ _))⟩
    · refine ⟨⟨_, rfl⟩, fun a' u K0 R hS hr ho h => wp_callf rfl enters_radd (vs := #[nu d2, nu d6]) ?_ (c11.out u) h⟩
      have x0 := hr 0 (nu d2) 58 _ rfl rfl rfl ⟨⟨0, .data⟩, by simp, rfl, rfl⟩
      have x1 := hr 1 (nu d6) 59 _ rfl rfl rfl ⟨⟨1, .data⟩, by simp, rfl, rfl⟩
      simp [Act.eval] at x0 x1 ⊢
      exact ⟨x0, x1⟩
    · exact ⟨⟨_, rfl⟩, fun a' u K0 R hS hr ho h => wp_loadr arrN.row (.tmp 8) rfl ((ho 8 (by decide)).trans rfl) (hS.s (g8, 34, (iv (fam 16 d2)).toArray) (by simp)) rfl (h u (Kept.refl _ _))⟩
    · exact ⟨⟨_, rfl⟩, fun a' u K0 R hS hr ho h => wp_loadr arrN.row (.tmp 9) rfl ((ho 9 (by decide)).trans rfl) (hS.s (g9, 34, (iv (fam 16 d6)).toArray) (by simp)) rfl (h u (Kept.refl _ _))⟩
    · refine ⟨⟨_, rfl⟩, fun a' u K0 R hS hr ho h => wp_callf rfl enters_rsub (vs := #[nu d2, nu d6]) ?_ (c12.out u) h⟩
      have x0 := hr 3 (nu d2) 61 _ rfl rfl rfl ⟨⟨3, .data⟩, by simp, rfl, rfl⟩
      have x1 := hr 4 (nu d6) 62 _ rfl rfl rfl ⟨⟨4, .data⟩, by simp, rfl, rfl⟩
      simp [Act.eval] at x0 x1 ⊢
      exact ⟨x0, x1⟩
    · exact ⟨rfl, ⟨⟨6, .data⟩, by simp, rfl, rfl⟩, ⟨⟨2, .data⟩, by simp, rfl, rfl⟩, _, _, _, _, _, _, _, _, rfl, rfl, rfl, rfl, rfl, rfl, rfl, arrN.row, rfl, rfl, one_nu _⟩
    · exact ⟨rfl, ⟨⟨7, .data⟩, by simp, rfl, rfl⟩, ⟨⟨5, .data⟩, by simp, rfl, rfl⟩, _, _, _, _, _, _, _, _, rfl, rfl, rfl, rfl, rfl, rfl, rfl, arrN.row, rfl, rfl, one_nu _⟩
  intro γ wm hS hγ hne hput
  have b12 := hput 8 6 2 _ _ _ rfl rfl
  have b13 := hput 9 7 5 _ _ _ rfl rfl
  have hf12 := hγ 6 _ _ rfl
  have hf13 := hγ 7 _ _ rfl
  generalize e12 : γ 6 = g12 at *
  generalize e13 : γ 7 = g13 at *
  simp [actOf, VK, List.range, List.range.loop, Act.put, e12, e13]
  replace t := Lib.hid (show Pm w [(g13, 34, (iv (fam 16 d12)).toArray), (g12, 34, (iv (fam 16 d11)).toArray), (g11, 34, (iv (fam 16 d10)).toArray), (g10, 34, (iv (fam 16 d9)).toArray), (g9, 34, (iv (fam 16 d6)).toArray), (g8, 34, (iv (fam 16 d2)).toArray), (g7, 34, (iv (fam 16 d1)).toArray), (g6, 39, rz.c.toArray), (g5, 39, q.c.toArray), (g4, 39, p.c.toArray), (g3, 36, (iv (fam 16 dc)).toArray)] wm from ((hS).cons b12).cons b13)
  clear b12 hf12 b13 hf13 hput hne hγ hS e12 e13
  go_wp2_with fail
  refine wp_last (by kernel_rfl) [nu d9, nu d1, nu d13, nu d12, nu d14, nu d10, nu d1, nu d15, nu d11, nu d16, nu d11, nu d12, nu d17, R18.v]
    (Pm w [(g13, 34, (iv (fam 16 d12)).toArray), (g12, 34, (iv (fam 16 d11)).toArray), (g11, 34, (iv (fam 16 d10)).toArray), (g10, 34, (iv (fam 16 d9)).toArray), (g9, 34, (iv (fam 16 d6)).toArray), (g8, 34, (iv (fam 16 d2)).toArray), (g7, 34, (iv (fam 16 d1)).toArray), (g6, 39, rz.c.toArray), (g5, 39, q.c.toArray), (g4, 39, p.c.toArray), (g3, 36, (iv (fam 16 dc)).toArray)]) (by kernel_rfl) rfl rfl (by kernel_rfl) t.out.drew (fun u u' h hk => h.kept hk) ?_ ?_
  · refine ⟨?_, ?_, ?_, ?_, ?_, ?_, ?_, ?_, ?_, ?_, ?_, ?_, ?_, ?_, trivial⟩
    · exact fun a' u K0 R hS hr ho h => wp_loadr arrN.row (.tmp 10) rfl ((ho 10 (by decide)).trans rfl) (hS.s (g10, 34, (iv (fam 16 d9)).toArray) (by simp)) rfl (h u (Kept.refl _ _))
    · exact fun a' u K0 R hS hr ho h => wp_loadr arrN.row (.tmp 7) rfl ((ho 7 (by decide)).trans rfl) (hS.s (g7, 34, (iv (fam 16 d1)).toArray) (by simp)) rfl (h u (Kept.refl _ _))
    · refine fun a' u K0 R hS hr ho h => wp_callf rfl enters_rmul (vs := #[nu d9, nu d1]) ?_ (c13.out u) h
      have x0 := hr 0 (nu d9) 64 _ rfl rfl rfl ⟨⟨0, .data⟩, by simp, rfl, rfl⟩
      have x1 := hr 1 (nu d1) 65 _ rfl rfl rfl ⟨⟨1, .data⟩, by simp, rfl, rfl⟩
      simp [Act.eval] at x0 x1 ⊢
      exact ⟨x0, x1⟩
    · exact fun a' u K0 R hS hr ho h => wp_loadr arrN.row (.tmp 13) rfl ((ho 13 (by decide)).trans rfl) (hS.s (g13, 34, (iv (fam 16 d12)).toArray) (by simp)) rfl (h u (Kept.refl _ _))
    · refine fun a' u K0 R hS hr ho h => wp_callf rfl enters_rmul (vs := #[nu d13, nu d12]) ?_ (c14.out u) h
      have x0 := hr 2 (nu d13) 66 _ rfl rfl rfl ⟨⟨2, .data⟩, by simp, rfl, rfl⟩
      have x1 := hr 3 (nu d12) 67 _ rfl rfl rfl ⟨⟨3, .data⟩, by simp, rfl, rfl⟩
      simp [Act.eval] at x0 x1 ⊢
      exact ⟨x0, x1⟩
    · exact fun a' u K0 R hS hr ho h => wp_loadr arrN.row (.tmp 11) rfl ((ho 11 (by decide)).trans rfl) (hS.s (g11, 34, (iv (fam 16 d10)).toArray) (by simp)) rfl (h u (Kept.refl _ _))
    · exact fun a' u K0 R hS hr ho h => wp_loadr arrN.row (.tmp 7) rfl ((ho 7 (by decide)).trans rfl) (hS.s (g7, 34, (iv (fam 16 d1)).toArray) (by simp)) rfl (h u (Kept.refl _ _))
    · refine fun a' u K0 R hS hr ho h => wp_callf rfl enters_rmul (vs := #[nu d10, nu d1]) ?_ (c15.out u) h
      have x0 := hr 5 (nu d10) 69 _ rfl rfl rfl ⟨⟨5, .data⟩, by simp, rfl, rfl⟩
      have x1 := hr 6 (nu d1) 70 _ rfl rfl rfl ⟨⟨6, .data⟩, by simp, rfl, rfl⟩
      simp [Act.eval] at x0 x1 ⊢
      exact ⟨x0, x1⟩
    · exact fun a' u K0 R hS hr ho h => wp_loadr arrN.row (.tmp 12) rfl ((ho 12 (by decide)).trans rfl) (hS.s (g12, 34, (iv (fam 16 d11)).toArray) (by simp)) rfl (h u (Kept.refl _ _))
    · refine fun a' u K0 R hS hr ho h => wp_callf rfl enters_rmul (vs := #[nu d15, nu d11]) ?_ (c16.out u) h
      have x0 := hr 7 (nu d15) 71 _ rfl rfl rfl ⟨⟨7, .data⟩, by simp, rfl, rfl⟩
      have x1 := hr 8 (nu d11) 72 _ rfl rfl rfl ⟨⟨8, .data⟩, by simp, rfl, rfl⟩
      simp [Act.eval] at x0 x1 ⊢
      exact ⟨x0, x1⟩
    · exact fun a' u K0 R hS hr ho h => wp_loadr arrN.row (.tmp 12) rfl ((ho 12 (by decide)).trans rfl) (hS.s (g12, 34, (iv (fam 16 d11)).toArray) (by simp)) rfl (h u (Kept.refl _ _))
    · exact fun a' u K0 R hS hr ho h => wp_loadr arrN.row (.tmp 13) rfl ((ho 13 (by decide)).trans rfl) (hS.s (g13, 34, (iv (fam 16 d12)).toArray) (by simp)) rfl (h u (Kept.refl _ _))
    · refine fun a' u K0 R hS hr ho h => wp_callf rfl enters_rmul (vs := #[nu d11, nu d12]) ?_ (c17.out u) h
      have x0 := hr 10 (nu d11) 74 _ rfl rfl rfl ⟨⟨10, .data⟩, by simp, rfl, rfl⟩
      have x1 := hr 11 (nu d12) 75 _ rfl rfl rfl ⟨⟨11, .data⟩, by simp, rfl, rfl⟩
      simp [Act.eval] at x0 x1 ⊢
      exact ⟨x0, x1⟩
    · refine fun a' u K0 R hS hr ho h => ?_
      have x0 := hr 4 (nu d14) 68 _ rfl rfl rfl ⟨⟨4, .data⟩, by simp, rfl, rfl⟩
      have x1 := hr 9 (nu d16) 73 _ rfl rfl rfl ⟨⟨9, .data⟩, by simp, rfl, rfl⟩
      have x2 := hr 12 (nu d17) 76 _ rfl rfl rfl ⟨⟨12, .data⟩, by simp, rfl, rfl⟩
      simp at x0 x1 x2
      exact wp_bld rfl (by simp [Act.eval, x0, x1, x2]) (bu18.out) (h u (Kept.refl _ _))
  intro ul hSl
  simp [actOf, List.range, List.range.loop, Act.put]
  refine wp_storer structRt (.tmp 6) (.tmp 77) rfl rfl rfl (hSl.s (g6, 39, rz.c.toArray) (by simp)) (R4.size rz) (R4.size R18) (R4.one R18) ?_
  simp [Act.put]
  have bl := (hSl.s (g6, 39, rz.c.toArray) (by simp)).setRow_ R18.c.toArray
  have kl : Kept [g6] ul (ul.setRow g6 R18.c.toArray) := (Kept.refl [g6] ul).setRow (.inl (by simp)) _
  have bR := Lib.hid bl
  have kR := Lib.hid kl
  replace t := Lib.hid hSl
  clear bl kl hSl
  go_wp2_with fail
  exact ret_row structRt rfl rfl bR.out (R4.size _) rfl ⟨rfl, t.out.k.then1 kR.out L6.out⟩
abbrev RnegC (p r : R4) : Prop := ∀ W, Calls Try.prog 27 #[p.v] W fun e w' => e = .returned r.v ∧ Kept [] W w'
set_option maxRecDepth 100000 in
set_option maxHeartbeats 4000000 in
theorem rneg_r {p : R4} {P : Ed.Pt} (hp : Rr p P) : ∃ r, RnegC p r ∧ Rr r P.neg := by
  obtain ⟨pX, pY, pZ, px, py, pz, p0, p1, p2⟩ := hp.e
  obtain ⟨d1, c1, h1⟩ := of_d 0 (z := 0) (by omega) rfl
  obtain ⟨d2, c2, h2⟩ := rsub_d h1 px (by omega) (by omega)
  obtain ⟨d3, c3, h3⟩ := of_d 1 (z := 1) (by omega) rfl
  obtain ⟨d4, c4, h4⟩ := rmul_d h2 h3 (by omega) (by omega)
  obtain ⟨R5, hR5⟩ : ∃ R : R4, R = (R4.mk d4 p.y p.z zd) := ⟨_, rfl⟩
  have bu5 : Try.prog.built 39 [(0, nu d4), (1, nu p.y), (2, nu p.z)] = some R5.c.toArray := by rw [hR5]; exact built_r3 _ _ _
  have hRr : Rr R5 P.neg := by
    rw [hR5]
    exact ⟨_, _, _, h4, py, pz, p0, by rw [pneg_x, ← p1]; exact rneg_x, by rw [pneg_y]; exact p2⟩
  clear hR5
  refine ⟨R5, ?_, hRr⟩
  clear hRr
  intro w
  replace c1 := Lib.hid c1
  replace c2 := Lib.hid c2
  replace c3 := Lib.hid c3
  replace c4 := Lib.hid c4
  replace bu5 := Lib.hid bu5
  clear hp px py pz p0 p1 p2 h1 h2 h3 h4
  go_enter Try.func27, Try.ntmps27
  have t := Lib.hid (Pm.none w)
  go_wp2_with (first
    | ((with_reducible refine wpl_box (o := ⟨some 1, _, _, _, _, _⟩) (v := p.v) rfl (.tmp 0) rfl rfl ?_); intro g1 w1 m1; have N1 := Lib.hid (fun p hp => m1.ne (t.out.s p hp).lt); have L1 := Lib.hid (Nat.le_trans t.out.k.size m1.le); replace t := Lib.hid ((t.out.kept m1.kept).cons (show Blk w1 g1 39 p.c.toArray from m1.blk)); clear m1)
    | ((with_reducible refine wpl_new (o := ⟨some 2, _, _, _, _, _⟩) rfl rfl zeroRt ?_); intro g2 w2 m2; have N2 := Lib.hid (fun p hp => m2.ne (t.out.s p hp).lt); have L2 := Lib.hid (Nat.le_trans t.out.k.size m2.le); replace t := Lib.hid ((t.out.kept m2.kept).cons (show Blk w2 g2 39 rz.c.toArray from m2.blk)); clear m2))
  refine wp_last (by kernel_rfl) [nu d1, .pointer (some ⟨g1, 0, none⟩), nu p.x, nu d2, nu d3, nu d4, .pointer (some ⟨g1, 16, none⟩), nu p.y, .pointer (some ⟨g1, 32, none⟩), nu p.z, R5.v]
    (Pm w [(g2, 39, rz.c.toArray), (g1, 39, p.c.toArray)]) (by kernel_rfl) rfl rfl (by kernel_rfl) t.out.drew (fun u u' h hk => h.kept hk) ?_ ?_
  · refine ⟨?_, ?_, ?_, ?_, ?_, ?_, ?_, ?_, ?_, ?_, ?_, trivial⟩
    · refine fun a' u K0 R hS hr ho h => wp_callf rfl enters_rof (vs := #[.int .u64 0]) ?_ (c1.out u) h
      simp [Act.eval]
    · exact fun a' u K0 R hS hr ho h => wp_fieldp (.tmp 1) rfl ((ho 1 (by decide)).trans rfl) (rfa0 g1) (h u (Kept.refl _ _))
    · exact fun a' u K0 R hS hr ho h => wp_loadp arrN.row (.tmp 4) rfl (hr 1 _ 4 _ rfl rfl rfl ⟨⟨1, .data⟩, by simp, rfl, rfl⟩) (R4.px (hS.s (g1, 39, p.c.toArray) (by simp))) (iv16 _) (h u (Kept.refl _ _))
    · refine fun a' u K0 R hS hr ho h => wp_callf rfl enters_rsub (vs := #[nu d1, nu p.x]) ?_ (c2.out u) h
      have x0 := hr 0 (nu d1) 3 _ rfl rfl rfl ⟨⟨0, .data⟩, by simp, rfl, rfl⟩
      have x1 := hr 2 (nu p.x) 5 _ rfl rfl rfl ⟨⟨2, .data⟩, by simp, rfl, rfl⟩
      simp [Act.eval] at x0 x1 ⊢
      exact ⟨x0, x1⟩
    · refine fun a' u K0 R hS hr ho h => wp_callf rfl enters_rof (vs := #[.int .u64 1]) ?_ (c3.out u) h
      simp [Act.eval]
    · refine fun a' u K0 R hS hr ho h => wp_callf rfl enters_rmul (vs := #[nu d2, nu d3]) ?_ (c4.out u) h
      have x0 := hr 3 (nu d2) 6 _ rfl rfl rfl ⟨⟨3, .data⟩, by simp, rfl, rfl⟩
      have x1 := hr 4 (nu d3) 7 _ rfl rfl rfl ⟨⟨4, .data⟩, by simp, rfl, rfl⟩
      simp [Act.eval] at x0 x1 ⊢
      exact ⟨x0, x1⟩
    · exact fun a' u K0 R hS hr ho h => wp_fieldp (.tmp 1) rfl ((ho 1 (by decide)).trans rfl) (rfa1 g1) (h u (Kept.refl _ _))
    · exact fun a' u K0 R hS hr ho h => wp_loadp arrN.row (.tmp 9) rfl (hr 6 _ 9 _ rfl rfl rfl ⟨⟨6, .data⟩, by simp, rfl, rfl⟩) (R4.py (hS.s (g1, 39, p.c.toArray) (by simp))) (iv16 _) (h u (Kept.refl _ _))
    · exact fun a' u K0 R hS hr ho h => wp_fieldp (.tmp 1) rfl ((ho 1 (by decide)).trans rfl) (rfa2 g1) (h u (Kept.refl _ _))
    · exact fun a' u K0 R hS hr ho h => wp_loadp arrN.row (.tmp 11) rfl (hr 8 _ 11 _ rfl rfl rfl ⟨⟨8, .data⟩, by simp, rfl, rfl⟩) (R4.pz (hS.s (g1, 39, p.c.toArray) (by simp))) (iv16 _) (h u (Kept.refl _ _))
    · refine fun a' u K0 R hS hr ho h => ?_
      have x0 := hr 5 (nu d4) 8 _ rfl rfl rfl ⟨⟨5, .data⟩, by simp, rfl, rfl⟩
      have x1 := hr 7 (nu p.y) 10 _ rfl rfl rfl ⟨⟨7, .data⟩, by simp, rfl, rfl⟩
      have x2 := hr 9 (nu p.z) 12 _ rfl rfl rfl ⟨⟨9, .data⟩, by simp, rfl, rfl⟩
      simp at x0 x1 x2
      exact wp_bld rfl (by simp [Act.eval, x0, x1, x2]) (bu5.out) (h u (Kept.refl _ _))
  intro ul hSl
  simp [actOf, List.range, List.range.loop, Act.put]
  refine wp_storer structRt (.tmp 2) (.tmp 13) rfl rfl rfl (hSl.s (g2, 39, rz.c.toArray) (by simp)) (R4.size rz) (R4.size R5) (R4.one R5) ?_
  simp [Act.put]
  have bl := (hSl.s (g2, 39, rz.c.toArray) (by simp)).setRow_ R5.c.toArray
  have kl : Kept [g2] ul (ul.setRow g2 R5.c.toArray) := (Kept.refl [g2] ul).setRow (.inl (by simp)) _
  replace t := Lib.hid (hSl.again L2.out N2.out bl kl)
  clear bl kl hSl
  go_wp2_with fail
  exact ret_row structRt rfl rfl (t.out.s (g2, 39, R5.c.toArray) (by simp)) (R4.size _) rfl ⟨rfl, t.out.k⟩
end Go.Proofs.Ytkflljjcgihaoaa
