/-
  Field's laws: which quotients have roots (FieldRoots).
-/
import Derived.Test.YthmpdhegodmjjaaRf11
namespace Go.Proofs.Ythmpdhegodmjjaa
open Go.RowKit Go.Mem Go.Txt

theorem roots_put {w0 u u1 u2 : World} {g2 g3 g5 g6 g7 : Nat} {a b : List UInt8} {X Y Z : Nat → Nat} {ty : TypeId} {cs : Array Value} (h : Mm w0 [(g3, b), (g2, a)] [(g5, X), (g6, Y)] [] u) (m : Made u u1 g7 ty cs) (b7 : Blk u2 g7 27 (uv (fam 5 Z)).toArray) (k : Kept [g7] u1 u2) : Mm w0 [(g3, b), (g2, a)] [(g5, X), (g6, Y), (g7, Z)] [] u2 := by
  have h1 := h.kept m.kept
  have K : Mm w0 [(g3, b), (g2, a)] [(g5, X), (g6, Y)] [] u2 := ⟨fun p hp => (h1.b p hp).kept k (by simpa using m.ne (h.b p hp).lt), fun p hp => (h1.e p hp).kept k (by simpa using m.ne (h.e p hp).lt), fun p hp => absurd hp (by simp), h1.k.then1 k (Nat.le_trans h.k.size m.le)⟩
  refine ⟨K.b, fun p hp => ?_, K.n, K.k⟩
  rcases List.mem_cons.1 hp with e | hp
  · exact K.e p (by rw [e]; simp)
  · rcases List.mem_cons.1 hp with e | hp
    · exact K.e p (by rw [e]; simp)
    · rw [List.mem_singleton.1 hp]; exact b7
theorem ok_euler {u v U V : Nat} (hv : v % PP ≠ 0) (hu : u = U % PP) (hv2 : v = V % PP) : okM u v = sqB U V := by
  rw [okM_eq u v hv]
  have e : wM u v ^ EE % PP = (U * V ^ IE) ^ EE % PP := by
    refine mp ?_ _
    unfold wM
    rw [mlM_mod]
    refine mm (by rw [hu, Nat.mod_mod]) ?_
    rw [invM_eq, hv2]
    exact mp (Nat.mod_mod _ _) _
  unfold sqB
  rw [e]

set_option maxRecDepth 100000 in
set_option maxHeartbeats 3200000 in
theorem roots_walk (a b : List UInt8) (w : World) (ha : a.length = 32) (hbl : b.length = 32) :
    Calls Try.prog 6 #[ab a, ab b] w fun e w' => e = .returned (.bool true) ∧ Kept [] w w' := by
  obtain ⟨l0, hl0, z0, u0⟩ := lit_zero
  replace z0 := Lib.hid z0
  replace u0 := Lib.hid u0
  have iX := Lib.hid (in_any a ha)
  have iY := Lib.hid (in_any b hbl)
  have rX := in_rep a
  have rY := in_rep b
  have hD := dr_dgN (leV a % T255) (Nat.lt_trans (Nat.mod_lt _ (by decide +kernel)) (by decide +kernel))
  have hE := dr_dgN (leV b % T255) (Nat.lt_trans (Nat.mod_lt _ (by decide +kernel)) (by decide +kernel))
  have cD := Lib.hid (load_any a ha)
  have cE := Lib.hid (load_any b hbl)
  have cQ := Lib.hid (fun W => square_any hD hE W)
  have hq := fun h => ok_euler (u := inV a) (v := inV b) (U := leV a % T255) (V := leV b % T255) h rfl rfl
  clear hD hE
  generalize dgN (leV a % T255) = D at *
  generalize dgN (leV b % T255) = E at *
  generalize sqB (leV a % T255) (leV b % T255) = q at *
  generalize inF a = X, inF b = Y, inV a = x, inV b = y at *
  have hl := Lib.hid (And.intro (show (bv a).length = 32 by simp [ha]) (show (bv b).length = 32 by simp [hbl]))
  have chY := Lib.hid (hb_c rY)
  have rN : Rep nought 0 := ⟨nought_lim, by unfold fv nought; simp⟩
  have chN := Lib.hid (hb_c rN)
  have QN : (hb nought == l0) = true := (z0.out _ _ rN).trans (decide_eq_true (Nat.zero_mod _))
  have qN := eql_run QN (hb_len _) hl0
  generalize hnn : nought = NN at *
  replace hnn := Lib.hid hnn
  clear ha hbl QN
  by_cases hy : y % PP = 0
  · have Q24 : (hb Y == l0) = true := (z0.out _ _ rY).trans (decide_eq_true hy)
    have q24 := eql_run Q24 (hb_len _) hl0
    have hok : okM x y = false := by unfold okM; rw [decide_eq_false (fun h => h hy)]; rfl
    have cR := Lib.hid (fun w => root_no rX rY hok w)
    rw [hnn.out] at cR
    clear hq hok hy Q24 rX rY rN
    go_enter Try.func6, Try.ntmps6
    go_wp2_with (first
      | ((with_reducible refine wpl_box (o := ⟨some 2, _, _, _, _, _⟩) (v := ab a) rfl (.tmp 0) rfl rfl ?_); intro g2 w1 m1)
      | ((with_reducible refine wpl_box (o := ⟨some 3, _, _, _, _, _⟩) (v := ab b) rfl (.tmp 1) rfl rfl ?_); intro g3 w2 m2)
      | (go_at_call 11; refine (first_true _).mono ?_; rintro e w5 ⟨rfl, kk4⟩))
    have t := Lib.hid (show Mm w [(g3, b), (g2, a)] [] [] w5 from ((((Mm.none w).kept m1.kept).bcons m1.blk).kept m2.kept |>.bcons m2.blk).kept kk4)
    clear m1 m2 kk4
    refine wp_multi (by kernel_rfl) [.val (ab a), .val (el X), .val (ab b), .val (el Y), .new 27 (el nought), .new 27 (el nought), .put 4 1 (uv (fam 5 X)).toArray, .put 5 3 (uv (fam 5 Y)).toArray]
      (Mm w [(g3, b), (g2, a)] [] []) (by kernel_rfl) (by kernel_rfl) t.out.drew (fun u u' T hS hk hT => ?_) ?_ ?_
    · exact t.out.fresh u u' T hS hk hT
    · refine ⟨?_, ?_, ?_, ?_, ⟨⟨_, rfl⟩, rfl, zeroEl⟩, ⟨⟨_, rfl⟩, rfl, zeroEl⟩, ?_, ?_, trivial⟩
      · refine ⟨⟨_, rfl⟩, fun a' u K0 R hS hr ho h => ?_⟩
        exact wp_loadr arrB.row (.tmp 2) rfl ((ho 2 (by decide)).trans rfl) (hS.b (g2, a) (by simp)) hl.out.1 (h u (Kept.refl _ _))
      · refine ⟨⟨_, rfl⟩, fun a' u K0 R hS hr ho h => ?_⟩
        refine wp_callf rfl enters_in (vs := #[ab a]) ?_ (iX.out u) h
        have := hr 0 (ab a) 11 _ rfl rfl rfl ⟨⟨0, .data⟩, by simp, rfl, rfl⟩
        simpa [Act.eval] using this
      · refine ⟨⟨_, rfl⟩, fun a' u K0 R hS hr ho h => ?_⟩
        exact wp_loadr arrB.row (.tmp 3) rfl ((ho 3 (by decide)).trans rfl) (hS.b (g3, b) (by simp)) hl.out.2 (h u (Kept.refl _ _))
      · refine ⟨⟨_, rfl⟩, fun a' u K0 R hS hr ho h => ?_⟩
        refine wp_callf rfl enters_in (vs := #[ab b]) ?_ (iY.out u) h
        have := hr 2 (ab b) 13 _ rfl rfl rfl ⟨⟨2, .data⟩, by simp, rfl, rfl⟩
        simpa [Act.eval] using this
      · exact ⟨rfl, ⟨⟨4, .data⟩, by simp, rfl, rfl⟩, ⟨⟨1, .data⟩, by simp, rfl, rfl⟩, _, _, _, _, _, _, _, _, rfl, rfl, rfl, rfl, rfl, rfl, rfl, structEl, rfl, rfl, one_el _⟩
      · exact ⟨rfl, ⟨⟨5, .data⟩, by simp, rfl, rfl⟩, ⟨⟨3, .data⟩, by simp, rfl, rfl⟩, _, _, _, _, _, _, _, _, rfl, rfl, rfl, rfl, rfl, rfl, rfl, structEl, rfl, rfl, one_el _⟩
    · intro γ w6 hS hγ hne hput
      have b5 := hput 6 4 1 _ _ _ rfl rfl
      have b6 := hput 7 5 3 _ _ _ rfl rfl
      generalize e5 : γ 4 = g5 at *
      generalize e6 : γ 5 = g6 at *
      simp [actOf, VK, List.range, List.range.loop, Act.put, e5, e6]
      replace t := Lib.hid (show Mm w [(g3, b), (g2, a)] [(g5, X), (g6, Y)] [] w6 from ((hS).econs b6).econs b5)
      clear b5 b6 hput hne hγ hS e5 e6
      go_wp2_with (first
        | (with_reducible refine wpl_load_row (o := ⟨some 16, _, _, _, _, _⟩) structEl rfl (.tmp 5) rfl rfl (t.out.e (g5, X) (by simp)) rfl ?_)
        | (with_reducible refine wpl_load_row (o := ⟨some 17, _, _, _, _, _⟩) structEl rfl (.tmp 6) rfl rfl (t.out.e (g6, Y) (by simp)) rfl ?_)
        | (go_at_call 26; (with_reducible refine (cR.out _).mono ?_); rintro e x1 ⟨rfl, kk⟩; have t := Lib.hid (t.out.kept kk); clear kk)
        | ((with_reducible refine wpl_new (o := ⟨some 7, _, _, _, _, _⟩) rfl rfl zeroEl ?_); intro g7 x7 m7)
        | ((with_reducible refine wpl_store_row (o := ⟨none, .store 27 (.tmp 7) (.tmp 19), _, _, _, _⟩) structEl rfl (.tmp 7) (.tmp 19) rfl rfl rfl m7.blk rfl rfl (one_el _) ?_); intro v7 b7 k7; have t9 := Lib.hid (show Mm w [(g3, b), (g2, a)] [(g5, X), (g6, Y), (g7, NN)] [] v7 from roots_put t.out m7 b7 k7); clear t m7 b7 k7; have t := t9; clear t9)
        | (with_reducible refine wpl_load_row (o := ⟨some 21, _, _, _, _, _⟩) structEl rfl (.tmp 6) rfl rfl (t.out.e (g6, Y) (by simp)) rfl ?_)
        | (go_at_call 14; (with_reducible refine (chY.out _).mono ?_); rintro e w7 ⟨rfl, kk⟩; have t := Lib.hid (t.out.kept kk); clear kk)
        | (with_reducible refine wpl_build0 (o := ⟨some 23, _, _, _, _, _⟩) rfl rfl u0.out ?_)
        | (with_reducible refine wpl_load_row (o := ⟨some 28, _, _, _, _, _⟩) structEl rfl (.tmp 7) rfl rfl (t.out.e (g7, NN) (by simp)) rfl ?_)
        | (go_at_call 14; (with_reducible refine (chN.out _).mono ?_); rintro e w7 ⟨rfl, kk⟩; have t := Lib.hid (t.out.kept kk); clear kk)
        | (with_reducible refine wpl_build0 (o := ⟨some 30, _, _, _, _, _⟩) rfl rfl u0.out ?_))
      go_ret
      exact ⟨rfl, t.out.k⟩
  · have Q24 : (hb Y == l0) = false := (z0.out _ _ rY).trans (decide_eq_false hy)
    have q24 := eql_run Q24 (hb_len _) hl0
    have hq := hq hy
    cases hok : okM x y with
    | false =>
      rw [hok] at hq
      subst hq
      have cR := Lib.hid (fun w => root_no rX rY hok w)
      rw [hnn.out] at cR
      clear hok hy Q24 rX rY rN
      go_enter Try.func6, Try.ntmps6
      go_wp2_with (first
        | ((with_reducible refine wpl_box (o := ⟨some 2, _, _, _, _, _⟩) (v := ab a) rfl (.tmp 0) rfl rfl ?_); intro g2 w1 m1)
        | ((with_reducible refine wpl_box (o := ⟨some 3, _, _, _, _, _⟩) (v := ab b) rfl (.tmp 1) rfl rfl ?_); intro g3 w2 m2)
        | (go_at_call 11; refine (first_true _).mono ?_; rintro e w5 ⟨rfl, kk4⟩))
      have t := Lib.hid (show Mm w [(g3, b), (g2, a)] [] [] w5 from ((((Mm.none w).kept m1.kept).bcons m1.blk).kept m2.kept |>.bcons m2.blk).kept kk4)
      clear m1 m2 kk4
      refine wp_multi (by kernel_rfl) [.val (ab a), .val (el X), .val (ab b), .val (el Y), .new 27 (el nought), .new 27 (el nought), .put 4 1 (uv (fam 5 X)).toArray, .put 5 3 (uv (fam 5 Y)).toArray]
        (Mm w [(g3, b), (g2, a)] [] []) (by kernel_rfl) (by kernel_rfl) t.out.drew (fun u u' T hS hk hT => ?_) ?_ ?_
      · exact t.out.fresh u u' T hS hk hT
      · refine ⟨?_, ?_, ?_, ?_, ⟨⟨_, rfl⟩, rfl, zeroEl⟩, ⟨⟨_, rfl⟩, rfl, zeroEl⟩, ?_, ?_, trivial⟩
        · refine ⟨⟨_, rfl⟩, fun a' u K0 R hS hr ho h => ?_⟩
          exact wp_loadr arrB.row (.tmp 2) rfl ((ho 2 (by decide)).trans rfl) (hS.b (g2, a) (by simp)) hl.out.1 (h u (Kept.refl _ _))
        · refine ⟨⟨_, rfl⟩, fun a' u K0 R hS hr ho h => ?_⟩
          refine wp_callf rfl enters_in (vs := #[ab a]) ?_ (iX.out u) h
          have := hr 0 (ab a) 11 _ rfl rfl rfl ⟨⟨0, .data⟩, by simp, rfl, rfl⟩
          simpa [Act.eval] using this
        · refine ⟨⟨_, rfl⟩, fun a' u K0 R hS hr ho h => ?_⟩
          exact wp_loadr arrB.row (.tmp 3) rfl ((ho 3 (by decide)).trans rfl) (hS.b (g3, b) (by simp)) hl.out.2 (h u (Kept.refl _ _))
        · refine ⟨⟨_, rfl⟩, fun a' u K0 R hS hr ho h => ?_⟩
          refine wp_callf rfl enters_in (vs := #[ab b]) ?_ (iY.out u) h
          have := hr 2 (ab b) 13 _ rfl rfl rfl ⟨⟨2, .data⟩, by simp, rfl, rfl⟩
          simpa [Act.eval] using this
        · exact ⟨rfl, ⟨⟨4, .data⟩, by simp, rfl, rfl⟩, ⟨⟨1, .data⟩, by simp, rfl, rfl⟩, _, _, _, _, _, _, _, _, rfl, rfl, rfl, rfl, rfl, rfl, rfl, structEl, rfl, rfl, one_el _⟩
        · exact ⟨rfl, ⟨⟨5, .data⟩, by simp, rfl, rfl⟩, ⟨⟨3, .data⟩, by simp, rfl, rfl⟩, _, _, _, _, _, _, _, _, rfl, rfl, rfl, rfl, rfl, rfl, rfl, structEl, rfl, rfl, one_el _⟩
      · intro γ w6 hS hγ hne hput
        have b5 := hput 6 4 1 _ _ _ rfl rfl
        have b6 := hput 7 5 3 _ _ _ rfl rfl
        generalize e5 : γ 4 = g5 at *
        generalize e6 : γ 5 = g6 at *
        simp [actOf, VK, List.range, List.range.loop, Act.put, e5, e6]
        replace t := Lib.hid (show Mm w [(g3, b), (g2, a)] [(g5, X), (g6, Y)] [] w6 from ((hS).econs b6).econs b5)
        clear b5 b6 hput hne hγ hS e5 e6
        go_wp2_with (first
          | (with_reducible refine wpl_load_row (o := ⟨some 16, _, _, _, _, _⟩) structEl rfl (.tmp 5) rfl rfl (t.out.e (g5, X) (by simp)) rfl ?_)
          | (with_reducible refine wpl_load_row (o := ⟨some 17, _, _, _, _, _⟩) structEl rfl (.tmp 6) rfl rfl (t.out.e (g6, Y) (by simp)) rfl ?_)
          | (go_at_call 26; (with_reducible refine (cR.out _).mono ?_); rintro e x1 ⟨rfl, kk⟩; have t := Lib.hid (t.out.kept kk); clear kk)
          | ((with_reducible refine wpl_new (o := ⟨some 7, _, _, _, _, _⟩) rfl rfl zeroEl ?_); intro g7 x7 m7)
          | ((with_reducible refine wpl_store_row (o := ⟨none, .store 27 (.tmp 7) (.tmp 19), _, _, _, _⟩) structEl rfl (.tmp 7) (.tmp 19) rfl rfl rfl m7.blk rfl rfl (one_el _) ?_); intro v7 b7 k7; have t9 := Lib.hid (show Mm w [(g3, b), (g2, a)] [(g5, X), (g6, Y), (g7, NN)] [] v7 from roots_put t.out m7 b7 k7); clear t m7 b7 k7; have t := t9; clear t9)
          | (with_reducible refine wpl_load_row (o := ⟨some 21, _, _, _, _, _⟩) structEl rfl (.tmp 6) rfl rfl (t.out.e (g6, Y) (by simp)) rfl ?_)
          | (go_at_call 14; (with_reducible refine (chY.out _).mono ?_); rintro e w7 ⟨rfl, kk⟩; have t := Lib.hid (t.out.kept kk); clear kk)
          | (with_reducible refine wpl_build0 (o := ⟨some 23, _, _, _, _, _⟩) rfl rfl u0.out ?_))
        have k70 : ∀ W, Calls Try.prog 25 #[ab a] W fun e w' => e = .returned (nu D) ∧ Kept [] W w' := cD.out
        replace k70 := Lib.hid k70
        have k71 : ∀ W, Calls Try.prog 25 #[ab b] W fun e w' => e = .returned (nu E) ∧ Kept [] W w' := cE.out
        replace k71 := Lib.hid k71
        have k72 : ∀ W, Calls Try.prog 27 #[nu D, nu E] W fun e w' => e = .returned (.bool false) ∧ Kept [] W w' := cQ.out
        replace k72 := Lib.hid k72
        refine Txt.wp_textG [1, 3] (Mm w [(g3, b), (g2, a)] [(g5, X), (g6, Y), (g7, NN)] []) [[_, _, _], [_, _], [_], [_]] (by kernel_rfl) (by kernel_rfl) rfl t.out.drew (Txt.segs_cons ?_)
        replace t := Lib.hid t.out.drew
        go_wp2_with (first
          | (refine wpl_load_arr (o := ⟨some 34, _, _, _, _, _⟩) arrB rfl (.tmp 2) rfl rfl (t.out.b (g2, a) (by simp)) hl.out.1 ?_)
          | (go_at_call 25; (with_reducible refine (k70.out _).mono ?_); rintro e v ⟨rfl, kk⟩; have t := Lib.hid (t.out.kept kk); clear kk))
        refine ⟨rfl, t.out, Txt.segs_cons ?_⟩
        go_wp2_with (first
          | (refine wpl_load_arr (o := ⟨some 36, _, _, _, _, _⟩) arrB rfl (.tmp 3) rfl rfl (t.out.b (g3, b) (by simp)) hl.out.2 ?_)
          | (go_at_call 25; (with_reducible refine (k71.out _).mono ?_); rintro e v ⟨rfl, kk⟩; have t := Lib.hid (t.out.kept kk); clear kk))
        refine ⟨rfl, t.out, Txt.segs_cons ?_⟩
        go_wp2_with (first
          | (go_at_call 27; (with_reducible refine (k72.out _).mono ?_); rintro e v ⟨rfl, kk⟩; have t := Lib.hid (t.out.kept kk); clear kk))
        refine ⟨rfl, t.out, Txt.segs_cons ?_⟩
        go_wp2_with fail
        refine ⟨rfl, t.out, Txt.segs_nil ⟨⟨by kernel_rfl, ?_⟩, ?_⟩⟩
        · intro j hj o ho hw
          have hj2 : j = 1 ∨ j = 3 := by simpa using hj
          rcases hj2 with rfl | rfl <;> cases ho
          · exact ⟨34, rfl, fun u hu => exec_load arrB.row (.tmp 2) rfl rfl (hu.b (g2, a) (by simp)) hl.out.1⟩
          · exact ⟨36, rfl, fun u hu => exec_load arrB.row (.tmp 3) rfl rfl (hu.b (g3, b) (by simp)) hl.out.2⟩
        go_wp2_with (first
          | (with_reducible refine wpl_load_row (o := ⟨some 42, _, _, _, _, _⟩) structEl rfl (.tmp 7) rfl rfl (t.out.e (g7, NN) (by simp)) rfl ?_)
          | (go_at_call 14; (with_reducible refine (chN.out _).mono ?_); rintro e w7 ⟨rfl, kk⟩; have t := Lib.hid (t.out.kept kk); clear kk)
          | (with_reducible refine wpl_build0 (o := ⟨some 44, _, _, _, _, _⟩) rfl rfl u0.out ?_))
        go_ret
        exact ⟨rfl, t.out.k⟩
    | true =>
      rw [hok] at hq
      subst hq
      have cR := Lib.hid (fun w => root_yes rX rY hok w)
      have rZ := Lib.hid (rX.rt rY hok)
      have hback := Lib.hid (root_back hok)
      have cOd := Lib.hid (show OdC (rtF X Y) false from by have := odd_c rZ.out; rwa [decide_eq_false (by rw [rt_even]; simp)] at this)
      generalize rtF X Y = Z at *
      replace rX := Lib.hid rX
      replace rY := Lib.hid rY
      clear hok hy Q24 rN chN qN
      go_enter Try.func6, Try.ntmps6
      go_wp2_with (first
        | ((with_reducible refine wpl_box (o := ⟨some 2, _, _, _, _, _⟩) (v := ab a) rfl (.tmp 0) rfl rfl ?_); intro g2 w1 m1)
        | ((with_reducible refine wpl_box (o := ⟨some 3, _, _, _, _, _⟩) (v := ab b) rfl (.tmp 1) rfl rfl ?_); intro g3 w2 m2)
        | (go_at_call 11; refine (first_true _).mono ?_; rintro e w5 ⟨rfl, kk4⟩))
      have t := Lib.hid (show Mm w [(g3, b), (g2, a)] [] [] w5 from ((((Mm.none w).kept m1.kept).bcons m1.blk).kept m2.kept |>.bcons m2.blk).kept kk4)
      clear m1 m2 kk4
      refine wp_multi (by kernel_rfl) [.val (ab a), .val (el X), .val (ab b), .val (el Y), .new 27 (el nought), .new 27 (el nought), .put 4 1 (uv (fam 5 X)).toArray, .put 5 3 (uv (fam 5 Y)).toArray]
        (Mm w [(g3, b), (g2, a)] [] []) (by kernel_rfl) (by kernel_rfl) t.out.drew (fun u u' T hS hk hT => ?_) ?_ ?_
      · exact t.out.fresh u u' T hS hk hT
      · refine ⟨?_, ?_, ?_, ?_, ⟨⟨_, rfl⟩, rfl, zeroEl⟩, ⟨⟨_, rfl⟩, rfl, zeroEl⟩, ?_, ?_, trivial⟩
        · refine ⟨⟨_, rfl⟩, fun a' u K0 R hS hr ho h => ?_⟩
          exact wp_loadr arrB.row (.tmp 2) rfl ((ho 2 (by decide)).trans rfl) (hS.b (g2, a) (by simp)) hl.out.1 (h u (Kept.refl _ _))
        · refine ⟨⟨_, rfl⟩, fun a' u K0 R hS hr ho h => ?_⟩
          refine wp_callf rfl enters_in (vs := #[ab a]) ?_ (iX.out u) h
          have := hr 0 (ab a) 11 _ rfl rfl rfl ⟨⟨0, .data⟩, by simp, rfl, rfl⟩
          simpa [Act.eval] using this
        · refine ⟨⟨_, rfl⟩, fun a' u K0 R hS hr ho h => ?_⟩
          exact wp_loadr arrB.row (.tmp 3) rfl ((ho 3 (by decide)).trans rfl) (hS.b (g3, b) (by simp)) hl.out.2 (h u (Kept.refl _ _))
        · refine ⟨⟨_, rfl⟩, fun a' u K0 R hS hr ho h => ?_⟩
          refine wp_callf rfl enters_in (vs := #[ab b]) ?_ (iY.out u) h
          have := hr 2 (ab b) 13 _ rfl rfl rfl ⟨⟨2, .data⟩, by simp, rfl, rfl⟩
          simpa [Act.eval] using this
        · exact ⟨rfl, ⟨⟨4, .data⟩, by simp, rfl, rfl⟩, ⟨⟨1, .data⟩, by simp, rfl, rfl⟩, _, _, _, _, _, _, _, _, rfl, rfl, rfl, rfl, rfl, rfl, rfl, structEl, rfl, rfl, one_el _⟩
        · exact ⟨rfl, ⟨⟨5, .data⟩, by simp, rfl, rfl⟩, ⟨⟨3, .data⟩, by simp, rfl, rfl⟩, _, _, _, _, _, _, _, _, rfl, rfl, rfl, rfl, rfl, rfl, rfl, structEl, rfl, rfl, one_el _⟩
      · intro γ w6 hS hγ hne hput
        have b5 := hput 6 4 1 _ _ _ rfl rfl
        have b6 := hput 7 5 3 _ _ _ rfl rfl
        generalize e5 : γ 4 = g5 at *
        generalize e6 : γ 5 = g6 at *
        simp [actOf, VK, List.range, List.range.loop, Act.put, e5, e6]
        replace t := Lib.hid (show Mm w [(g3, b), (g2, a)] [(g5, X), (g6, Y)] [] w6 from ((hS).econs b6).econs b5)
        clear b5 b6 hput hne hγ hS e5 e6
        go_wp2_with (first
          | (with_reducible refine wpl_load_row (o := ⟨some 16, _, _, _, _, _⟩) structEl rfl (.tmp 5) rfl rfl (t.out.e (g5, X) (by simp)) rfl ?_)
          | (with_reducible refine wpl_load_row (o := ⟨some 17, _, _, _, _, _⟩) structEl rfl (.tmp 6) rfl rfl (t.out.e (g6, Y) (by simp)) rfl ?_)
          | (go_at_call 26; (with_reducible refine (cR.out _).mono ?_); rintro e x1 ⟨rfl, kk⟩; have t := Lib.hid (t.out.kept kk); clear kk)
          | ((with_reducible refine wpl_new (o := ⟨some 7, _, _, _, _, _⟩) rfl rfl zeroEl ?_); intro g7 x7 m7)
          | ((with_reducible refine wpl_store_row (o := ⟨none, .store 27 (.tmp 7) (.tmp 19), _, _, _, _⟩) structEl rfl (.tmp 7) (.tmp 19) rfl rfl rfl m7.blk rfl rfl (one_el _) ?_); intro v7 b7 k7; have t9 := Lib.hid (show Mm w [(g3, b), (g2, a)] [(g5, X), (g6, Y), (g7, Z)] [] v7 from roots_put t.out m7 b7 k7); clear t m7 b7 k7; have t := t9; clear t9)
          | (with_reducible refine wpl_load_row (o := ⟨some 21, _, _, _, _, _⟩) structEl rfl (.tmp 6) rfl rfl (t.out.e (g6, Y) (by simp)) rfl ?_)
          | (go_at_call 14; (with_reducible refine (chY.out _).mono ?_); rintro e w7 ⟨rfl, kk⟩; have t := Lib.hid (t.out.kept kk); clear kk)
          | (with_reducible refine wpl_build0 (o := ⟨some 23, _, _, _, _, _⟩) rfl rfl u0.out ?_))
        have k70 : ∀ W, Calls Try.prog 25 #[ab a] W fun e w' => e = .returned (nu D) ∧ Kept [] W w' := cD.out
        replace k70 := Lib.hid k70
        have k71 : ∀ W, Calls Try.prog 25 #[ab b] W fun e w' => e = .returned (nu E) ∧ Kept [] W w' := cE.out
        replace k71 := Lib.hid k71
        have k72 : ∀ W, Calls Try.prog 27 #[nu D, nu E] W fun e w' => e = .returned (.bool true) ∧ Kept [] W w' := cQ.out
        replace k72 := Lib.hid k72
        refine Txt.wp_textG [1, 3] (Mm w [(g3, b), (g2, a)] [(g5, X), (g6, Y), (g7, Z)] []) [[_, _, _], [_, _], [_], [_]] (by kernel_rfl) (by kernel_rfl) rfl t.out.drew (Txt.segs_cons ?_)
        replace t := Lib.hid t.out.drew
        go_wp2_with (first
          | (refine wpl_load_arr (o := ⟨some 34, _, _, _, _, _⟩) arrB rfl (.tmp 2) rfl rfl (t.out.b (g2, a) (by simp)) hl.out.1 ?_)
          | (go_at_call 25; (with_reducible refine (k70.out _).mono ?_); rintro e v ⟨rfl, kk⟩; have t := Lib.hid (t.out.kept kk); clear kk))
        refine ⟨rfl, t.out, Txt.segs_cons ?_⟩
        go_wp2_with (first
          | (refine wpl_load_arr (o := ⟨some 36, _, _, _, _, _⟩) arrB rfl (.tmp 3) rfl rfl (t.out.b (g3, b) (by simp)) hl.out.2 ?_)
          | (go_at_call 25; (with_reducible refine (k71.out _).mono ?_); rintro e v ⟨rfl, kk⟩; have t := Lib.hid (t.out.kept kk); clear kk))
        refine ⟨rfl, t.out, Txt.segs_cons ?_⟩
        go_wp2_with (first
          | (go_at_call 27; (with_reducible refine (k72.out _).mono ?_); rintro e v ⟨rfl, kk⟩; have t := Lib.hid (t.out.kept kk); clear kk))
        refine ⟨rfl, t.out, Txt.segs_cons ?_⟩
        go_wp2_with fail
        refine ⟨rfl, t.out, Txt.segs_nil ⟨⟨by kernel_rfl, ?_⟩, ?_⟩⟩
        · intro j hj o ho hw
          have hj2 : j = 1 ∨ j = 3 := by simpa using hj
          rcases hj2 with rfl | rfl <;> cases ho
          · exact ⟨34, rfl, fun u hu => exec_load arrB.row (.tmp 2) rfl rfl (hu.b (g2, a) (by simp)) hl.out.1⟩
          · exact ⟨36, rfl, fun u hu => exec_load arrB.row (.tmp 3) rfl rfl (hu.b (g3, b) (by simp)) hl.out.2⟩
        go_wp2_with fail
        have k0 : MlC Z Z (mlF Z Z) := ml_c rZ.out rZ.out
        replace k0 := Lib.hid k0
        have k1 : MlC (mlF Z Z) Y (mlF (mlF Z Z) Y) := ml_c (Rep.m rZ.out rZ.out) rY.out
        replace k1 := Lib.hid k1
        have k2 : HbC (mlF (mlF Z Z) Y) := hb_c (Rep.m (Rep.m rZ.out rZ.out) rY.out)
        replace k2 := Lib.hid k2
        have k3 : HbC X := hb_c rX.out
        replace k3 := Lib.hid k3
        have k4 : OdC Z false := cOd.out
        replace k4 := Lib.hid k4
        have Q54 : ((hb (mlF (mlF Z Z) Y)) == (hb X)) = true := hb_eq (Rep.m (Rep.m rZ.out rZ.out) rY.out) rX.out hback.out
        have q54 := eql_run Q54 (hb_len _) (hb_len _)
        replace Q54 := Lib.hid Q54
        refine Txt.wp_textG [0, 1, 3, 6, 8, 10] (Mm w [(g3, b), (g2, a)] [(g5, X), (g6, Y), (g7, Z)] []) [[_, _, _], [_, _], [_], [_, _], [_, _, _, _], [_, _, _]] (by kernel_rfl) (by kernel_rfl) rfl t.out.drew (Txt.segs_cons ?_)
        replace t := Lib.hid t.out.drew
        go_wp2_with (first
          | (with_reducible refine wpl_load_row (o := ⟨some 46, _, _, _, _, _⟩) structEl rfl (.tmp 7) rfl rfl (t.out.e (g7, Z) (by simp)) rfl ?_)
          | (with_reducible refine wpl_load_row (o := ⟨some 47, _, _, _, _, _⟩) structEl rfl (.tmp 7) rfl rfl (t.out.e (g7, Z) (by simp)) rfl ?_)
          | (go_at_call 15; (with_reducible refine (k0.out _).mono ?_); rintro e v ⟨rfl, kk⟩; have t := Lib.hid (t.out.kept kk); clear kk))
        refine ⟨rfl, t.out, Txt.segs_cons ?_⟩
        go_wp2_with (first
          | (with_reducible refine wpl_load_row (o := ⟨some 49, _, _, _, _, _⟩) structEl rfl (.tmp 6) rfl rfl (t.out.e (g6, Y) (by simp)) rfl ?_)
          | (go_at_call 15; (with_reducible refine (k1.out _).mono ?_); rintro e v ⟨rfl, kk⟩; have t := Lib.hid (t.out.kept kk); clear kk))
        refine ⟨rfl, t.out, Txt.segs_cons ?_⟩
        go_wp2_with (first
          | (go_at_call 14; (with_reducible refine (k2.out _).mono ?_); rintro e v ⟨rfl, kk⟩; have t := Lib.hid (t.out.kept kk); clear kk))
        refine ⟨rfl, t.out, Txt.segs_cons ?_⟩
        go_wp2_with (first
          | (with_reducible refine wpl_load_row (o := ⟨some 52, _, _, _, _, _⟩) structEl rfl (.tmp 5) rfl rfl (t.out.e (g5, X) (by simp)) rfl ?_)
          | (go_at_call 14; (with_reducible refine (k3.out _).mono ?_); rintro e v ⟨rfl, kk⟩; have t := Lib.hid (t.out.kept kk); clear kk))
        refine ⟨rfl, t.out, Txt.segs_cons ?_⟩
        go_wp2_with (first
          | (with_reducible refine wpl_load_row (o := ⟨some 56, _, _, _, _, _⟩) structEl rfl (.tmp 7) rfl rfl (t.out.e (g7, Z) (by simp)) rfl ?_)
          | (go_at_call 17; (with_reducible refine (k4.out _).mono ?_); rintro e v ⟨rfl, kk⟩; have t := Lib.hid (t.out.kept kk); clear kk))
        refine ⟨rfl, t.out, Txt.segs_cons ?_⟩
        go_wp2_with fail
        refine ⟨rfl, t.out, Txt.segs_nil ⟨⟨by kernel_rfl, ?_⟩, ?_⟩⟩
        · intro j hj o ho hw
          have hj2 : j = 0 ∨ j = 1 ∨ j = 3 ∨ j = 6 ∨ j = 8 ∨ j = 10 := by simpa using hj
          rcases hj2 with rfl | rfl | rfl | rfl | rfl | rfl <;> cases ho
          · exact ⟨46, rfl, fun u hu => exec_load structEl (.tmp 7) rfl rfl (hu.e (g7, Z) (by simp)) rfl⟩
          · exact ⟨47, rfl, fun u hu => exec_load structEl (.tmp 7) rfl rfl (hu.e (g7, Z) (by simp)) rfl⟩
          · exact ⟨49, rfl, fun u hu => exec_load structEl (.tmp 6) rfl rfl (hu.e (g6, Y) (by simp)) rfl⟩
          · exact ⟨52, rfl, fun u hu => exec_load structEl (.tmp 5) rfl rfl (hu.e (g5, X) (by simp)) rfl⟩
          · exact ⟨54, rfl, fun u _ => exec_eqb (.tmp 51) (.tmp 53) rfl rfl rfl Q54.out (hb_len _) (hb_len _)⟩
          · exact ⟨56, rfl, fun u hu => exec_load structEl (.tmp 7) rfl rfl (hu.e (g7, Z) (by simp)) rfl⟩
        go_wp2_with fail
        go_ret
        exact ⟨rfl, t.out.k⟩
end Go.Proofs.Ythmpdhegodmjjaa
