/-
  Field: roots: the walk.
-/
import Derived.Test.YthmpdhegodmjjaaFe18
import Derived.Test.YthmpdhegodmjjaaInv2
namespace Go.Proofs.Ythmpdhegodmjjaa
open Go.RowKit Go.Mem Go.Txt

theorem enters_inv (xs : Array Value) (w : World) : (callFunc 23 xs).run Try.prog w = .ok (.enter 23 xs) w := enters_of (c := _) Try.func23 (by kernel_rfl) rfl xs w
theorem enters_m1 (xs : Array Value) (w : World) : (callFunc 40 xs).run Try.prog w = .ok (.enter 40 xs) w := enters_of (c := _) Try.func40 (by kernel_rfl) rfl xs w
theorem wp_storer {P : Program} {w : World} {o : Oper} {a : Act} {C : Act → World → Prop} {R : Exit → Act → World → Prop} {t : TypeId} {n : Nat} (T : RowT P t n) (x y : Operand) (ho : o.op = .store t x y) {g : Nat} {cs old : Array Value} (hx : a.eval x = .pointer (some ⟨g, 0, none⟩)) (hy : a.eval y = .agg cs)
    {bt : TypeId} (hb : Blk w g bt old) (hold : old.size = n) (hn : cs.size = n) (h1 : cs.all (·.oneCell') = true) (h : C (a.put o.dst undef) (w.setRow g cs)) : o.wp P a w C R :=
  wp_store_row t x y ho g cs hx hy bt old hb (by rw [T.size, hn]) (by omega) h1 h
theorem build_el : Try.prog.built 27 [] = some (uv (fam 5 nought)).toArray := by kernel_rfl
theorem build_b : Try.prog.built 29 [] = some (bv (noughts 32)).toArray := by kernel_rfl
theorem le_zero : le 0 32 = noughts 32 := by decide +kernel
theorem le_beq (x y : Nat) (hx : x < PP) (hy : y < PP) : (le x 32 == le y 32) = decide (x = y) := by
  by_cases h : x = y
  · subst h; simp
  · have : le x 32 ≠ le y 32 := fun e => h (by
      have h1 := leV_le 32 x
      have h2 := leV_le 32 y
      rw [e, h2] at h1
      unfold PP at hx hy
      omega)
    simp [h, this]
theorem eq_run (x y : Nat) (hx : x < PP) (hy : y < PP) (W : World) : (Op.equalIn 10000 29 (ab (le x 32)) (ab (le y 32))).run Try.prog W = .ok (decide (x = y)) W := by
  have := run_eqIn_ab arrB Try.underlying5 (by kernel_rfl) (le x 32) (le y 32) (le_len _ _) (le_len _ _) W
  rwa [le_beq x y hx hy] at this

/-- What Root answers. -/
def rtW (U V : Nat → Nat) : Nat → Nat := mlF U (invF V)
def rtX (U V : Nat → Nat) : Nat → Nat := if fv (mlF (tryF (rtW U V)) (tryF (rtW U V))) % PP = fv (rtW U V) % PP then tryF (rtW U V) else mlF (tryF (rtW U V)) m1F
def rtB (U V : Nat → Nat) : Bool := decide (fv V % PP ≠ 0) && decide (fv (mlF (rtX U V) (rtX U V)) % PP = fv (rtW U V) % PP)
def rtF (U V : Nat → Nat) : Nat → Nat := if rtB U V then (if fv (rtX U V) % PP % 2 = 1 then carL (subL nought (rtX U V)) else rtX U V) else nought
theorem nought_lim : Lim nought := fun _ _ => by unfold nought; omega
theorem rtW_lim {U V : Nat → Nat} (hU : Lim U) (hV : Lim V) : Lim (rtW U V) := mlF_lim hU (invF_lim hV)
theorem rtX_lim {U V : Nat → Nat} (hU : Lim U) (hV : Lim V) : Lim (rtX U V) := by
  unfold rtX
  split
  · exact tryF_lim (rtW_lim hU hV)
  · exact mlF_lim (tryF_lim (rtW_lim hU hV)) m1_lim
/-- What a number's bytes, what its oddness answer. -/
abbrev HaC (F : Nat → Nat) (x : Nat) : Prop := ∀ W, Calls Try.prog 14 #[el F] W fun e w' => e = .returned (ab (le x 32)) ∧ Kept [] W w'
abbrev OdC (F : Nat → Nat) (b : Bool) : Prop := ∀ W, Calls Try.prog 17 #[el F] W fun e w' => e = .returned (.bool b) ∧ Kept [] W w'
abbrev SuC (F G R : Nat → Nat) : Prop := ∀ W, Calls Try.prog 16 #[el F, el G] W fun e w' => e = .returned (el R) ∧ Kept [] W w'
/-- What lies in memory. -/
structure RtM (w3 : World) (q6 q9 : Nat) (W X : Nat → Nat) (u : World) : Prop where
  w : Blk u q6 27 (uv (fam 5 W)).toArray
  x : Blk u q9 27 (uv (fam 5 X)).toArray
  k : Kept [] w3 u
theorem RtM.kept {w3 : World} {q6 q9 : Nat} {W X : Nat → Nat} {u u' : World} (h : RtM w3 q6 q9 W X u) (hk : Kept [] u u') : RtM w3 q6 q9 W X u' := ⟨h.w.kept hk (by simp), h.x.kept hk (by simp), h.k.then0 hk⟩
theorem RtM.put {w3 : World} {q6 q9 : Nat} {W X Y : Nat → Nat} {u u' : World} (h : RtM w3 q6 q9 W X u) (n : q6 ≠ q9 ∧ w3.heap.size ≤ q9) (b : Blk u' q9 27 (uv (fam 5 Y)).toArray) (hk : Kept [q9] u u') : RtM w3 q6 q9 W Y u' := ⟨h.w.kept hk (by simpa using n.1), b, h.k.then1 hk n.2⟩

set_option maxRecDepth 100000 in
set_option maxHeartbeats 4000000 in
theorem root_any (U V : Nat → Nat) (hU : Lim U) (hV : Lim V) (w : World) :
    Calls Try.prog 26 #[el U, el V] w fun e w' => e = .returned (.tuple #[el (rtF U V), .bool (rtB U V)]) ∧ Kept [] w w' := by
  have hhv : HaC V (fv V % PP) := fun W => fhash_any V W hV
  obtain ⟨Z, hZ⟩ : ∃ Z, Z = noughts 32 := ⟨_, rfl⟩
  have hbb : Try.prog.built 29 [] = some (bv Z).toArray := by rw [hZ]; exact build_b
  have eqv : ∀ W, (Op.equalIn 10000 29 (ab (le (fv V % PP) 32)) (ab Z)).run Try.prog W = .ok (decide (fv V % PP = 0)) W := fun W => by
    rw [hZ, ← le_zero]; exact eq_run _ _ (Nat.mod_lt _ PP_pos) PP_pos W
  clear hZ
  by_cases hv : fv V % PP = 0
  · have hB : rtB U V = false := by unfold rtB; simp [hv]
    have hF : rtF U V = nought := by unfold rtF; rw [hB]; rfl
    rw [hB, hF]
    rw [decide_eq_true hv] at eqv
    generalize fv V % PP = v at *
    clear hB hF hU hV hv
    replace hhv := Lib.hid hhv
    replace hbb := Lib.hid hbb
    go_enter Try.func26, Try.ntmps26
    go_wp2_with (first
      | ((with_reducible refine wpl_box (o := ⟨some 2, _, _, _, _, _⟩) (v := el U) rfl (.tmp 0) rfl rfl ?_); intro g2 w1 m1)
      | ((with_reducible refine wpl_box (o := ⟨some 3, _, _, _, _, _⟩) (v := el V) rfl (.tmp 1) rfl rfl ?_); intro g3 w2 m2)
      | ((with_reducible refine wpl_new (o := ⟨some 4, _, _, _, _, _⟩) rfl rfl zeroEl ?_); intro g4 w3 m3; have B3 := Lib.hid (m2.blk.kept m3.kept (by simp)); have B4 := Lib.hid m3.blk; have D := Lib.hid (And.intro (Nat.le_trans (m1.kept.then0 m2.kept).size m3.le) ((m1.kept.then0 m2.kept).then0 m3.kept)); clear m1 m2 m3)
      | (with_reducible refine wpl_load_row (o := ⟨some 10, _, _, _, _, _⟩) structEl rfl (.tmp 3) rfl rfl B3.out rfl ?_)
      | (go_at_call 14; refine (hhv.out _).mono ?_; rintro e u1 ⟨rfl, kk⟩; have B4 := Lib.hid (B4.out.kept kk (by simp)); have K4 := Lib.hid (D.out.2.then0 kk); clear kk)
      | (with_reducible refine wpl_build0 (o := ⟨some 12, _, _, _, _, _⟩) rfl rfl hbb.out ?_)
      | (with_reducible refine wpl_build0 (o := ⟨some 14, _, _, _, _, _⟩) rfl rfl build_el ?_)
      | ((with_reducible refine wpl_store_row (o := ⟨none, .store 27 (.tmp 4) (.tmp 14), _, _, _, _⟩) structEl rfl (.tmp 4) (.tmp 14) rfl rfl rfl B4.out rfl rfl (one_el _) ?_); intro v4 b4 k4))
    exact ret_row2 structEl rfl rfl b4 rfl rfl ⟨rfl, K4.out.then1 k4 D.out.1⟩
  · have nv : decide (fv V % PP ≠ 0) = true := by simp [hv]
    have ci : ∀ W, Calls Try.prog 23 #[el V] W fun e w' => e = .returned (el (invF V)) ∧ Kept [] W w' := fun W => inv_any V hV W
    have cm : MlC U (invF V) (rtW U V) := mlF_any _ _ hU (invF_lim hV)
    have hW := rtW_lim hU hV
    have co := fun W => ones_any (rtW U V) hW W
    have c2 : SnC 2 (o_nn (rtW U V)) (sqn 2 (o_nn (rtW U V))) := sqn_any 2 _ (o_nn_lim hW) (by decide)
    have cs : SqC (rtW U V) (sqF (rtW U V)) := sqF_any _ hW
    have ct : MlC (sqn 2 (o_nn (rtW U V))) (sqF (rtW U V)) (tryF (rtW U V)) := mlF_any _ _ (sqn_lim (o_nn_lim hW) 2) (sqF_lim hW)
    have hX0 := tryF_lim hW
    have cq : MlC (tryF (rtW U V)) (tryF (rtW U V)) (mlF (tryF (rtW U V)) (tryF (rtW U V))) := mlF_any _ _ hX0 hX0
    have hs0 : HaC (mlF (tryF (rtW U V)) (tryF (rtW U V))) (fv (mlF (tryF (rtW U V)) (tryF (rtW U V))) % PP) := fun W => fhash_any _ W (mlF_lim hX0 hX0)
    have hw0 : HaC (rtW U V) (fv (rtW U V) % PP) := fun W => fhash_any _ W hW
    have c1 := minusOne_any
    have cm1 : MlC (tryF (rtW U V)) m1F (mlF (tryF (rtW U V)) m1F) := mlF_any _ _ hX0 m1_lim
    have hX1 := rtX_lim hU hV
    have cq1 : MlC (rtX U V) (rtX U V) (mlF (rtX U V) (rtX U V)) := mlF_any _ _ hX1 hX1
    have hs1 : HaC (mlF (rtX U V) (rtX U V)) (fv (mlF (rtX U V) (rtX U V)) % PP) := fun W => fhash_any _ W (mlF_lim hX1 hX1)
    have cod : OdC (rtX U V) (decide (fv (rtX U V) % PP % 2 = 1)) := fun W => odd_any _ W hX1
    have csu : SuC nought (rtX U V) (carL (subL nought (rtX U V))) := fun W => fsub_any _ _ W nought_lim hX1
    have qq0 := le_beq (fv (mlF (tryF (rtW U V)) (tryF (rtW U V))) % PP) (fv (rtW U V) % PP) (Nat.mod_lt _ PP_pos) (Nat.mod_lt _ PP_pos)
    have qq1 := le_beq (fv (mlF (rtX U V) (rtX U V)) % PP) (fv (rtW U V) % PP) (Nat.mod_lt _ PP_pos) (Nat.mod_lt _ PP_pos)
    have eq0 := eq_run (fv (mlF (tryF (rtW U V)) (tryF (rtW U V))) % PP) (fv (rtW U V) % PP) (Nat.mod_lt _ PP_pos) (Nat.mod_lt _ PP_pos)
    have eq1 := eq_run (fv (mlF (rtX U V) (rtX U V)) % PP) (fv (rtW U V) % PP) (Nat.mod_lt _ PP_pos) (Nat.mod_lt _ PP_pos)
    have hxx : rtX U V = if decide (fv (mlF (tryF (rtW U V)) (tryF (rtW U V))) % PP = fv (rtW U V) % PP) = true then tryF (rtW U V) else mlF (tryF (rtW U V)) m1F := by simp only [decide_eq_true_eq]; rfl
    have hB : rtB U V = decide (fv (mlF (rtX U V) (rtX U V)) % PP = fv (rtW U V) % PP) := by unfold rtB; rw [nv, Bool.true_and]
    have hF : rtF U V = if rtB U V then (if decide (fv (rtX U V) % PP % 2 = 1) = true then carL (subL nought (rtX U V)) else rtX U V) else nought := by simp only [decide_eq_true_eq]; rfl
    rw [hB] at hF
    rw [hB, hF]
    rw [decide_eq_false hv] at eqv
    clear hB hF hW hX0 hX1 nv hv hU hV
    generalize decide (fv (mlF (tryF (rtW U V)) (tryF (rtW U V))) % PP = fv (rtW U V) % PP) = t0 at *
    generalize decide (fv (mlF (rtX U V) (rtX U V)) % PP = fv (rtW U V) % PP) = t1 at *
    generalize decide (fv (rtX U V) % PP % 2 = 1) = od at *
    generalize fv (mlF (tryF (rtW U V)) (tryF (rtW U V))) % PP = s0, fv (mlF (rtX U V) (rtX U V)) % PP = s1, fv (rtW U V) % PP = w0, fv V % PP = v at *
    generalize mlF (rtX U V) (rtX U V) = S1, carL (subL nought (rtX U V)) = X2 at *
    generalize rtX U V = X1 at *
    generalize mlF (tryF (rtW U V)) (tryF (rtW U V)) = S0, mlF (tryF (rtW U V)) m1F = XM at *
    generalize tryF (rtW U V) = X0 at *
    generalize sqn 2 (o_nn (rtW U V)) = n2, sqF (rtW U V) = sw at *
    generalize o_nn (rtW U V) = nn, o_elev (rtW U V) = ee at *
    generalize rtW U V = W, invF V = I at *
    replace hhv := Lib.hid hhv
    replace hbb := Lib.hid hbb
    replace ci := Lib.hid ci
    replace cm := Lib.hid cm
    replace co := Lib.hid co
    replace c2 := Lib.hid c2
    replace cs := Lib.hid cs
    replace ct := Lib.hid ct
    replace cq := Lib.hid cq
    replace hs0 := Lib.hid hs0
    replace hw0 := Lib.hid hw0
    replace c1 := Lib.hid c1
    replace cm1 := Lib.hid cm1
    replace cq1 := Lib.hid cq1
    replace hs1 := Lib.hid hs1
    replace cod := Lib.hid cod
    replace csu := Lib.hid csu
    replace hxx := Lib.hid hxx
    replace qq0 := Lib.hid qq0
    replace qq1 := Lib.hid qq1
    go_enter Try.func26, Try.ntmps26
    go_wp2_with (first
      | ((with_reducible refine wpl_box (o := ⟨some 2, _, _, _, _, _⟩) (v := el U) rfl (.tmp 0) rfl rfl ?_); intro g2 w1 m1)
      | ((with_reducible refine wpl_box (o := ⟨some 3, _, _, _, _, _⟩) (v := el V) rfl (.tmp 1) rfl rfl ?_); intro g3 w2 m2)
      | ((with_reducible refine wpl_new (o := ⟨some 4, _, _, _, _, _⟩) rfl rfl zeroEl ?_); intro g4 w3 m3; have H := Lib.hid (Els.none w3); have B2 := Lib.hid ((m1.blk.kept m2.kept (by simp)).kept m3.kept (by simp)); have B3 := Lib.hid (m2.blk.kept m3.kept (by simp)); have B4 := Lib.hid m3.blk; have D := Lib.hid (And.intro (Nat.le_trans (m1.kept.then0 m2.kept).size m3.le) ((m1.kept.then0 m2.kept).then0 m3.kept)); clear m1 m2 m3)
      | (with_reducible refine wpl_load_row (o := ⟨some 10, _, _, _, _, _⟩) structEl rfl (.tmp 3) rfl rfl (B3.out.kept H.out.k (by simp)) rfl ?_)
      | (go_at_call 14; (with_reducible refine (hhv.out _).mono ?_); rintro e u1 ⟨rfl, kk⟩; have H := Lib.hid (H.out.kept kk); clear kk)
      | (with_reducible refine wpl_build0 (o := ⟨some 12, _, _, _, _, _⟩) rfl rfl hbb.out ?_))
    refine wp_multi (by kernel_rfl) [.val (el U), .val (el V), .val (el I), .val (el W), .new 27 (el nought), .put 4 3 (uv (fam 5 W)).toArray] (Els w3 []) (by kernel_rfl) (by kernel_rfl) H.out.drew (H.out.fresh) ?_ ?_
    · refine ⟨?_, ?_, ?_, ?_, ?_, ?_, trivial⟩
      · exact ⟨⟨_, rfl⟩, fun a' u K0 R hS hr ho h => wp_loadr structEl (.tmp 2) rfl ((ho 2 (by decide)).trans rfl) (B2.out.kept hS.k (by simp)) rfl (h u (Kept.refl _ _))⟩
      · exact ⟨⟨_, rfl⟩, fun a' u K0 R hS hr ho h => wp_loadr structEl (.tmp 3) rfl ((ho 3 (by decide)).trans rfl) (B3.out.kept hS.k (by simp)) rfl (h u (Kept.refl _ _))⟩
      · refine ⟨⟨_, rfl⟩, fun a' u K0 R hS hr ho h => ?_⟩
        refine wp_callf rfl enters_inv (vs := #[el V]) ?_ (ci.out u) h
        have h0 := hr 1 (el V) 16 _ rfl rfl rfl ⟨⟨1, .data⟩, by simp, rfl, rfl⟩
        simp [Act.eval] at h0 ⊢
        exact h0
      · refine ⟨⟨_, rfl⟩, fun a' u K0 R hS hr ho h => ?_⟩
        refine wp_callf rfl enters_mul (vs := #[el U, el I]) ?_ (cm.out u) h
        have h0 := hr 0 (el U) 15 _ rfl rfl rfl ⟨⟨0, .data⟩, by simp, rfl, rfl⟩
        have h1 := hr 2 (el I) 17 _ rfl rfl rfl ⟨⟨2, .data⟩, by simp, rfl, rfl⟩
        simp [Act.eval] at h0 h1 ⊢
        exact ⟨h0, h1⟩
      · exact ⟨⟨_, rfl⟩, rfl, zeroEl⟩
      · exact ⟨rfl, ⟨⟨4, .data⟩, by simp, rfl, rfl⟩, ⟨⟨3, .data⟩, by simp, rfl, rfl⟩, _, _, _, _, _, _, _, _, rfl, rfl, rfl, rfl, rfl, rfl, rfl, structEl, rfl, rfl, one_el _⟩
    intro γ r3 hS hγ hne hput
    have hl := Nat.le_trans H.out.k.size (hγ 4 _ _ rfl)
    have b := hput 5 4 3 _ _ _ rfl rfl
    generalize e7 : γ 4 = q6 at *
    simp [actOf, VK, List.range, List.range.loop, Act.put, e7]
    have H := Lib.hid (hS.cons b hl)
    clear b hl hput hne hγ hS e7
    go_wp2_with (first
      | (with_reducible refine wpl_load_row (o := ⟨some 20, _, _, _, _, _⟩) structEl rfl (.tmp 6) rfl rfl (H.out.s (q6, W) (by simp)) rfl ?_)
      | (go_at_call 36; (with_reducible refine (co.out _).mono ?_); rintro e u2 ⟨rfl, kk⟩; have H := Lib.hid (H.out.kept kk); clear kk)
      | ((with_reducible refine wpl_new (o := ⟨some 7, _, _, _, _, _⟩) rfl rfl zeroEl ?_); intro q7 x7 m7; have N7 := Lib.hid (m7.ne (H.out.s (q6, W) (by simp)).lt); have H := Lib.hid (H.out.put m7 m7.blk (Kept.refl _ _)); clear m7)
      | ((with_reducible refine wpl_new (o := ⟨some 8, _, _, _, _, _⟩) rfl rfl zeroEl ?_); intro q8 x8 m8; have N := Lib.hid (And.intro (m8.ne (H.out.s (q7, nought) (by simp)).lt) (m8.ne (H.out.s (q6, W) (by simp)).lt)); have H := Lib.hid (H.out.put m8 m8.blk (Kept.refl _ _)); clear m8)
      | ((with_reducible refine wpl_store_row (o := ⟨none, .store 27 (.tmp 7) (.tmp 22), _, _, _, _⟩) structEl rfl (.tmp 7) (.tmp 22) rfl rfl rfl (H.out.s (q7, nought) (by simp)) rfl rfl (one_el _) ?_); intro v7 b7 k7; have B8 := Lib.hid ((H.out.s (q8, nought) (by simp)).kept k7 (by simpa using Ne.symm N.out.1)))
      | ((with_reducible refine wpl_store_row (o := ⟨none, .store 27 (.tmp 8) (.tmp 23), _, _, _, _⟩) structEl rfl (.tmp 8) (.tmp 23) rfl rfl rfl B8.out rfl rfl (one_el _) ?_); intro v8 b8 k8))
    have f6 := H.out.f (q6, W) (by simp)
    have f7 := H.out.f (q7, nought) (by simp)
    have f8 := H.out.f (q8, nought) (by simp)
    have E := Lib.hid (show Els w3 [(q7, nn), (q6, W)] v8 from
      ((show Els w3 [] v8 from ⟨fun _ h => absurd h (by simp), fun _ h => absurd h (by simp), (H.out.k.then1 k7 f7).then1 k8 f8⟩).cons (((H.out.s (q6, W) (by simp)).kept k7 (by simpa using N7.out)).kept k8 (by simpa using N.out.2)) f6).cons (b7.kept k8 (by simpa using N.out.1)) f7)
    clear b7 k7 b8 k8 H f6 f7 f8 N N7 B8
    have H := Lib.hid E.out
    refine wp_multi (by kernel_rfl) [.val (el nn), .val (el n2), .val (el W), .val (el sw), .val (el X0), .new 27 (el nought), .put 5 4 (uv (fam 5 X0)).toArray] (Els w3 [(q7, nn), (q6, W)]) (by kernel_rfl) (by kernel_rfl) H.out.drew (H.out.fresh) ?_ ?_
    · refine ⟨?_, ?_, ?_, ?_, ?_, ?_, ?_, trivial⟩
      · exact ⟨⟨_, rfl⟩, fun a' u K0 R hS hr ho h => wp_loadr structEl (.tmp 7) rfl ((ho 7 (by decide)).trans rfl) (hS.s (q7, nn) (by simp)) rfl (h u (Kept.refl _ _))⟩
      · refine ⟨⟨_, rfl⟩, fun a' u K0 R hS hr ho h => ?_⟩
        refine wp_callf rfl enters_squared (vs := #[el nn, .int .i64 (2 : Nat)]) ?_ (c2.out u) h
        have h0 := hr 0 (el nn) 24 _ rfl rfl rfl ⟨⟨0, .data⟩, by simp, rfl, rfl⟩
        simp [Act.eval] at h0 ⊢
        exact h0
      · exact ⟨⟨_, rfl⟩, fun a' u K0 R hS hr ho h => wp_loadr structEl (.tmp 6) rfl ((ho 6 (by decide)).trans rfl) (hS.s (q6, W) (by simp)) rfl (h u (Kept.refl _ _))⟩
      · refine ⟨⟨_, rfl⟩, fun a' u K0 R hS hr ho h => ?_⟩
        refine wp_callf rfl enters_square (vs := #[el W]) ?_ (cs.out u) h
        have h0 := hr 2 (el W) 26 _ rfl rfl rfl ⟨⟨2, .data⟩, by simp, rfl, rfl⟩
        simp [Act.eval] at h0 ⊢
        exact h0
      · refine ⟨⟨_, rfl⟩, fun a' u K0 R hS hr ho h => ?_⟩
        refine wp_callf rfl enters_mul (vs := #[el n2, el sw]) ?_ (ct.out u) h
        have h0 := hr 1 (el n2) 25 _ rfl rfl rfl ⟨⟨1, .data⟩, by simp, rfl, rfl⟩
        have h1 := hr 3 (el sw) 27 _ rfl rfl rfl ⟨⟨3, .data⟩, by simp, rfl, rfl⟩
        simp [Act.eval] at h0 h1 ⊢
        exact ⟨h0, h1⟩
      · exact ⟨⟨_, rfl⟩, rfl, zeroEl⟩
      · exact ⟨rfl, ⟨⟨5, .data⟩, by simp, rfl, rfl⟩, ⟨⟨4, .data⟩, by simp, rfl, rfl⟩, _, _, _, _, _, _, _, _, rfl, rfl, rfl, rfl, rfl, rfl, rfl, structEl, rfl, rfl, one_el _⟩
    intro γ r5 hS hγ hne hput
    have hg := hγ 5 _ _ rfl
    have hl := Nat.le_trans H.out.k.size hg
    have b := hput 6 5 4 _ _ _ rfl rfl
    have n69 := (H.out.s (q6, W) (by simp)).lt
    generalize e7 : γ 5 = q9 at *
    simp [actOf, VK, List.range, List.range.loop, Act.put, e7]
    have N := Lib.hid (show q6 ≠ q9 ∧ w3.heap.size ≤ q9 from ⟨by omega, hl⟩)
    have H := Lib.hid (show RtM w3 q6 q9 W X0 r5 from ⟨hS.s (q6, W) (by simp), b, hS.k⟩)
    clear b hl hput hne hγ hS e7 hg n69
    go_wp2_with fail
    cases t0 with
    | true =>
      refine Txt.wp_textG [0, 1, 4, 6] (RtM w3 q6 q9 W X0) [[_, _, _], [_], [_, _], [_]] (by kernel_rfl) (by kernel_rfl) rfl (H.out.kept (Kept.refl [] _).drew) (Txt.segs_cons ?_)
      have H := Lib.hid (H.out.kept (Kept.refl [] _).drew)
      go_wp2_with (first
        | (with_reducible refine wpl_load_row (o := ⟨some 29, _, _, _, _, _⟩) structEl rfl (.tmp 9) rfl rfl H.out.x rfl ?_)
        | (with_reducible refine wpl_load_row (o := ⟨some 30, _, _, _, _, _⟩) structEl rfl (.tmp 9) rfl rfl H.out.x rfl ?_)
        | (go_at_call 15; refine (cq.out _).mono ?_; rintro e da ⟨rfl, kk⟩; have H := Lib.hid (H.out.kept kk); clear kk))
      refine ⟨rfl, H.out, Txt.segs_cons ?_⟩
      go_wp2_with (go_at_call 14; (with_reducible refine (hs0.out _).mono ?_); rintro e db ⟨rfl, kk⟩; have H := Lib.hid (H.out.kept kk); clear kk)
      refine ⟨rfl, H.out, Txt.segs_cons ?_⟩
      go_wp2_with (first
        | (with_reducible refine wpl_load_row (o := ⟨some 33, _, _, _, _, _⟩) structEl rfl (.tmp 6) rfl rfl H.out.w rfl ?_)
        | (go_at_call 14; refine (hw0.out _).mono ?_; rintro e dc ⟨rfl, kk⟩; have H := Lib.hid (H.out.kept kk); clear kk))
      refine ⟨rfl, H.out, Txt.segs_cons ?_⟩
      go_wp2_with fail
      refine ⟨rfl, H.out, Txt.segs_nil ⟨⟨by kernel_rfl, ?_⟩, ?_⟩⟩
      · intro j hj o ho _
        have hj2 : j = 0 ∨ j = 1 ∨ j = 4 ∨ j = 6 := by simpa using hj
        rcases hj2 with rfl | rfl | rfl | rfl <;> cases ho
        · exact ⟨29, rfl, fun u hu => exec_load structEl (.tmp 9) rfl rfl hu.x rfl⟩
        · exact ⟨30, rfl, fun u hu => exec_load structEl (.tmp 9) rfl rfl hu.x rfl⟩
        · exact ⟨33, rfl, fun u hu => exec_load structEl (.tmp 6) rfl rfl hu.w rfl⟩
        · exact ⟨35, rfl, fun u _ => (exec_neq_ab arrB Try.underlying5 (by kernel_rfl) (by kernel_rfl) (.tmp 32) (.tmp 34) rfl (xs := le s0 32) (ys := le w0 32) rfl rfl (le_len _ _) (le_len _ _)).trans (by rw [qq0.out]; rfl)⟩
      have H := Lib.hid (show RtM w3 q6 q9 W X1 _ from (show X1 = X0 from hxx.out) ▸ H.out)
      go_wp2_with fail
      cases t1 with
      | false =>
        refine Txt.wp_textG [0, 1, 4, 6] (RtM w3 q6 q9 W X1) [[_, _, _], [_], [_, _], [_]] (by kernel_rfl) (by kernel_rfl) rfl (H.out.kept (Kept.refl [] _).drew) (Txt.segs_cons ?_)
        have H := Lib.hid (H.out.kept (Kept.refl [] _).drew)
        go_wp2_with (first
          | (with_reducible refine wpl_load_row (o := ⟨some 39, _, _, _, _, _⟩) structEl rfl (.tmp 9) rfl rfl H.out.x rfl ?_)
          | (with_reducible refine wpl_load_row (o := ⟨some 40, _, _, _, _, _⟩) structEl rfl (.tmp 9) rfl rfl H.out.x rfl ?_)
          | (go_at_call 15; refine (cq1.out _).mono ?_; rintro e fa ⟨rfl, kk⟩; have H := Lib.hid (H.out.kept kk); clear kk))
        refine ⟨rfl, H.out, Txt.segs_cons ?_⟩
        go_wp2_with (go_at_call 14; (with_reducible refine (hs1.out _).mono ?_); rintro e fb ⟨rfl, kk⟩; have H := Lib.hid (H.out.kept kk); clear kk)
        refine ⟨rfl, H.out, Txt.segs_cons ?_⟩
        go_wp2_with (first
          | (with_reducible refine wpl_load_row (o := ⟨some 43, _, _, _, _, _⟩) structEl rfl (.tmp 6) rfl rfl H.out.w rfl ?_)
          | (go_at_call 14; refine (hw0.out _).mono ?_; rintro e fc ⟨rfl, kk⟩; have H := Lib.hid (H.out.kept kk); clear kk))
        refine ⟨rfl, H.out, Txt.segs_cons ?_⟩
        go_wp2_with fail
        refine ⟨rfl, H.out, Txt.segs_nil ⟨⟨by kernel_rfl, ?_⟩, ?_⟩⟩
        · intro j hj o ho _
          have hj2 : j = 0 ∨ j = 1 ∨ j = 4 ∨ j = 6 := by simpa using hj
          rcases hj2 with rfl | rfl | rfl | rfl <;> cases ho
          · exact ⟨39, rfl, fun u hu => exec_load structEl (.tmp 9) rfl rfl hu.x rfl⟩
          · exact ⟨40, rfl, fun u hu => exec_load structEl (.tmp 9) rfl rfl hu.x rfl⟩
          · exact ⟨43, rfl, fun u hu => exec_load structEl (.tmp 6) rfl rfl hu.w rfl⟩
          · exact ⟨45, rfl, fun u _ => (exec_neq_ab arrB Try.underlying5 (by kernel_rfl) (by kernel_rfl) (.tmp 42) (.tmp 44) rfl (xs := le s1 32) (ys := le w0 32) rfl rfl (le_len _ _) (le_len _ _)).trans (by rw [qq1.out]; rfl)⟩
        go_wp2_with (first
          | (with_reducible refine wpl_build0 (o := ⟨some 46, _, _, _, _, _⟩) rfl rfl build_el ?_)
          | ((with_reducible refine wpl_store_row (o := ⟨none, .store 27 (.tmp 4) (.tmp 46), _, _, _, _⟩) structEl rfl (.tmp 4) (.tmp 46) rfl rfl rfl (B4.out.kept H.out.k (by simp)) rfl rfl (one_el _) ?_); intro v4 b4 k4))
        exact ret_row2 structEl rfl rfl b4 rfl rfl ⟨rfl, (D.out.2.then0 H.out.k).then1 k4 D.out.1⟩
      | true =>
        refine Txt.wp_textG [0, 1, 4, 6] (RtM w3 q6 q9 W X1) [[_, _, _], [_], [_, _], [_]] (by kernel_rfl) (by kernel_rfl) rfl (H.out.kept (Kept.refl [] _).drew) (Txt.segs_cons ?_)
        have H := Lib.hid (H.out.kept (Kept.refl [] _).drew)
        go_wp2_with (first
          | (with_reducible refine wpl_load_row (o := ⟨some 39, _, _, _, _, _⟩) structEl rfl (.tmp 9) rfl rfl H.out.x rfl ?_)
          | (with_reducible refine wpl_load_row (o := ⟨some 40, _, _, _, _, _⟩) structEl rfl (.tmp 9) rfl rfl H.out.x rfl ?_)
          | (go_at_call 15; refine (cq1.out _).mono ?_; rintro e fa ⟨rfl, kk⟩; have H := Lib.hid (H.out.kept kk); clear kk))
        refine ⟨rfl, H.out, Txt.segs_cons ?_⟩
        go_wp2_with (go_at_call 14; (with_reducible refine (hs1.out _).mono ?_); rintro e fb ⟨rfl, kk⟩; have H := Lib.hid (H.out.kept kk); clear kk)
        refine ⟨rfl, H.out, Txt.segs_cons ?_⟩
        go_wp2_with (first
          | (with_reducible refine wpl_load_row (o := ⟨some 43, _, _, _, _, _⟩) structEl rfl (.tmp 6) rfl rfl H.out.w rfl ?_)
          | (go_at_call 14; refine (hw0.out _).mono ?_; rintro e fc ⟨rfl, kk⟩; have H := Lib.hid (H.out.kept kk); clear kk))
        refine ⟨rfl, H.out, Txt.segs_cons ?_⟩
        go_wp2_with fail
        refine ⟨rfl, H.out, Txt.segs_nil ⟨⟨by kernel_rfl, ?_⟩, ?_⟩⟩
        · intro j hj o ho _
          have hj2 : j = 0 ∨ j = 1 ∨ j = 4 ∨ j = 6 := by simpa using hj
          rcases hj2 with rfl | rfl | rfl | rfl <;> cases ho
          · exact ⟨39, rfl, fun u hu => exec_load structEl (.tmp 9) rfl rfl hu.x rfl⟩
          · exact ⟨40, rfl, fun u hu => exec_load structEl (.tmp 9) rfl rfl hu.x rfl⟩
          · exact ⟨43, rfl, fun u hu => exec_load structEl (.tmp 6) rfl rfl hu.w rfl⟩
          · exact ⟨45, rfl, fun u _ => (exec_neq_ab arrB Try.underlying5 (by kernel_rfl) (by kernel_rfl) (.tmp 42) (.tmp 44) rfl (xs := le s1 32) (ys := le w0 32) rfl rfl (le_len _ _) (le_len _ _)).trans (by rw [qq1.out]; rfl)⟩
        cases od with
        | false =>
          go_wp2_with (first
            | (with_reducible refine wpl_load_row (o := ⟨some 47, _, _, _, _, _⟩) structEl rfl (.tmp 9) rfl rfl H.out.x rfl ?_)
            | (go_at_call 17; refine (cod.out _).mono ?_; rintro e fd ⟨rfl, kk⟩; have H := Lib.hid (H.out.kept kk); clear kk)
            | (with_reducible refine wpl_load_row (o := ⟨some 52, _, _, _, _, _⟩) structEl rfl (.tmp 9) rfl rfl H.out.x rfl ?_)
            | ((with_reducible refine wpl_store_row (o := ⟨none, .store 27 (.tmp 4) (.tmp 52), _, _, _, _⟩) structEl rfl (.tmp 4) (.tmp 52) rfl rfl rfl (B4.out.kept H.out.k (by simp)) rfl rfl (one_el _) ?_); intro v4 b4 k4))
          exact ret_row2 structEl rfl rfl b4 rfl rfl ⟨rfl, (D.out.2.then0 H.out.k).then1 k4 D.out.1⟩
        | true =>
          go_wp2_with (first
            | (with_reducible refine wpl_load_row (o := ⟨some 47, _, _, _, _, _⟩) structEl rfl (.tmp 9) rfl rfl H.out.x rfl ?_)
            | (go_at_call 17; refine (cod.out _).mono ?_; rintro e fd ⟨rfl, kk⟩; have H := Lib.hid (H.out.kept kk); clear kk)
            | (with_reducible refine wpl_build0 (o := ⟨some 49, _, _, _, _, _⟩) rfl rfl build_el ?_)
            | (with_reducible refine wpl_load_row (o := ⟨some 50, _, _, _, _, _⟩) structEl rfl (.tmp 9) rfl rfl H.out.x rfl ?_)
            | (go_at_call 16; refine (csu.out _).mono ?_; rintro e fe ⟨rfl, kk⟩; have H := Lib.hid (H.out.kept kk); clear kk)
            | ((with_reducible refine wpl_store_row (o := ⟨none, .store 27 (.tmp 9) (.tmp 51), _, _, _, _⟩) structEl rfl (.tmp 9) (.tmp 51) rfl rfl rfl H.out.x rfl rfl (one_el _) ?_); intro v9 b9 k9; have H := Lib.hid (H.out.put N.out b9 k9); clear b9 k9)
            | (with_reducible refine wpl_load_row (o := ⟨some 52, _, _, _, _, _⟩) structEl rfl (.tmp 9) rfl rfl H.out.x rfl ?_)
            | ((with_reducible refine wpl_store_row (o := ⟨none, .store 27 (.tmp 4) (.tmp 52), _, _, _, _⟩) structEl rfl (.tmp 4) (.tmp 52) rfl rfl rfl (B4.out.kept H.out.k (by simp)) rfl rfl (one_el _) ?_); intro v4 b4 k4))
          exact ret_row2 structEl rfl rfl b4 rfl rfl ⟨rfl, (D.out.2.then0 H.out.k).then1 k4 D.out.1⟩
    | false =>
      refine Txt.wp_textG [0, 1, 4, 6] (RtM w3 q6 q9 W X0) [[_, _, _], [_], [_, _], [_]] (by kernel_rfl) (by kernel_rfl) rfl (H.out.kept (Kept.refl [] _).drew) (Txt.segs_cons ?_)
      have H := Lib.hid (H.out.kept (Kept.refl [] _).drew)
      go_wp2_with (first
        | (with_reducible refine wpl_load_row (o := ⟨some 29, _, _, _, _, _⟩) structEl rfl (.tmp 9) rfl rfl H.out.x rfl ?_)
        | (with_reducible refine wpl_load_row (o := ⟨some 30, _, _, _, _, _⟩) structEl rfl (.tmp 9) rfl rfl H.out.x rfl ?_)
        | (go_at_call 15; refine (cq.out _).mono ?_; rintro e da ⟨rfl, kk⟩; have H := Lib.hid (H.out.kept kk); clear kk))
      refine ⟨rfl, H.out, Txt.segs_cons ?_⟩
      go_wp2_with (go_at_call 14; (with_reducible refine (hs0.out _).mono ?_); rintro e db ⟨rfl, kk⟩; have H := Lib.hid (H.out.kept kk); clear kk)
      refine ⟨rfl, H.out, Txt.segs_cons ?_⟩
      go_wp2_with (first
        | (with_reducible refine wpl_load_row (o := ⟨some 33, _, _, _, _, _⟩) structEl rfl (.tmp 6) rfl rfl H.out.w rfl ?_)
        | (go_at_call 14; refine (hw0.out _).mono ?_; rintro e dc ⟨rfl, kk⟩; have H := Lib.hid (H.out.kept kk); clear kk))
      refine ⟨rfl, H.out, Txt.segs_cons ?_⟩
      go_wp2_with fail
      refine ⟨rfl, H.out, Txt.segs_nil ⟨⟨by kernel_rfl, ?_⟩, ?_⟩⟩
      · intro j hj o ho _
        have hj2 : j = 0 ∨ j = 1 ∨ j = 4 ∨ j = 6 := by simpa using hj
        rcases hj2 with rfl | rfl | rfl | rfl <;> cases ho
        · exact ⟨29, rfl, fun u hu => exec_load structEl (.tmp 9) rfl rfl hu.x rfl⟩
        · exact ⟨30, rfl, fun u hu => exec_load structEl (.tmp 9) rfl rfl hu.x rfl⟩
        · exact ⟨33, rfl, fun u hu => exec_load structEl (.tmp 6) rfl rfl hu.w rfl⟩
        · exact ⟨35, rfl, fun u _ => (exec_neq_ab arrB Try.underlying5 (by kernel_rfl) (by kernel_rfl) (.tmp 32) (.tmp 34) rfl (xs := le s0 32) (ys := le w0 32) rfl rfl (le_len _ _) (le_len _ _)).trans (by rw [qq0.out]; rfl)⟩
      go_wp2_with fail
      refine wp_last (by kernel_rfl) [el X0, el m1F, el XM] (RtM w3 q6 q9 W X0) (by kernel_rfl) rfl rfl (by kernel_rfl) (H.out.kept (Kept.refl [] _).drew) (fun u u' h hk => h.kept hk) ?_ ?_
      · refine ⟨?_, ?_, ?_, trivial⟩
        · exact fun a' u K0 R hS hr ho h => wp_loadr structEl (.tmp 9) rfl ((ho 9 (by decide)).trans rfl) hS.x rfl (h u (Kept.refl _ _))
        · refine fun a' u K0 R hS hr ho h => ?_
          exact wp_callf rfl enters_m1 (vs := #[]) (by simp) (c1.out u) h
        · refine fun a' u K0 R hS hr ho h => ?_
          refine wp_callf rfl enters_mul (vs := #[el X0, el m1F]) ?_ (cm1.out u) h
          have h0 := hr 0 (el X0) 36 _ rfl rfl rfl ⟨⟨0, .data⟩, by simp, rfl, rfl⟩
          have h1 := hr 1 (el m1F) 37 _ rfl rfl rfl ⟨⟨1, .data⟩, by simp, rfl, rfl⟩
          simp [Act.eval] at h0 h1 ⊢
          exact ⟨h0, h1⟩
      intro u7 hS7
      have H := Lib.hid (show RtM w3 q6 q9 W X1 (u7.setRow q9 (uv (fam 5 XM)).toArray) from (show X1 = XM from hxx.out) ▸ hS7.put N.out (hS7.x.setRow_ _) ((Kept.refl [q9] u7).setRow (.inl (by simp)) _))
      refine wp_storer structEl (.tmp 9) (.tmp 38) rfl rfl rfl hS7.x rfl rfl (one_el _) ?_
      simp [actOf, List.range, List.range.loop, Act.put]
      generalize u7.setRow q9 (uv (fam 5 XM)).toArray = u8 at *
      clear hS7
      go_wp2_with fail
      cases t1 with
      | false =>
        refine Txt.wp_textG [0, 1, 4, 6] (RtM w3 q6 q9 W X1) [[_, _, _], [_], [_, _], [_]] (by kernel_rfl) (by kernel_rfl) rfl (H.out.kept (Kept.refl [] _).drew) (Txt.segs_cons ?_)
        have H := Lib.hid (H.out.kept (Kept.refl [] _).drew)
        go_wp2_with (first
          | (with_reducible refine wpl_load_row (o := ⟨some 39, _, _, _, _, _⟩) structEl rfl (.tmp 9) rfl rfl H.out.x rfl ?_)
          | (with_reducible refine wpl_load_row (o := ⟨some 40, _, _, _, _, _⟩) structEl rfl (.tmp 9) rfl rfl H.out.x rfl ?_)
          | (go_at_call 15; refine (cq1.out _).mono ?_; rintro e fa ⟨rfl, kk⟩; have H := Lib.hid (H.out.kept kk); clear kk))
        refine ⟨rfl, H.out, Txt.segs_cons ?_⟩
        go_wp2_with (go_at_call 14; (with_reducible refine (hs1.out _).mono ?_); rintro e fb ⟨rfl, kk⟩; have H := Lib.hid (H.out.kept kk); clear kk)
        refine ⟨rfl, H.out, Txt.segs_cons ?_⟩
        go_wp2_with (first
          | (with_reducible refine wpl_load_row (o := ⟨some 43, _, _, _, _, _⟩) structEl rfl (.tmp 6) rfl rfl H.out.w rfl ?_)
          | (go_at_call 14; refine (hw0.out _).mono ?_; rintro e fc ⟨rfl, kk⟩; have H := Lib.hid (H.out.kept kk); clear kk))
        refine ⟨rfl, H.out, Txt.segs_cons ?_⟩
        go_wp2_with fail
        refine ⟨rfl, H.out, Txt.segs_nil ⟨⟨by kernel_rfl, ?_⟩, ?_⟩⟩
        · intro j hj o ho _
          have hj2 : j = 0 ∨ j = 1 ∨ j = 4 ∨ j = 6 := by simpa using hj
          rcases hj2 with rfl | rfl | rfl | rfl <;> cases ho
          · exact ⟨39, rfl, fun u hu => exec_load structEl (.tmp 9) rfl rfl hu.x rfl⟩
          · exact ⟨40, rfl, fun u hu => exec_load structEl (.tmp 9) rfl rfl hu.x rfl⟩
          · exact ⟨43, rfl, fun u hu => exec_load structEl (.tmp 6) rfl rfl hu.w rfl⟩
          · exact ⟨45, rfl, fun u _ => (exec_neq_ab arrB Try.underlying5 (by kernel_rfl) (by kernel_rfl) (.tmp 42) (.tmp 44) rfl (xs := le s1 32) (ys := le w0 32) rfl rfl (le_len _ _) (le_len _ _)).trans (by rw [qq1.out]; rfl)⟩
        go_wp2_with (first
          | (with_reducible refine wpl_build0 (o := ⟨some 46, _, _, _, _, _⟩) rfl rfl build_el ?_)
          | ((with_reducible refine wpl_store_row (o := ⟨none, .store 27 (.tmp 4) (.tmp 46), _, _, _, _⟩) structEl rfl (.tmp 4) (.tmp 46) rfl rfl rfl (B4.out.kept H.out.k (by simp)) rfl rfl (one_el _) ?_); intro v4 b4 k4))
        exact ret_row2 structEl rfl rfl b4 rfl rfl ⟨rfl, (D.out.2.then0 H.out.k).then1 k4 D.out.1⟩
      | true =>
        refine Txt.wp_textG [0, 1, 4, 6] (RtM w3 q6 q9 W X1) [[_, _, _], [_], [_, _], [_]] (by kernel_rfl) (by kernel_rfl) rfl (H.out.kept (Kept.refl [] _).drew) (Txt.segs_cons ?_)
        have H := Lib.hid (H.out.kept (Kept.refl [] _).drew)
        go_wp2_with (first
          | (with_reducible refine wpl_load_row (o := ⟨some 39, _, _, _, _, _⟩) structEl rfl (.tmp 9) rfl rfl H.out.x rfl ?_)
          | (with_reducible refine wpl_load_row (o := ⟨some 40, _, _, _, _, _⟩) structEl rfl (.tmp 9) rfl rfl H.out.x rfl ?_)
          | (go_at_call 15; refine (cq1.out _).mono ?_; rintro e fa ⟨rfl, kk⟩; have H := Lib.hid (H.out.kept kk); clear kk))
        refine ⟨rfl, H.out, Txt.segs_cons ?_⟩
        go_wp2_with (go_at_call 14; (with_reducible refine (hs1.out _).mono ?_); rintro e fb ⟨rfl, kk⟩; have H := Lib.hid (H.out.kept kk); clear kk)
        refine ⟨rfl, H.out, Txt.segs_cons ?_⟩
        go_wp2_with (first
          | (with_reducible refine wpl_load_row (o := ⟨some 43, _, _, _, _, _⟩) structEl rfl (.tmp 6) rfl rfl H.out.w rfl ?_)
          | (go_at_call 14; refine (hw0.out _).mono ?_; rintro e fc ⟨rfl, kk⟩; have H := Lib.hid (H.out.kept kk); clear kk))
        refine ⟨rfl, H.out, Txt.segs_cons ?_⟩
        go_wp2_with fail
        refine ⟨rfl, H.out, Txt.segs_nil ⟨⟨by kernel_rfl, ?_⟩, ?_⟩⟩
        · intro j hj o ho _
          have hj2 : j = 0 ∨ j = 1 ∨ j = 4 ∨ j = 6 := by simpa using hj
          rcases hj2 with rfl | rfl | rfl | rfl <;> cases ho
          · exact ⟨39, rfl, fun u hu => exec_load structEl (.tmp 9) rfl rfl hu.x rfl⟩
          · exact ⟨40, rfl, fun u hu => exec_load structEl (.tmp 9) rfl rfl hu.x rfl⟩
          · exact ⟨43, rfl, fun u hu => exec_load structEl (.tmp 6) rfl rfl hu.w rfl⟩
          · exact ⟨45, rfl, fun u _ => (exec_neq_ab arrB Try.underlying5 (by kernel_rfl) (by kernel_rfl) (.tmp 42) (.tmp 44) rfl (xs := le s1 32) (ys := le w0 32) rfl rfl (le_len _ _) (le_len _ _)).trans (by rw [qq1.out]; rfl)⟩
        cases od with
        | false =>
          go_wp2_with (first
            | (with_reducible refine wpl_load_row (o := ⟨some 47, _, _, _, _, _⟩) structEl rfl (.tmp 9) rfl rfl H.out.x rfl ?_)
            | (go_at_call 17; refine (cod.out _).mono ?_; rintro e fd ⟨rfl, kk⟩; have H := Lib.hid (H.out.kept kk); clear kk)
            | (with_reducible refine wpl_load_row (o := ⟨some 52, _, _, _, _, _⟩) structEl rfl (.tmp 9) rfl rfl H.out.x rfl ?_)
            | ((with_reducible refine wpl_store_row (o := ⟨none, .store 27 (.tmp 4) (.tmp 52), _, _, _, _⟩) structEl rfl (.tmp 4) (.tmp 52) rfl rfl rfl (B4.out.kept H.out.k (by simp)) rfl rfl (one_el _) ?_); intro v4 b4 k4))
          exact ret_row2 structEl rfl rfl b4 rfl rfl ⟨rfl, (D.out.2.then0 H.out.k).then1 k4 D.out.1⟩
        | true =>
          go_wp2_with (first
            | (with_reducible refine wpl_load_row (o := ⟨some 47, _, _, _, _, _⟩) structEl rfl (.tmp 9) rfl rfl H.out.x rfl ?_)
            | (go_at_call 17; refine (cod.out _).mono ?_; rintro e fd ⟨rfl, kk⟩; have H := Lib.hid (H.out.kept kk); clear kk)
            | (with_reducible refine wpl_build0 (o := ⟨some 49, _, _, _, _, _⟩) rfl rfl build_el ?_)
            | (with_reducible refine wpl_load_row (o := ⟨some 50, _, _, _, _, _⟩) structEl rfl (.tmp 9) rfl rfl H.out.x rfl ?_)
            | (go_at_call 16; refine (csu.out _).mono ?_; rintro e fe ⟨rfl, kk⟩; have H := Lib.hid (H.out.kept kk); clear kk)
            | ((with_reducible refine wpl_store_row (o := ⟨none, .store 27 (.tmp 9) (.tmp 51), _, _, _, _⟩) structEl rfl (.tmp 9) (.tmp 51) rfl rfl rfl H.out.x rfl rfl (one_el _) ?_); intro v9 b9 k9; have H := Lib.hid (H.out.put N.out b9 k9); clear b9 k9)
            | (with_reducible refine wpl_load_row (o := ⟨some 52, _, _, _, _, _⟩) structEl rfl (.tmp 9) rfl rfl H.out.x rfl ?_)
            | ((with_reducible refine wpl_store_row (o := ⟨none, .store 27 (.tmp 4) (.tmp 52), _, _, _, _⟩) structEl rfl (.tmp 4) (.tmp 52) rfl rfl rfl (B4.out.kept H.out.k (by simp)) rfl rfl (one_el _) ?_); intro v4 b4 k4))
          exact ret_row2 structEl rfl rfl b4 rfl rfl ⟨rfl, (D.out.2.then0 H.out.k).then1 k4 D.out.1⟩
end Go.Proofs.Ythmpdhegodmjjaa
