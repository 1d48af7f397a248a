/-
  The document's field: inverses; which quotients have roots.
-/
import Derived.Test.YthmpdhegodmjjaaRf10
import Derived.Test.YthmpdhegodmjjaaFl4
namespace Go.Proofs.Ythmpdhegodmjjaa
open Go.RowKit Go.Mem Go.Txt

def IE : Nat := PP - 2
theorem IE_eq : 2 ^ 255 - 21 = IE := by decide +kernel
def invN (a : Nat → Int) : Nat → Int := powN a 255 21
theorem dr_inv {a : Nat → Int} {A : Nat} (h : Dr a A) : Dr (invN a) (A ^ IE) := by
  have := dr_pow h 255 21
  rwa [IE_eq] at this
def eulN (a : Nat → Int) : Nat → Int := powN a 254 10
theorem dr_eul {a : Nat → Int} {A : Nat} (h : Dr a A) : Dr (eulN a) (A ^ EE) := by
  have := dr_pow h 254 10
  rwa [EE_eq] at this
abbrev RiC (a r : Nat → Int) : Prop := ∀ W, Calls Try.prog 24 #[nu a] W fun e w' => e = .returned (nu r) ∧ Kept [] W w'
abbrev RmC (a b r : Nat → Int) : Prop := ∀ W, Calls Try.prog 30 #[nu a, nu b] W fun e w' => e = .returned (nu r) ∧ Kept [] W w'

set_option maxRecDepth 100000 in
set_option maxHeartbeats 1600000 in
theorem rinv_any {a : Nat → Int} {A : Nat} (h : Dr a A) : RiC a (invN a) := by
  intro w
  have cp := Lib.hid (show ∀ W, Calls Try.prog 38 #[nu a, .int .i64 255, .int .u64 21] W fun e w' => e = .returned (nu (invN a)) ∧ Kept [] W w' from fun W => power_any a A 255 21 h (by omega) (by decide +kernel) (by omega) W)
  clear h
  go_enter Try.func24, Try.ntmps24
  go_wp2_with (first
    | ((with_reducible refine wpl_box (o := ⟨some 1, _, _, _, _, _⟩) (v := nu a) rfl (.tmp 0) rfl rfl ?_); intro g1 w1 m1)
    | ((with_reducible refine wpl_new (o := ⟨some 2, _, _, _, _, _⟩) rfl rfl zeroN ?_); intro g2 w2 m2)
    | (with_reducible refine wpl_load_row (o := ⟨some 3, _, _, _, _, _⟩) arrN.row rfl (.tmp 1) rfl rfl (m1.blk.kept m2.kept (by simp)) rfl ?_)
    | (go_at_call 38; (with_reducible refine (cp.out _).mono ?_); rintro e x1 ⟨rfl, kk1⟩)
    | ((with_reducible refine wpl_store_row (o := ⟨none, .store 38 (.tmp 2) (.tmp 4), _, _, _, _⟩) arrN.row rfl (.tmp 2) (.tmp 4) rfl rfl rfl (m2.blk.kept kk1 (by simp)) rfl rfl (one_nu _) ?_); intro v2 b2 k2))
  exact ret_row arrN.row rfl rfl b2 rfl rfl ⟨rfl, ((m1.kept.then0 m2.kept).then0 kk1).then1 k2 (Nat.le_trans m1.kept.size m2.le)⟩
theorem enters_rinv (xs : Array Value) (w : World) : (callFunc 24 xs).run Try.prog w = .ok (.enter 24 xs) w := enters_of (c := _) Try.func24 (by kernel_rfl) rfl xs w
theorem enters_rmul (xs : Array Value) (w : World) : (callFunc 30 xs).run Try.prog w = .ok (.enter 30 xs) w := enters_of (c := _) Try.func30 (by kernel_rfl) rfl xs w
/-- Has a quotient a root? -/
def sqB (U V : Nat) : Bool := decide ((U * V ^ IE) ^ EE % PP = 1) || decide ((U * V ^ IE) ^ EE % PP = 0)

set_option maxRecDepth 100000 in
set_option maxHeartbeats 1600000 in
theorem square_any {a b : Nat → Int} {U V : Nat} (ha : Dr a U) (hb : Dr b V) (w : World) :
    Calls Try.prog 27 #[nu a, nu b] w fun e w' => e = .returned (.bool (sqB U V)) ∧ Kept [] w w' := by
  have ci := Lib.hid (rinv_any hb)
  have hi := dr_inv hb
  have cm := Lib.hid (show RmC a (invN b) (muN a (invN b)) from fun W => rmul_any a (invN b) ha.sm hi.sm W)
  have hm := ha.mu hi
  have cp := Lib.hid (show ∀ W, Calls Try.prog 38 #[nu (muN a (invN b)), .int .i64 254, .int .u64 10] W fun e w' => e = .returned (nu (eulN (muN a (invN b)))) ∧ Kept [] W w' from fun W => power_any _ _ 254 10 hm (by omega) (by decide +kernel) (by omega) W)
  have he := dr_eul hm
  obtain ⟨z, hzz⟩ : ∃ z, z = (U * V ^ IE) ^ EE % PP := ⟨_, rfl⟩
  have ck := Lib.hid (dr_pk he hzz.symm)
  have hzl := Lib.hid (show z < PP from hzz ▸ Nat.mod_lt _ PP_pos)
  obtain ⟨res, hres⟩ : ∃ r, r = sqB U V := ⟨_, rfl⟩
  have hr2 : res = (decide (z = 1) || decide (z = 0)) := by rw [hres, hzz]; rfl
  replace hres := Lib.hid hres.symm
  have hz := Lib.hid (show (bv (le z 32)).length = 32 by simp [le_len])
  generalize eulN (muN a (invN b)) = ED at *
  generalize muN a (invN b) = MD at *
  generalize invN b = ID at *
  replace hr2 := Lib.hid hr2
  clear hi hm he hzz ha hb
  go_enter Try.func27, Try.ntmps27
  go_wp2_with (first
    | ((with_reducible refine wpl_box (o := ⟨some 2, _, _, _, _, _⟩) (v := nu a) rfl (.tmp 0) rfl rfl ?_); intro g2 w2 m2)
    | ((with_reducible refine wpl_box (o := ⟨some 3, _, _, _, _, _⟩) (v := nu b) rfl (.tmp 1) rfl rfl ?_); intro g3 w3 m3))
  have t := Lib.hid (show Mm w [] [] [(g3, b), (g2, a)] w3 from (((Mm.none w).kept m2.kept).ncons m2.blk).kept m3.kept |>.ncons m3.blk)
  clear m2 m3
  refine wp_multi (by kernel_rfl) [.val (nu a), .val (nu b), .val (nu ID), .val (nu MD), .new 38 (nu zd), .put 4 3 (iv (fam 16 MD)).toArray]
    (Mm w [] [] [(g3, b), (g2, a)]) (by kernel_rfl) (by kernel_rfl) t.out.drew (fun u u' T hS hk hT => t.out.fresh u u' T hS hk hT) ?_ ?_
  · refine ⟨?_, ?_, ?_, ?_, ⟨⟨_, rfl⟩, rfl, zeroN⟩, ?_, trivial⟩
    · refine ⟨⟨_, rfl⟩, fun a' u K0 R hS hr ho h => ?_⟩
      exact wp_loadr arrN.row (.tmp 2) rfl ((ho 2 (by decide)).trans rfl) (hS.n (g2, a) (by simp)) rfl (h u (Kept.refl _ _))
    · refine ⟨⟨_, rfl⟩, fun a' u K0 R hS hr ho h => ?_⟩
      exact wp_loadr arrN.row (.tmp 3) rfl ((ho 3 (by decide)).trans rfl) (hS.n (g3, b) (by simp)) rfl (h u (Kept.refl _ _))
    · refine ⟨⟨_, rfl⟩, fun a' u K0 R hS hr ho h => ?_⟩
      refine wp_callf rfl enters_rinv (vs := #[nu b]) ?_ (ci.out u) h
      have := hr 1 (nu b) 8 _ rfl rfl rfl ⟨⟨1, .data⟩, by simp, rfl, rfl⟩
      simpa [Act.eval] using this
    · refine ⟨⟨_, rfl⟩, fun a' u K0 R hS hr ho h => ?_⟩
      refine wp_callf rfl enters_rmul (vs := #[nu a, nu ID]) ?_ (cm.out u) h
      have h0 := hr 0 (nu a) 7 _ rfl rfl rfl ⟨⟨0, .data⟩, by simp, rfl, rfl⟩
      have h1 := hr 2 (nu ID) 9 _ rfl rfl rfl ⟨⟨2, .data⟩, by simp, rfl, rfl⟩
      simp [Act.eval] at h0 h1 ⊢
      exact ⟨h0, h1⟩
    · exact ⟨rfl, ⟨⟨4, .data⟩, by simp, rfl, rfl⟩, ⟨⟨3, .data⟩, by simp, rfl, rfl⟩, _, _, _, _, _, _, _, _, rfl, rfl, rfl, rfl, rfl, rfl, rfl, arrN.row, rfl, rfl, one_nu _⟩
  · intro γ w6 hS hγ hne hput
    have b5 := hput 5 4 3 _ _ _ rfl rfl
    generalize e5 : γ 4 = g5 at *
    simp [actOf, VK, List.range, List.range.loop, Act.put, e5]
    have t5 := Lib.hid (show Mm w [] [] [(g5, MD)] w6 from Mm.ncons ⟨fun _ h => absurd h (by simp), fun _ h => absurd h (by simp), fun _ h => absurd h (by simp), hS.k⟩ b5)
    clear b5 hput hne hγ hS e5 t
    have t := t5
    clear t5
    go_wp2_with (first
      | (with_reducible refine wpl_load_row (o := ⟨some 11, _, _, _, _, _⟩) arrN.row rfl (.tmp 5) rfl rfl (t.out.n (g5, MD) (by simp)) rfl ?_)
      | (go_at_call 38; (with_reducible refine (cp.out _).mono ?_); rintro e x1 ⟨rfl, kk⟩; have t := Lib.hid (t.out.kept kk); clear kk)
      | (go_at_call 20; (with_reducible refine (ck.out _).mono ?_); rintro e x1 ⟨rfl, kk⟩; have t := Lib.hid (t.out.kept kk); clear kk)
      | ((with_reducible refine wpl_new (o := ⟨some 6, _, _, _, _, _⟩) rfl rfl zeroB ?_); intro g6 x6 m6)
      | ((with_reducible refine wpl_store_row (o := ⟨none, .store 29 (.tmp 6) (.tmp 13), _, _, _, _⟩) arrB.row rfl (.tmp 6) (.tmp 13) rfl rfl rfl m6.blk rfl hz.out (one_ab _) ?_); intro v6 b6 k6; have t9 := Lib.hid (show Mm w [(g6, le z 32)] [] [] v6 from Mm.bcons ⟨fun _ h => absurd h (by simp), fun _ h => absurd h (by simp), fun _ h => absurd h (by simp), (t.out.kept m6.kept).k.then1 k6 (Nat.le_trans t.out.k.size m6.le)⟩ b6); clear t m6 b6 k6; have t := t9; clear t9))
    by_cases z1 : z = 1
    · have hres := Lib.hid (show sqB U V = true from by rw [hres.out, hr2.out, decide_eq_true z1]; rfl)
      replace z1 := Lib.hid z1
      have k0 : ∀ W, Calls Try.prog 21 #[.int .u64 1] W fun e w' => e = .returned (nu (dgN 1)) ∧ Kept [] W w' := fun W => of_any 1 (by omega) W
      replace k0 := Lib.hid k0
      have k1 : PkC (dgN 1) 1 := dr_pk (dr_dgN 1 (by decide)) (by decide +kernel)
      replace k1 := Lib.hid k1
      have Q17 : ((le z 32) == (le 1 32)) = true := by rw [z1.out]; exact beq_self_eq_true _
      have q17 := eql_run Q17 hz.out (le_len _ _)
      replace Q17 := Lib.hid Q17
      refine Txt.wp_textG [0, 3, 5, 8] (Mm w [(g6, (le z 32))] [] []) [[_, _], [_], [_, _, _, _], [_], [_, _, _]] (by kernel_rfl) (by kernel_rfl) rfl t.out.drew (Txt.segs_cons ?_)
      replace t := Lib.hid t.out.drew
      go_wp2_with (first
        | (refine wpl_load_arr (o := ⟨some 14, _, _, _, _, _⟩) arrB rfl (.tmp 6) rfl rfl (t.out.b (g6, (le z 32)) (by simp)) hz.out ?_)
        | (go_at_call 21; (with_reducible refine (k0.out _).mono ?_); rintro e v ⟨rfl, kk⟩; have t := Lib.hid (t.out.kept kk); clear kk))
      refine ⟨rfl, t.out, Txt.segs_cons ?_⟩
      go_wp2_with (first
        | (go_at_call 20; (with_reducible refine (k1.out _).mono ?_); rintro e v ⟨rfl, kk⟩; have t := Lib.hid (t.out.kept kk); clear kk))
      refine ⟨rfl, t.out, Txt.segs_cons ?_⟩
      go_wp2_with fail
      refine ⟨rfl, t.out, Txt.segs_cons ?_⟩
      go_wp2_with fail
      refine ⟨rfl, t.out, Txt.segs_cons ?_⟩
      go_wp2_with fail
      refine ⟨rfl, t.out, Txt.segs_nil ⟨⟨by kernel_rfl, ?_⟩, ?_⟩⟩
      · intro j hj o ho hw
        have hj2 : j = 0 ∨ j = 3 ∨ j = 5 ∨ j = 8 := by simpa using hj
        rcases hj2 with rfl | rfl | rfl | rfl <;> cases ho
        · exact ⟨14, rfl, fun u hu => exec_load arrB.row (.tmp 6) rfl rfl (hu.b (g6, (le z 32)) (by simp)) hz.out⟩
        · exact ⟨17, rfl, fun u _ => exec_eqb (.tmp 14) (.tmp 16) rfl rfl rfl Q17.out hz.out (le_len _ _)⟩
        · exact absurd hw (by rw [show Region.wanted _ _ = false from by kernel_rfl]; simp)
        · exact absurd hw (by rw [show Region.wanted _ _ = false from by kernel_rfl]; simp)
      go_wp2_with fail
      go_ret
      exact ⟨by rw [hres.out]; rfl, t.out.k⟩
    · by_cases z0 : z = 0
      · have hres := Lib.hid (show sqB U V = true from by rw [hres.out, hr2.out, decide_eq_true z0, Bool.or_true])
        replace z1 := Lib.hid z1
        replace z0 := Lib.hid z0
        have k0 : ∀ W, Calls Try.prog 21 #[.int .u64 1] W fun e w' => e = .returned (nu (dgN 1)) ∧ Kept [] W w' := fun W => of_any 1 (by omega) W
        replace k0 := Lib.hid k0
        have k1 : PkC (dgN 1) 1 := dr_pk (dr_dgN 1 (by decide)) (by decide +kernel)
        replace k1 := Lib.hid k1
        have k2 : ∀ W, Calls Try.prog 21 #[.int .u64 0] W fun e w' => e = .returned (nu (dgN 0)) ∧ Kept [] W w' := fun W => of_any 0 (by omega) W
        replace k2 := Lib.hid k2
        have k3 : PkC (dgN 0) 0 := dr_pk (dr_dgN 0 (by decide)) (by decide +kernel)
        replace k3 := Lib.hid k3
        have Q17 : ((le z 32) == (le 1 32)) = false := (le_beq _ _ hzl.out (by decide +kernel)).trans (decide_eq_false z1.out)
        have q17 := eql_run Q17 hz.out (le_len _ _)
        replace Q17 := Lib.hid Q17
        have Q22 : ((le z 32) == (le 0 32)) = true := by rw [z0.out]; exact beq_self_eq_true _
        have q22 := eql_run Q22 hz.out (le_len _ _)
        replace Q22 := Lib.hid Q22
        refine Txt.wp_textG [0, 3, 5, 8] (Mm w [(g6, (le z 32))] [] []) [[_, _], [_], [_, _, _, _], [_], [_, _, _]] (by kernel_rfl) (by kernel_rfl) rfl t.out.drew (Txt.segs_cons ?_)
        replace t := Lib.hid t.out.drew
        go_wp2_with (first
          | (refine wpl_load_arr (o := ⟨some 14, _, _, _, _, _⟩) arrB rfl (.tmp 6) rfl rfl (t.out.b (g6, (le z 32)) (by simp)) hz.out ?_)
          | (go_at_call 21; (with_reducible refine (k0.out _).mono ?_); rintro e v ⟨rfl, kk⟩; have t := Lib.hid (t.out.kept kk); clear kk))
        refine ⟨rfl, t.out, Txt.segs_cons ?_⟩
        go_wp2_with (first
          | (go_at_call 20; (with_reducible refine (k1.out _).mono ?_); rintro e v ⟨rfl, kk⟩; have t := Lib.hid (t.out.kept kk); clear kk))
        refine ⟨rfl, t.out, Txt.segs_cons ?_⟩
        go_wp2_with (first
          | (refine wpl_load_arr (o := ⟨some 19, _, _, _, _, _⟩) arrB rfl (.tmp 6) rfl rfl (t.out.b (g6, (le z 32)) (by simp)) hz.out ?_)
          | (go_at_call 21; (with_reducible refine (k2.out _).mono ?_); rintro e v ⟨rfl, kk⟩; have t := Lib.hid (t.out.kept kk); clear kk))
        refine ⟨rfl, t.out, Txt.segs_cons ?_⟩
        go_wp2_with (first
          | (go_at_call 20; (with_reducible refine (k3.out _).mono ?_); rintro e v ⟨rfl, kk⟩; have t := Lib.hid (t.out.kept kk); clear kk))
        refine ⟨rfl, t.out, Txt.segs_cons ?_⟩
        go_wp2_with fail
        refine ⟨rfl, t.out, Txt.segs_nil ⟨⟨by kernel_rfl, ?_⟩, ?_⟩⟩
        · intro j hj o ho hw
          have hj2 : j = 0 ∨ j = 3 ∨ j = 5 ∨ j = 8 := by simpa using hj
          rcases hj2 with rfl | rfl | rfl | rfl <;> cases ho
          · exact ⟨14, rfl, fun u hu => exec_load arrB.row (.tmp 6) rfl rfl (hu.b (g6, (le z 32)) (by simp)) hz.out⟩
          · exact ⟨17, rfl, fun u _ => exec_eqb (.tmp 14) (.tmp 16) rfl rfl rfl Q17.out hz.out (le_len _ _)⟩
          · exact ⟨19, rfl, fun u hu => exec_load arrB.row (.tmp 6) rfl rfl (hu.b (g6, (le z 32)) (by simp)) hz.out⟩
          · exact ⟨22, rfl, fun u _ => exec_eqb (.tmp 19) (.tmp 21) rfl rfl rfl Q22.out hz.out (le_len _ _)⟩
        go_wp2_with fail
        go_ret
        exact ⟨by rw [hres.out]; rfl, t.out.k⟩
      · have hres := Lib.hid (show sqB U V = false from by rw [hres.out, hr2.out, decide_eq_false z0, decide_eq_false z1]; rfl)
        replace z1 := Lib.hid z1
        replace z0 := Lib.hid z0
        have k0 : ∀ W, Calls Try.prog 21 #[.int .u64 1] W fun e w' => e = .returned (nu (dgN 1)) ∧ Kept [] W w' := fun W => of_any 1 (by omega) W
        replace k0 := Lib.hid k0
        have k1 : PkC (dgN 1) 1 := dr_pk (dr_dgN 1 (by decide)) (by decide +kernel)
        replace k1 := Lib.hid k1
        have k2 : ∀ W, Calls Try.prog 21 #[.int .u64 0] W fun e w' => e = .returned (nu (dgN 0)) ∧ Kept [] W w' := fun W => of_any 0 (by omega) W
        replace k2 := Lib.hid k2
        have k3 : PkC (dgN 0) 0 := dr_pk (dr_dgN 0 (by decide)) (by decide +kernel)
        replace k3 := Lib.hid k3
        have Q17 : ((le z 32) == (le 1 32)) = false := (le_beq _ _ hzl.out (by decide +kernel)).trans (decide_eq_false z1.out)
        have q17 := eql_run Q17 hz.out (le_len _ _)
        replace Q17 := Lib.hid Q17
        have Q22 : ((le z 32) == (le 0 32)) = false := (le_beq _ _ hzl.out PP_pos).trans (decide_eq_false z0.out)
        have q22 := eql_run Q22 hz.out (le_len _ _)
        replace Q22 := Lib.hid Q22
        refine Txt.wp_textG [0, 3, 5, 8] (Mm w [(g6, (le z 32))] [] []) [[_, _], [_], [_, _, _, _], [_], [_, _, _]] (by kernel_rfl) (by kernel_rfl) rfl t.out.drew (Txt.segs_cons ?_)
        replace t := Lib.hid t.out.drew
        go_wp2_with (first
          | (refine wpl_load_arr (o := ⟨some 14, _, _, _, _, _⟩) arrB rfl (.tmp 6) rfl rfl (t.out.b (g6, (le z 32)) (by simp)) hz.out ?_)
          | (go_at_call 21; (with_reducible refine (k0.out _).mono ?_); rintro e v ⟨rfl, kk⟩; have t := Lib.hid (t.out.kept kk); clear kk))
        refine ⟨rfl, t.out, Txt.segs_cons ?_⟩
        go_wp2_with (first
          | (go_at_call 20; (with_reducible refine (k1.out _).mono ?_); rintro e v ⟨rfl, kk⟩; have t := Lib.hid (t.out.kept kk); clear kk))
        refine ⟨rfl, t.out, Txt.segs_cons ?_⟩
        go_wp2_with (first
          | (refine wpl_load_arr (o := ⟨some 19, _, _, _, _, _⟩) arrB rfl (.tmp 6) rfl rfl (t.out.b (g6, (le z 32)) (by simp)) hz.out ?_)
          | (go_at_call 21; (with_reducible refine (k2.out _).mono ?_); rintro e v ⟨rfl, kk⟩; have t := Lib.hid (t.out.kept kk); clear kk))
        refine ⟨rfl, t.out, Txt.segs_cons ?_⟩
        go_wp2_with (first
          | (go_at_call 20; (with_reducible refine (k3.out _).mono ?_); rintro e v ⟨rfl, kk⟩; have t := Lib.hid (t.out.kept kk); clear kk))
        refine ⟨rfl, t.out, Txt.segs_cons ?_⟩
        go_wp2_with fail
        refine ⟨rfl, t.out, Txt.segs_nil ⟨⟨by kernel_rfl, ?_⟩, ?_⟩⟩
        · intro j hj o ho hw
          have hj2 : j = 0 ∨ j = 3 ∨ j = 5 ∨ j = 8 := by simpa using hj
          rcases hj2 with rfl | rfl | rfl | rfl <;> cases ho
          · exact ⟨14, rfl, fun u hu => exec_load arrB.row (.tmp 6) rfl rfl (hu.b (g6, (le z 32)) (by simp)) hz.out⟩
          · exact ⟨17, rfl, fun u _ => exec_eqb (.tmp 14) (.tmp 16) rfl rfl rfl Q17.out hz.out (le_len _ _)⟩
          · exact ⟨19, rfl, fun u hu => exec_load arrB.row (.tmp 6) rfl rfl (hu.b (g6, (le z 32)) (by simp)) hz.out⟩
          · exact ⟨22, rfl, fun u _ => exec_eqb (.tmp 19) (.tmp 21) rfl rfl rfl Q22.out hz.out (le_len _ _)⟩
        go_wp2_with fail
        go_ret
        exact ⟨by rw [hres.out]; rfl, t.out.k⟩
end Go.Proofs.Ythmpdhegodmjjaa
