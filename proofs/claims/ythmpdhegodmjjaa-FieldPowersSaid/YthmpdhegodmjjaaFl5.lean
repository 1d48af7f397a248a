/-
  Field's laws: Fermat; squares have roots (FieldPowers).
-/
import Derived.Test.YthmpdhegodmjjaaFl4
import Derived.Test.YthmpdhegodmjjaaRf9
import Derived.Test.YthmpdhegodmjjaaInv2
import Derived.BigFrame
namespace Go.Proofs.Ythmpdhegodmjjaa
open Go.RowKit Go.Mem Go.Txt

theorem enters_small (xs : Array Value) (w : World) : (callFunc 12 xs).run Try.prog w = .ok (.enter 12 xs) w := enters_of (c := _) Try.func12 (by kernel_rfl) rfl xs w
theorem enters_root (xs : Array Value) (w : World) : (callFunc 26 xs).run Try.prog w = .ok (.enter 26 xs) w := enters_of (c := _) Try.func26 (by kernel_rfl) rfl xs w
theorem Mm.put2 {w0 : World} {g3 g6 : Nat} {X U V : Nat → Nat} {u u' : World} (h : Mm w0 [] [(g3, X), (g6, U)] [] u) (hn : g3 ≠ g6 ∧ w0.heap.size ≤ g6) (b : Blk u' g6 27 (uv (fam 5 V)).toArray) (hk : Kept [g6] u u') : Mm w0 [] [(g3, X), (g6, V)] [] u' :=
  Mm.econs (Mm.econs ⟨fun _ h => absurd h (by simp), fun _ h => absurd h (by simp), fun _ h => absurd h (by simp), h.k.then1 hk hn.2⟩ b) ((h.e (g3, X) (by simp)).kept hk (by simpa using hn.1))
theorem wp_ex {P : Program} {o : Oper} {a : Act} {w : World} {K : Act → World → Prop} {Q : Exit → Act → World → Prop} (x : Operand) (i : Nat) (h : o.op = .extract x i) {vs : Array Value} {v : Value} (hx : a.eval x = .tuple vs) (hv : vs[i]? = some v) (hK : K (a.put o.dst v) w) : o.wp P a w K Q := by
  unfold Oper.wp execOp
  simp [h, hx, Instr.extract, hv]
  exact hK

set_option maxRecDepth 100000 in
set_option maxHeartbeats 4000000 in
theorem powers_walk (a : List UInt8) (w : World) (ha : a.length = 32) :
    Calls Try.prog 10 #[ab a] w fun e w' => e = .returned (.bool true) ∧ Kept [] w w' := by
  obtain ⟨l0, hl0, z0, u0⟩ := lit_zero
  obtain ⟨l1, hl1, o1, u1⟩ := lit_one
  replace z0 := Lib.hid z0
  replace u0 := Lib.hid u0
  replace o1 := Lib.hid o1
  replace u1 := Lib.hid u1
  have iX := in_any a ha
  have rX := in_rep a
  have r1 := Lib.hid (Rep.small 1 (by decide))
  have cs1 := Lib.hid (show ∀ w, Calls Try.prog 12 #[.int .u64 1] w fun e w' => e = .returned (el (smL 1)) ∧ Kept [] w w' from fun w => small_any 1 w (by decide))
  generalize inF a = X, inV a = x at *
  have hl := Lib.hid (show (bv a).length = 32 by simp [ha])
  have chX := Lib.hid (hb_c rX)
  clear ha
  replace iX := Lib.hid iX
  by_cases hx : x % PP = 0
  · have rX0 := rX.to (y := 0) hx
    have Q17 : (hb X == l0) = true := (z0.out _ _ rX).trans (decide_eq_true hx)
    have q17 := eql_run Q17 (hb_len _) hl0
    have cR := Lib.hid (fun w => root_yes rX0 r1.out ok01 w)
    have rR := rX0.rt r1.out ok01
    have cH := Lib.hid (hb_c rR)
    have Q29 : (hb (rtF X (smL 1)) == l0) = true := (z0.out _ _ rR).trans (decide_eq_true rt01)
    have q29 := eql_run Q29 (hb_len _) hl0
    generalize rtF X (smL 1) = R at *
    generalize smL 1 = S1 at *
    clear rR rX rX0 hx Q17 Q29
    go_enter Try.func10, Try.ntmps10
    go_wp2_with (first
      | ((with_reducible refine wpl_box (o := ⟨some 1, _, _, _, _, _⟩) (v := ab a) rfl (.tmp 0) rfl rfl ?_); intro g1 w1 m1)
      | (go_at_call 11; refine (first_true _).mono ?_; rintro e w5 ⟨rfl, kk4⟩)
      | (refine wpl_load_arr (o := ⟨some 12, _, _, _, _, _⟩) arrB rfl (.tmp 1) rfl rfl (m1.blk.kept kk4 (by simp)) hl.out ?_)
      | (go_at_call 22; (with_reducible refine (iX.out _).mono ?_); rintro e w6 ⟨rfl, kk6⟩)
      | ((with_reducible refine wpl_new (o := ⟨some 3, _, _, _, _, _⟩) rfl rfl zeroEl ?_); intro g3 w3 m3)
      | ((with_reducible refine wpl_store_row (o := ⟨none, .store 27 (.tmp 3) (.tmp 13), _, _, _, _⟩) structEl rfl (.tmp 3) (.tmp 13) rfl rfl rfl m3.blk rfl rfl (one_el _) ?_); intro v3 b3 k3; have K3 := (m1.kept.then0 kk4).then0 kk6; have t := Lib.hid (show Mm w [] [(g3, X)] [] v3 from Mm.econs ⟨fun _ h => absurd h (by simp), fun _ h => absurd h (by simp), fun _ h => absurd h (by simp), (K3.then0 m3.kept).then1 k3 (Nat.le_trans K3.size m3.le)⟩ b3); clear m1 kk4 kk6 m3 b3 k3 K3)
      | (with_reducible refine wpl_load_row (o := ⟨some 14, _, _, _, _, _⟩) structEl rfl (.tmp 3) rfl rfl (t.out.e (g3, X) (by simp)) rfl ?_)
      | (go_at_call 14; (with_reducible refine (chX.out _).mono ?_); rintro e w7 ⟨rfl, kk⟩; have t := Lib.hid (t.out.kept kk); clear kk)
      | (with_reducible refine wpl_build0 (o := ⟨some 16, _, _, _, _, _⟩) rfl rfl u0.out ?_))
    refine wp_multi (by kernel_rfl) [.val (el X), .val (el S1), .val (.tuple #[el R, .bool true]), .val (.tuple #[el R, .bool true]), .val (el R), .val (.bool true), .new 27 (el nought), .put 6 4 (uv (fam 5 R)).toArray, .val (.bool true)]
      (Mm w [] [(g3, X)] []) (by kernel_rfl) (by kernel_rfl) t.out.drew (fun u u' T hS hk hT => t.out.fresh u u' T hS hk hT) ?_ ?_
    · refine ⟨?_, ?_, ?_, ?_, ?_, ?_, ⟨⟨_, rfl⟩, rfl, zeroEl⟩, ?_, ?_, trivial⟩
      · refine ⟨⟨_, rfl⟩, fun a' u K0 R hS hr ho h => ?_⟩
        exact wp_loadr structEl (.tmp 3) rfl ((ho 3 (by decide)).trans rfl) (hS.e (g3, X) (by simp)) rfl (h u (Kept.refl _ _))
      · refine ⟨⟨_, rfl⟩, fun a' u K0 R hS hr ho h => ?_⟩
        exact wp_callf rfl enters_small (vs := #[.int .u64 1]) (by simp [Act.eval]) (cs1.out u) h
      · refine ⟨⟨_, rfl⟩, fun a' u K0 R' hS hr ho h => ?_⟩
        refine wp_callf rfl enters_root (vs := #[el X, el S1]) ?_ (cR.out u) h
        have h0 := hr 0 (el X) 19 _ rfl rfl rfl ⟨⟨0, .data⟩, by simp, rfl, rfl⟩
        have h1 := hr 1 (el S1) 20 _ rfl rfl rfl ⟨⟨1, .data⟩, by simp, rfl, rfl⟩
        simp [Act.eval] at h0 h1 ⊢
        exact ⟨h0, h1⟩
      · refine ⟨⟨_, rfl⟩, fun a' u K0 R' hS hr ho h => ?_⟩
        have h0 := hr 2 (.tuple #[el R, .bool true]) 21 _ rfl rfl rfl ⟨⟨2, .data⟩, by simp, rfl, rfl⟩
        refine BigFrame.wp_move (.tmp 21) rfl ?_
        rw [show a'.eval (.tmp 21) = .tuple #[el R, .bool true] from h0]
        exact h u (Kept.refl _ _)
      · refine ⟨⟨_, rfl⟩, fun a' u K0 R' hS hr ho h => ?_⟩
        have h0 := hr 3 (.tuple #[el R, .bool true]) 18 _ rfl rfl rfl ⟨⟨3, .data⟩, by simp, rfl, rfl⟩
        exact wp_ex (.tmp 18) 0 rfl h0 rfl (h u (Kept.refl _ _))
      · refine ⟨⟨_, rfl⟩, fun a' u K0 R' hS hr ho h => ?_⟩
        have h0 := hr 3 (.tuple #[el R, .bool true]) 18 _ rfl rfl rfl ⟨⟨3, .data⟩, by simp, rfl, rfl⟩
        exact wp_ex (.tmp 18) 1 rfl h0 rfl (h u (Kept.refl _ _))
      · exact ⟨rfl, ⟨⟨6, .data⟩, by simp, rfl, rfl⟩, ⟨⟨4, .data⟩, by simp, rfl, rfl⟩, _, _, _, _, _, _, _, _, rfl, rfl, rfl, rfl, rfl, rfl, rfl, structEl, rfl, rfl, one_el _⟩
      · refine ⟨⟨_, rfl⟩, fun a' u K0 R' hS hr ho h => ?_⟩
        have h0 := hr 5 (.bool true) 23 _ rfl rfl rfl ⟨⟨5, .data⟩, by simp, rfl, rfl⟩
        refine BigFrame.wp_assign (.tmp 23) rfl ?_
        rw [show a'.eval (.tmp 23) = .bool true from h0]
        exact h u (Kept.refl _ _)
    · intro γ w6 hS hγ hne hput
      have b4 := hput 7 6 4 _ _ _ rfl rfl
      generalize e4 : γ 6 = g4 at *
      simp [actOf, VK, List.range, List.range.loop, Act.put, e4]
      replace t := Lib.hid (show Mm w [] [(g4, R), (g3, X)] [] w6 from hS.econs b4)
      clear b4 hput hne hγ hS e4
      go_wp2_with (first
        | (with_reducible refine wpl_load_row (o := ⟨some 26, _, _, _, _, _⟩) structEl rfl (.tmp 4) rfl rfl (t.out.e (g4, R) (by simp)) rfl ?_)
        | (go_at_call 14; (with_reducible refine (cH.out _).mono ?_); rintro e w7 ⟨rfl, kk⟩; have t := Lib.hid (t.out.kept kk); clear kk)
        | (with_reducible refine wpl_build0 (o := ⟨some 28, _, _, _, _, _⟩) rfl rfl u0.out ?_))
      go_ret
      exact ⟨rfl, t.out.k⟩
  · have Q17 : (hb X == l0) = false := (z0.out _ _ rX).trans (decide_eq_false hx)
    have q17 := eql_run Q17 (hb_len _) hl0
    have rXX := rX.m rX
    have cXX := Lib.hid (ml_c rX rX)
    have cZ := Lib.hid (fun w => root_yes rXX r1.out (ok_sq x) w)
    have rZ := Lib.hid (rXX.rt r1.out (ok_sq x))
    have hroot := Lib.hid (rt_of_sq x)
    have hferm := Lib.hid (fermat hx)
    replace rX := Lib.hid rX
    replace hx := Lib.hid hx
    generalize rtF (mlF X X) (smL 1) = Z at *
    generalize mlF X X = XX at cXX cZ
    generalize smL 1 = S1 at *
    clear rXX Q17
    go_enter Try.func10, Try.ntmps10
    go_wp2_with (first
      | ((with_reducible refine wpl_box (o := ⟨some 1, _, _, _, _, _⟩) (v := ab a) rfl (.tmp 0) rfl rfl ?_); intro g1 w1 m1)
      | (go_at_call 11; refine (first_true _).mono ?_; rintro e w5 ⟨rfl, kk4⟩)
      | (refine wpl_load_arr (o := ⟨some 12, _, _, _, _, _⟩) arrB rfl (.tmp 1) rfl rfl (m1.blk.kept kk4 (by simp)) hl.out ?_)
      | (go_at_call 22; (with_reducible refine (iX.out _).mono ?_); rintro e w6 ⟨rfl, kk6⟩)
      | ((with_reducible refine wpl_new (o := ⟨some 3, _, _, _, _, _⟩) rfl rfl zeroEl ?_); intro g3 w3 m3)
      | ((with_reducible refine wpl_store_row (o := ⟨none, .store 27 (.tmp 3) (.tmp 13), _, _, _, _⟩) structEl rfl (.tmp 3) (.tmp 13) rfl rfl rfl m3.blk rfl rfl (one_el _) ?_); intro v3 b3 k3; have K3 := (m1.kept.then0 kk4).then0 kk6; have t := Lib.hid (show Mm w [] [(g3, X)] [] v3 from Mm.econs ⟨fun _ h => absurd h (by simp), fun _ h => absurd h (by simp), fun _ h => absurd h (by simp), (K3.then0 m3.kept).then1 k3 (Nat.le_trans K3.size m3.le)⟩ b3); clear m1 kk4 kk6 m3 b3 k3 K3)
      | (with_reducible refine wpl_load_row (o := ⟨some 14, _, _, _, _, _⟩) structEl rfl (.tmp 3) rfl rfl (t.out.e (g3, X) (by simp)) rfl ?_)
      | (go_at_call 14; (with_reducible refine (chX.out _).mono ?_); rintro e w7 ⟨rfl, kk⟩; have t := Lib.hid (t.out.kept kk); clear kk)
      | (with_reducible refine wpl_build0 (o := ⟨some 16, _, _, _, _, _⟩) rfl rfl u0.out ?_)
      | (go_at_call 12; (with_reducible refine (cs1.out _).mono ?_); rintro e w8 ⟨rfl, kk⟩; have t := Lib.hid (t.out.kept kk); clear kk)
      | ((with_reducible refine wpl_new (o := ⟨some 6, _, _, _, _, _⟩) rfl rfl zeroEl ?_); intro g6 x6 m6)
      | ((with_reducible refine wpl_store_row (o := ⟨none, .store 27 (.tmp 6) (.tmp 31), _, _, _, _⟩) structEl rfl (.tmp 6) (.tmp 31) rfl rfl rfl m6.blk rfl rfl (one_el _) ?_); intro v6 b6 k6))
    have hn := Lib.hid (show g3 ≠ g6 ∧ w.heap.size ≤ g6 from ⟨m6.ne (t.out.e (g3, X) (by simp)).lt, Nat.le_trans t.out.k.size m6.le⟩)
    have t0 := Lib.hid (show Mm w [] [(g3, X), (g6, S1)] [] v6 from
      Mm.econs (Mm.econs ⟨fun _ h => absurd h (by simp), fun _ h => absurd h (by simp), fun _ h => absurd h (by simp), (t.out.kept m6.kept).k.then1 k6 hn.out.2⟩ b6) (((t.out.kept m6.kept).e (g3, X) (by simp)).kept k6 (by simpa using hn.out.1)))
    clear t m6 b6 k6
    have hE0 := Lib.hid (show (PP - 1) / 2 ^ 255 = 0 by decide +kernel)
    go_loopg [7] 255 (fun f i wk => ∃ m : Nat, f = m ∧ m ≤ 255 ∧ i = .int .i64 ((m : Int) - 1) ∧ ∃ R, Rep R (x ^ ((PP - 1) / 2 ^ m)) ∧ Mm w [] [(g3, X), (g6, R)] [] wk)
    case atStart => exact ⟨255, rfl, Nat.le_refl _, rfl, S1, by rw [hE0.out]; exact r1.out, t0.out⟩
    case round =>
      obtain ⟨m, hf, hm, rfl, R, hR, ht⟩ := hrel
      have rR := Lib.hid hR
      have t := Lib.hid ht
      clear hR ht
      by_cases hm0 : 0 < m
      · have cq := Lib.hid (ml_c rR.out rR.out)
        have cx := Lib.hid (ml_c (rR.out.m rR.out) rX.out)
        have hst := pow_step x (PP - 1) m hm0
        rw [bits_p (m - 1) (by omega)] at hst
        have hi1 : (1 : Int) ≤ (m : Int) := by omega
        by_cases h5 : 5 < m
        · rw [if_pos (by rw [decide_eq_true (show 4 < m - 1 by omega)]; rfl)] at hst
          replace hst := Lib.hid hst
          go_wp2_with (first
            | (with_reducible refine wpl_load_row (o := ⟨some 36, _, _, _, _, _⟩) structEl rfl (.tmp 6) rfl rfl (t.out.e (g6, R) (by simp)) rfl ?_)
            | (with_reducible refine wpl_load_row (o := ⟨some 37, _, _, _, _, _⟩) structEl rfl (.tmp 6) rfl rfl (t.out.e (g6, R) (by simp)) rfl ?_)
            | (go_at_call 15; (with_reducible refine (cq.out _).mono ?_); rintro e y1 ⟨rfl, kk⟩; have t := Lib.hid (t.out.kept kk); clear kk)
            | ((with_reducible refine wpl_store_row (o := ⟨none, .store 27 (.tmp 6) (.tmp 38), _, _, _, _⟩) structEl rfl (.tmp 6) (.tmp 38) rfl rfl rfl (t.out.e (g6, R) (by simp)) rfl rfl (one_el _) ?_); intro va ba ka; replace t := Lib.hid (t.out.put2 hn.out ba ka); clear ba ka)
            | (with_reducible refine wpl_load_row (o := ⟨some 48, _, _, _, _, _⟩) structEl rfl (.tmp 6) rfl rfl (t.out.e (g6, (mlF R R)) (by simp)) rfl ?_)
            | (with_reducible refine wpl_load_row (o := ⟨some 49, _, _, _, _, _⟩) structEl rfl (.tmp 3) rfl rfl (t.out.e (g3, X) (by simp)) rfl ?_)
            | (go_at_call 15; (with_reducible refine (cx.out _).mono ?_); rintro e y1 ⟨rfl, kk⟩; have t := Lib.hid (t.out.kept kk); clear kk)
            | ((with_reducible refine wpl_store_row (o := ⟨none, .store 27 (.tmp 6) (.tmp 50), _, _, _, _⟩) structEl rfl (.tmp 6) (.tmp 50) rfl rfl rfl (t.out.e (g6, (mlF R R)) (by simp)) rfl rfl (one_el _) ?_); intro vb bb kb; replace t := Lib.hid (t.out.put2 hn.out bb kb); clear bb kb))
          go_roundg (m - 1)
          case measure => omega
          case rel =>
            refine ⟨m - 1, rfl, by omega, by go_num, _, ?_, t.out⟩
            rw [hst.out]
            exact ((rR.out.m rR.out).m rX.out)
        · have hcase : m = 5 ∨ m = 4 ∨ m = 3 ∨ m = 2 ∨ m = 1 := by omega
          clear h5 hi1 hm0 hm
          rcases hcase with rfl | rfl | rfl | rfl | rfl
          · replace hst := Lib.hid (show x ^ ((PP - 1) / 2 ^ (5 - 1)) = _ from hst.trans (if_neg (by decide)))
            go_wp2_with (first
              | (with_reducible refine wpl_load_row (o := ⟨some 36, _, _, _, _, _⟩) structEl rfl (.tmp 6) rfl rfl (t.out.e (g6, R) (by simp)) rfl ?_)
              | (with_reducible refine wpl_load_row (o := ⟨some 37, _, _, _, _, _⟩) structEl rfl (.tmp 6) rfl rfl (t.out.e (g6, R) (by simp)) rfl ?_)
              | (go_at_call 15; (with_reducible refine (cq.out _).mono ?_); rintro e y1 ⟨rfl, kk⟩; have t := Lib.hid (t.out.kept kk); clear kk)
              | ((with_reducible refine wpl_store_row (o := ⟨none, .store 27 (.tmp 6) (.tmp 38), _, _, _, _⟩) structEl rfl (.tmp 6) (.tmp 38) rfl rfl rfl (t.out.e (g6, R) (by simp)) rfl rfl (one_el _) ?_); intro va ba ka; replace t := Lib.hid (t.out.put2 hn.out ba ka); clear ba ka))
            go_roundg (5 - 1)
            case measure => omega
            case rel =>
              refine ⟨5 - 1, rfl, by omega, by go_num, _, ?_, t.out⟩
              rw [hst.out]
              exact (rR.out.m rR.out)
          · replace hst := Lib.hid (show x ^ ((PP - 1) / 2 ^ (4 - 1)) = _ from hst.trans (if_pos (by decide)))
            go_wp2_with (first
              | (with_reducible refine wpl_load_row (o := ⟨some 36, _, _, _, _, _⟩) structEl rfl (.tmp 6) rfl rfl (t.out.e (g6, R) (by simp)) rfl ?_)
              | (with_reducible refine wpl_load_row (o := ⟨some 37, _, _, _, _, _⟩) structEl rfl (.tmp 6) rfl rfl (t.out.e (g6, R) (by simp)) rfl ?_)
              | (go_at_call 15; (with_reducible refine (cq.out _).mono ?_); rintro e y1 ⟨rfl, kk⟩; have t := Lib.hid (t.out.kept kk); clear kk)
              | ((with_reducible refine wpl_store_row (o := ⟨none, .store 27 (.tmp 6) (.tmp 38), _, _, _, _⟩) structEl rfl (.tmp 6) (.tmp 38) rfl rfl rfl (t.out.e (g6, R) (by simp)) rfl rfl (one_el _) ?_); intro va ba ka; replace t := Lib.hid (t.out.put2 hn.out ba ka); clear ba ka)
              | (with_reducible refine wpl_load_row (o := ⟨some 48, _, _, _, _, _⟩) structEl rfl (.tmp 6) rfl rfl (t.out.e (g6, (mlF R R)) (by simp)) rfl ?_)
              | (with_reducible refine wpl_load_row (o := ⟨some 49, _, _, _, _, _⟩) structEl rfl (.tmp 3) rfl rfl (t.out.e (g3, X) (by simp)) rfl ?_)
              | (go_at_call 15; (with_reducible refine (cx.out _).mono ?_); rintro e y1 ⟨rfl, kk⟩; have t := Lib.hid (t.out.kept kk); clear kk)
              | ((with_reducible refine wpl_store_row (o := ⟨none, .store 27 (.tmp 6) (.tmp 50), _, _, _, _⟩) structEl rfl (.tmp 6) (.tmp 50) rfl rfl rfl (t.out.e (g6, (mlF R R)) (by simp)) rfl rfl (one_el _) ?_); intro vb bb kb; replace t := Lib.hid (t.out.put2 hn.out bb kb); clear bb kb))
            go_roundg (4 - 1)
            case measure => omega
            case rel =>
              refine ⟨4 - 1, rfl, by omega, by go_num, _, ?_, t.out⟩
              rw [hst.out]
              exact ((rR.out.m rR.out).m rX.out)
          · replace hst := Lib.hid (show x ^ ((PP - 1) / 2 ^ (3 - 1)) = _ from hst.trans (if_pos (by decide)))
            go_wp2_with (first
              | (with_reducible refine wpl_load_row (o := ⟨some 36, _, _, _, _, _⟩) structEl rfl (.tmp 6) rfl rfl (t.out.e (g6, R) (by simp)) rfl ?_)
              | (with_reducible refine wpl_load_row (o := ⟨some 37, _, _, _, _, _⟩) structEl rfl (.tmp 6) rfl rfl (t.out.e (g6, R) (by simp)) rfl ?_)
              | (go_at_call 15; (with_reducible refine (cq.out _).mono ?_); rintro e y1 ⟨rfl, kk⟩; have t := Lib.hid (t.out.kept kk); clear kk)
              | ((with_reducible refine wpl_store_row (o := ⟨none, .store 27 (.tmp 6) (.tmp 38), _, _, _, _⟩) structEl rfl (.tmp 6) (.tmp 38) rfl rfl rfl (t.out.e (g6, R) (by simp)) rfl rfl (one_el _) ?_); intro va ba ka; replace t := Lib.hid (t.out.put2 hn.out ba ka); clear ba ka)
              | (with_reducible refine wpl_load_row (o := ⟨some 48, _, _, _, _, _⟩) structEl rfl (.tmp 6) rfl rfl (t.out.e (g6, (mlF R R)) (by simp)) rfl ?_)
              | (with_reducible refine wpl_load_row (o := ⟨some 49, _, _, _, _, _⟩) structEl rfl (.tmp 3) rfl rfl (t.out.e (g3, X) (by simp)) rfl ?_)
              | (go_at_call 15; (with_reducible refine (cx.out _).mono ?_); rintro e y1 ⟨rfl, kk⟩; have t := Lib.hid (t.out.kept kk); clear kk)
              | ((with_reducible refine wpl_store_row (o := ⟨none, .store 27 (.tmp 6) (.tmp 50), _, _, _, _⟩) structEl rfl (.tmp 6) (.tmp 50) rfl rfl rfl (t.out.e (g6, (mlF R R)) (by simp)) rfl rfl (one_el _) ?_); intro vb bb kb; replace t := Lib.hid (t.out.put2 hn.out bb kb); clear bb kb))
            go_roundg (3 - 1)
            case measure => omega
            case rel =>
              refine ⟨3 - 1, rfl, by omega, by go_num, _, ?_, t.out⟩
              rw [hst.out]
              exact ((rR.out.m rR.out).m rX.out)
          · replace hst := Lib.hid (show x ^ ((PP - 1) / 2 ^ (2 - 1)) = _ from hst.trans (if_neg (by decide)))
            go_wp2_with (first
              | (with_reducible refine wpl_load_row (o := ⟨some 36, _, _, _, _, _⟩) structEl rfl (.tmp 6) rfl rfl (t.out.e (g6, R) (by simp)) rfl ?_)
              | (with_reducible refine wpl_load_row (o := ⟨some 37, _, _, _, _, _⟩) structEl rfl (.tmp 6) rfl rfl (t.out.e (g6, R) (by simp)) rfl ?_)
              | (go_at_call 15; (with_reducible refine (cq.out _).mono ?_); rintro e y1 ⟨rfl, kk⟩; have t := Lib.hid (t.out.kept kk); clear kk)
              | ((with_reducible refine wpl_store_row (o := ⟨none, .store 27 (.tmp 6) (.tmp 38), _, _, _, _⟩) structEl rfl (.tmp 6) (.tmp 38) rfl rfl rfl (t.out.e (g6, R) (by simp)) rfl rfl (one_el _) ?_); intro va ba ka; replace t := Lib.hid (t.out.put2 hn.out ba ka); clear ba ka))
            go_roundg (2 - 1)
            case measure => omega
            case rel =>
              refine ⟨2 - 1, rfl, by omega, by go_num, _, ?_, t.out⟩
              rw [hst.out]
              exact (rR.out.m rR.out)
          · replace hst := Lib.hid (show x ^ ((PP - 1) / 2 ^ (1 - 1)) = _ from hst.trans (if_neg (by decide)))
            go_wp2_with (first
              | (with_reducible refine wpl_load_row (o := ⟨some 36, _, _, _, _, _⟩) structEl rfl (.tmp 6) rfl rfl (t.out.e (g6, R) (by simp)) rfl ?_)
              | (with_reducible refine wpl_load_row (o := ⟨some 37, _, _, _, _, _⟩) structEl rfl (.tmp 6) rfl rfl (t.out.e (g6, R) (by simp)) rfl ?_)
              | (go_at_call 15; (with_reducible refine (cq.out _).mono ?_); rintro e y1 ⟨rfl, kk⟩; have t := Lib.hid (t.out.kept kk); clear kk)
              | ((with_reducible refine wpl_store_row (o := ⟨none, .store 27 (.tmp 6) (.tmp 38), _, _, _, _⟩) structEl rfl (.tmp 6) (.tmp 38) rfl rfl rfl (t.out.e (g6, R) (by simp)) rfl rfl (one_el _) ?_); intro va ba ka; replace t := Lib.hid (t.out.put2 hn.out ba ka); clear ba ka))
            go_roundg (1 - 1)
            case measure => omega
            case rel =>
              refine ⟨1 - 1, rfl, by omega, by go_num, _, ?_, t.out⟩
              rw [hst.out]
              exact (rR.out.m rR.out)
      · obtain rfl : m = 0 := by omega
        have hone := Lib.hid (show x ^ ((PP - 1) / 2 ^ 0) % PP = 1 by rw [Nat.pow_zero, Nat.div_one]; exact hferm.out)
        clear hm0 hm hf
        go_wp2_with (first
          | (with_reducible refine wpl_load_row (o := ⟨some 52, _, _, _, _, _⟩) structEl rfl (.tmp 3) rfl rfl (t.out.e (g3, X) (by simp)) rfl ?_)
          | (with_reducible refine wpl_load_row (o := ⟨some 53, _, _, _, _, _⟩) structEl rfl (.tmp 3) rfl rfl (t.out.e (g3, X) (by simp)) rfl ?_)
          | (go_at_call 15; (with_reducible refine (cXX.out _).mono ?_); rintro e y1 ⟨rfl, kk⟩; have t := Lib.hid (t.out.kept kk); clear kk)
          | (go_at_call 12; (with_reducible refine (cs1.out _).mono ?_); rintro e w8 ⟨rfl, kk⟩; have t := Lib.hid (t.out.kept kk); clear kk)
          | (go_at_call 26; (with_reducible refine (cZ.out _).mono ?_); rintro e w8 ⟨rfl, kk⟩; have t := Lib.hid (t.out.kept kk); clear kk)
          | ((with_reducible refine wpl_new (o := ⟨some 8, _, _, _, _, _⟩) rfl rfl zeroEl ?_); intro g8 x8 m8)
          | ((with_reducible refine wpl_store_row (o := ⟨none, .store 27 (.tmp 8) (.tmp 57), _, _, _, _⟩) structEl rfl (.tmp 8) (.tmp 57) rfl rfl rfl m8.blk rfl rfl (one_el _) ?_); intro v8 b8 k8; have t9 := Lib.hid (show Mm w [] [(g3, X), (g6, R), (g8, Z)] [] v8 from
              Mm.econs (Mm.econs (Mm.econs ⟨fun _ h => absurd h (by simp), fun _ h => absurd h (by simp), fun _ h => absurd h (by simp), (t.out.kept m8.kept).k.then1 k8 (Nat.le_trans t.out.k.size m8.le)⟩ b8) (((t.out.kept m8.kept).e (g6, R) (by simp)).kept k8 (by simpa using m8.ne (t.out.e (g6, R) (by simp)).lt))) (((t.out.kept m8.kept).e (g3, X) (by simp)).kept k8 (by simpa using m8.ne (t.out.e (g3, X) (by simp)).lt))); clear t m8 b8 k8; have t := t9; clear t9))
        by_cases hsame : rtM (x * x) 1 % PP = x % PP
        · replace hsame := Lib.hid hsame
          have k0 : HbC R := hb_c rR.out
          replace k0 := Lib.hid k0
          have k1 : HbC Z := hb_c rZ.out
          replace k1 := Lib.hid k1
          have k2 : HbC X := hb_c rX.out
          replace k2 := Lib.hid k2
          have Q62 : ((hb R) == l1) = true := o1.out _ _ rR.out hone.out
          have q62 := eql_run Q62 (hb_len _) hl1
          replace Q62 := Lib.hid Q62
          have Q71 : ((hb Z) == (hb X)) = true := hb_eq rZ.out rX.out hsame.out
          have q71 := eql_run Q71 (hb_len _) (hb_len _)
          replace Q71 := Lib.hid Q71
          refine Txt.wp_textG [0, 2, 3, 8, 10, 12, 14, 15, 18, 19] (Mm w [] [(g3, X), (g6, R), (g8, Z)] []) [[_, _], [_], [_, _, _, _, _, _, _], [_, _], [_, _, _, _, _], [_], [_], [_, _, _, _]] (by kernel_rfl) (by kernel_rfl) rfl t.out.drew (Txt.segs_cons ?_)
          replace t := Lib.hid t.out.drew
          go_wp2_with (first
            | (with_reducible refine wpl_load_row (o := ⟨some 59, _, _, _, _, _⟩) structEl rfl (.tmp 6) rfl rfl (t.out.e (g6, R) (by simp)) rfl ?_)
            | (go_at_call 14; (with_reducible refine (k0.out _).mono ?_); rintro e v ⟨rfl, kk⟩; have t := Lib.hid (t.out.kept kk); clear kk))
          refine ⟨rfl, t.out, Txt.segs_cons ?_⟩
          go_wp2_with (first
            | (refine wpl_build1 (o := ⟨some 61, _, _, _, _, _⟩) rfl 0 (.const (.int .u8 1)) rfl rfl u1.out ?_))
          refine ⟨rfl, t.out, Txt.segs_cons ?_⟩
          go_wp2_with (first
            | (with_reducible refine wpl_load_row (o := ⟨some 67, _, _, _, _, _⟩) structEl rfl (.tmp 8) rfl rfl (t.out.e (g8, Z) (by simp)) rfl ?_)
            | (go_at_call 14; (with_reducible refine (k1.out _).mono ?_); rintro e v ⟨rfl, kk⟩; have t := Lib.hid (t.out.kept kk); clear kk))
          refine ⟨rfl, t.out, Txt.segs_cons ?_⟩
          go_wp2_with (first
            | (with_reducible refine wpl_load_row (o := ⟨some 69, _, _, _, _, _⟩) structEl rfl (.tmp 3) rfl rfl (t.out.e (g3, X) (by simp)) rfl ?_)
            | (go_at_call 14; (with_reducible refine (k2.out _).mono ?_); rintro e v ⟨rfl, kk⟩; have t := Lib.hid (t.out.kept kk); clear kk))
          refine ⟨rfl, t.out, Txt.segs_cons ?_⟩
          go_wp2_with fail
          refine ⟨rfl, t.out, Txt.segs_cons ?_⟩
          go_wp2_with fail
          refine ⟨rfl, t.out, Txt.segs_cons ?_⟩
          go_wp2_with fail
          refine ⟨rfl, t.out, Txt.segs_cons ?_⟩
          go_wp2_with fail
          refine ⟨rfl, t.out, Txt.segs_nil ⟨⟨by kernel_rfl, ?_⟩, ?_⟩⟩
          · intro j hj o ho hw
            have hj2 : j = 0 ∨ j = 2 ∨ j = 3 ∨ j = 8 ∨ j = 10 ∨ j = 12 ∨ j = 14 ∨ j = 15 ∨ j = 18 ∨ j = 19 := by simpa using hj
            rcases hj2 with rfl | rfl | rfl | rfl | rfl | rfl | rfl | rfl | rfl | rfl <;> cases ho
            · exact ⟨59, rfl, fun u hu => exec_load structEl (.tmp 6) rfl rfl (hu.e (g6, R) (by simp)) rfl⟩
            · exact ⟨61, rfl, fun u _ => exec_build1 0 (.const (.int .u8 1)) rfl rfl u1.out⟩
            · exact ⟨62, rfl, fun u _ => exec_eqb (.tmp 60) (.tmp 61) rfl rfl rfl Q62.out (hb_len _) hl1⟩
            · exact ⟨67, rfl, fun u hu => exec_load structEl (.tmp 8) rfl rfl (hu.e (g8, Z) (by simp)) rfl⟩
            · exact ⟨69, rfl, fun u hu => exec_load structEl (.tmp 3) rfl rfl (hu.e (g3, X) (by simp)) rfl⟩
            · exact ⟨71, rfl, fun u _ => exec_eqb (.tmp 68) (.tmp 70) rfl rfl rfl Q71.out (hb_len _) (hb_len _)⟩
            · exact absurd hw (by rw [show Region.wanted _ _ = false from by kernel_rfl]; simp)
            · exact absurd hw (by rw [show Region.wanted _ _ = false from by kernel_rfl]; simp)
            · exact absurd hw (by rw [show Region.wanted _ _ = false from by kernel_rfl]; simp)
            · exact absurd hw (by rw [show Region.wanted _ _ = false from by kernel_rfl]; simp)
          go_wp2_with fail
          go_ret
          exact ⟨rfl, t.out.k⟩
        · have hneg := Lib.hid (hroot.out.resolve_left hsame)
          replace hsame := Lib.hid hsame
          have k0 : HbC R := hb_c rR.out
          replace k0 := Lib.hid k0
          have k1 : HbC Z := hb_c rZ.out
          replace k1 := Lib.hid k1
          have k2 : HbC X := hb_c rX.out
          replace k2 := Lib.hid k2
          have k3 : AdC Z X (adF Z X) := ad_c rZ.out rX.out
          replace k3 := Lib.hid k3
          have k4 : HbC (adF Z X) := hb_c (Rep.ad rZ.out rX.out)
          replace k4 := Lib.hid k4
          have Q62 : ((hb R) == l1) = true := o1.out _ _ rR.out hone.out
          have q62 := eql_run Q62 (hb_len _) hl1
          replace Q62 := Lib.hid Q62
          have Q71 : ((hb Z) == (hb X)) = false := hb_ne rZ.out rX.out hsame.out
          have q71 := eql_run Q71 (hb_len _) (hb_len _)
          replace Q71 := Lib.hid Q71
          have Q78 : ((hb (adF Z X)) == l0) = true := (z0.out _ _ (Rep.ad rZ.out rX.out)).trans (decide_eq_true hneg.out)
          have q78 := eql_run Q78 (hb_len _) hl0
          replace Q78 := Lib.hid Q78
          refine Txt.wp_textG [0, 2, 3, 8, 10, 12, 14, 15, 18, 19] (Mm w [] [(g3, X), (g6, R), (g8, Z)] []) [[_, _], [_], [_, _, _, _, _, _, _], [_, _], [_, _, _, _, _], [_], [_], [_, _, _, _]] (by kernel_rfl) (by kernel_rfl) rfl t.out.drew (Txt.segs_cons ?_)
          replace t := Lib.hid t.out.drew
          go_wp2_with (first
            | (with_reducible refine wpl_load_row (o := ⟨some 59, _, _, _, _, _⟩) structEl rfl (.tmp 6) rfl rfl (t.out.e (g6, R) (by simp)) rfl ?_)
            | (go_at_call 14; (with_reducible refine (k0.out _).mono ?_); rintro e v ⟨rfl, kk⟩; have t := Lib.hid (t.out.kept kk); clear kk))
          refine ⟨rfl, t.out, Txt.segs_cons ?_⟩
          go_wp2_with (first
            | (refine wpl_build1 (o := ⟨some 61, _, _, _, _, _⟩) rfl 0 (.const (.int .u8 1)) rfl rfl u1.out ?_))
          refine ⟨rfl, t.out, Txt.segs_cons ?_⟩
          go_wp2_with (first
            | (with_reducible refine wpl_load_row (o := ⟨some 67, _, _, _, _, _⟩) structEl rfl (.tmp 8) rfl rfl (t.out.e (g8, Z) (by simp)) rfl ?_)
            | (go_at_call 14; (with_reducible refine (k1.out _).mono ?_); rintro e v ⟨rfl, kk⟩; have t := Lib.hid (t.out.kept kk); clear kk))
          refine ⟨rfl, t.out, Txt.segs_cons ?_⟩
          go_wp2_with (first
            | (with_reducible refine wpl_load_row (o := ⟨some 69, _, _, _, _, _⟩) structEl rfl (.tmp 3) rfl rfl (t.out.e (g3, X) (by simp)) rfl ?_)
            | (go_at_call 14; (with_reducible refine (k2.out _).mono ?_); rintro e v ⟨rfl, kk⟩; have t := Lib.hid (t.out.kept kk); clear kk))
          refine ⟨rfl, t.out, Txt.segs_cons ?_⟩
          go_wp2_with (first
            | (with_reducible refine wpl_load_row (o := ⟨some 73, _, _, _, _, _⟩) structEl rfl (.tmp 8) rfl rfl (t.out.e (g8, Z) (by simp)) rfl ?_)
            | (with_reducible refine wpl_load_row (o := ⟨some 74, _, _, _, _, _⟩) structEl rfl (.tmp 3) rfl rfl (t.out.e (g3, X) (by simp)) rfl ?_)
            | (go_at_call 13; (with_reducible refine (k3.out _).mono ?_); rintro e v ⟨rfl, kk⟩; have t := Lib.hid (t.out.kept kk); clear kk))
          refine ⟨rfl, t.out, Txt.segs_cons ?_⟩
          go_wp2_with (first
            | (go_at_call 14; (with_reducible refine (k4.out _).mono ?_); rintro e v ⟨rfl, kk⟩; have t := Lib.hid (t.out.kept kk); clear kk))
          refine ⟨rfl, t.out, Txt.segs_cons ?_⟩
          go_wp2_with (first
            | (with_reducible refine wpl_build0 (o := ⟨some 77, _, _, _, _, _⟩) rfl rfl u0.out ?_))
          refine ⟨rfl, t.out, Txt.segs_cons ?_⟩
          go_wp2_with fail
          refine ⟨rfl, t.out, Txt.segs_nil ⟨⟨by kernel_rfl, ?_⟩, ?_⟩⟩
          · intro j hj o ho hw
            have hj2 : j = 0 ∨ j = 2 ∨ j = 3 ∨ j = 8 ∨ j = 10 ∨ j = 12 ∨ j = 14 ∨ j = 15 ∨ j = 18 ∨ j = 19 := by simpa using hj
            rcases hj2 with rfl | rfl | rfl | rfl | rfl | rfl | rfl | rfl | rfl | rfl <;> cases ho
            · exact ⟨59, rfl, fun u hu => exec_load structEl (.tmp 6) rfl rfl (hu.e (g6, R) (by simp)) rfl⟩
            · exact ⟨61, rfl, fun u _ => exec_build1 0 (.const (.int .u8 1)) rfl rfl u1.out⟩
            · exact ⟨62, rfl, fun u _ => exec_eqb (.tmp 60) (.tmp 61) rfl rfl rfl Q62.out (hb_len _) hl1⟩
            · exact ⟨67, rfl, fun u hu => exec_load structEl (.tmp 8) rfl rfl (hu.e (g8, Z) (by simp)) rfl⟩
            · exact ⟨69, rfl, fun u hu => exec_load structEl (.tmp 3) rfl rfl (hu.e (g3, X) (by simp)) rfl⟩
            · exact ⟨71, rfl, fun u _ => exec_eqb (.tmp 68) (.tmp 70) rfl rfl rfl Q71.out (hb_len _) (hb_len _)⟩
            · exact ⟨73, rfl, fun u hu => exec_load structEl (.tmp 8) rfl rfl (hu.e (g8, Z) (by simp)) rfl⟩
            · exact ⟨74, rfl, fun u hu => exec_load structEl (.tmp 3) rfl rfl (hu.e (g3, X) (by simp)) rfl⟩
            · exact ⟨77, rfl, fun u _ => exec_build0 rfl u0.out⟩
            · exact ⟨78, rfl, fun u _ => exec_eqb (.tmp 76) (.tmp 77) rfl rfl rfl Q78.out (hb_len _) hl0⟩
          go_wp2_with fail
          go_ret
          exact ⟨rfl, t.out.k⟩
end Go.Proofs.Ythmpdhegodmjjaa
