/-
  Field's laws: what must be answered first.
-/
import Derived.Test.YthmpdhegodmjjaaFe20
namespace Go.Proofs.Ythmpdhegodmjjaa
open Go.RowKit Go.Mem Go.Txt

theorem leV_noughts : ∀ n : Nat, leV (noughts n) = 0
  | 0 => rfl
  | n + 1 => by
    show leV (0 :: List.replicate n 0) = 0
    rw [leV, show leV (List.replicate n 0) = 0 from leV_noughts n]; rfl
/-- An array of bytes that begins with a byte. -/
theorem lit_bytes (b : UInt8) : ∃ l : List UInt8, l = b :: noughts 31 ∧ l.length = 32 ∧ leV l = b.toNat ∧ Try.prog.built 29 [(0, .int .u8 (b.toNat : Int))] = some (bv l).toArray := by
  refine ⟨_, rfl, rfl, ?_, by kernel_rfl⟩
  rw [leV, leV_noughts]; rfl
theorem eq_lit (x : Nat) (b : UInt8) (l : List UInt8) (hl : l = b :: noughts 31) (h : le x 32 = b :: noughts 31) (W : World) : (Op.equalIn 10000 29 (ab (le x 32)) (ab l)).run Try.prog W = .ok true W := by
  subst hl
  have := run_eqIn_ab arrB Try.underlying5 (by kernel_rfl) (le x 32) (b :: noughts 31) (le_len _ _) rfl W
  rw [this, h]
  simp

set_option maxRecDepth 100000 in
set_option maxHeartbeats 1600000 in
theorem first_true (w : World) : Calls Try.prog 11 #[] w fun e w' => e = .returned (.bool true) ∧ Kept [] w w' := by
  obtain ⟨l2, h2, _, _, u2⟩ := lit_bytes 2
  obtain ⟨l1, h1, _, _, u1⟩ := lit_bytes 1
  have q2 := eq_lit 2 2 l2 h2 (by decide +kernel)
  have q1 := eq_lit 1 1 l1 h1 (by decide +kernel)
  have r4 := Rep.small 4 (by decide)
  have r1 := Rep.small 1 (by decide)
  have r2 := Rep.small 2 (by decide)
  have s4 : ∀ w, Calls Try.prog 12 #[.int .u64 4] w fun e w' => e = .returned (el (smL 4)) ∧ Kept [] w w' := fun w => small_any 4 w (by decide)
  have s1 : ∀ w, Calls Try.prog 12 #[.int .u64 1] w fun e w' => e = .returned (el (smL 1)) ∧ Kept [] w w' := fun w => small_any 1 w (by decide)
  have s2 : ∀ w, Calls Try.prog 12 #[.int .u64 2] w fun e w' => e = .returned (el (smL 2)) ∧ Kept [] w w' := fun w => small_any 2 w (by decide)
  have cr := fun w => root_yes r4 r1 ok41 w
  have cn := fun w => root_no r2 r1 ok21 w
  have hx := fun w => hash_rep (r4.rt r1 ok41) rt41 w
  have ci := fun w => inv_any (smL 2) r2.lim w
  have cm : MlC (smL 2) (invF (smL 2)) (mlF (smL 2) (invF (smL 2))) := mlF_any _ _ r2.lim r2.inv.lim
  have hm := fun w => hash_rep (r2.ml r2.inv) inv2 w
  generalize mlF (smL 2) (invF (smL 2)) = M at *
  generalize rtF (smL 4) (smL 1) = X at *
  generalize invF (smL 2) = I at *
  generalize smL 4 = A4, smL 1 = A1, smL 2 = A2 at *
  replace s4 := Lib.hid s4
  replace s1 := Lib.hid s1
  replace s2 := Lib.hid s2
  replace cr := Lib.hid cr
  replace cn := Lib.hid cn
  replace hx := Lib.hid hx
  replace ci := Lib.hid ci
  replace cm := Lib.hid cm
  replace hm := Lib.hid hm
  replace u1 := Lib.hid u1
  replace u2 := Lib.hid u2
  clear r4 r1 r2 h1 h2
  go_enter Try.func11, Try.ntmps11
  have H := Lib.hid (Els.none w)
  go_wp2_with (first
    | (go_at_call 12; (with_reducible refine (s4.out _).mono ?_); rintro e w1 ⟨rfl, kk⟩; have H := Lib.hid (H.out.kept kk); clear kk)
    | (go_at_call 12; (with_reducible refine (s1.out _).mono ?_); rintro e w1 ⟨rfl, kk⟩; have H := Lib.hid (H.out.kept kk); clear kk)
    | (go_at_call 26; (with_reducible refine (cr.out _).mono ?_); rintro e w1 ⟨rfl, kk⟩; have H := Lib.hid (H.out.kept kk); clear kk)
    | ((with_reducible refine wpl_new (o := ⟨some 1, _, _, _, _, _⟩) rfl rfl zeroEl ?_); intro g1 x1 m1)
    | ((with_reducible refine wpl_store_row (o := ⟨none, .store 27 (.tmp 1) (.tmp 9), _, _, _, _⟩) structEl rfl (.tmp 1) (.tmp 9) rfl rfl rfl m1.blk rfl rfl (one_el _) ?_); intro v1 b1 k1; have H := Lib.hid (H.out.put m1 b1 k1); clear b1 k1 m1)
    | (go_at_call 12; (with_reducible refine (s2.out _).mono ?_); rintro e w1 ⟨rfl, kk⟩; have H := Lib.hid (H.out.kept kk); clear kk)
    | (go_at_call 26; (with_reducible refine (cn.out _).mono ?_); rintro e w1 ⟨rfl, kk⟩; have H := Lib.hid (H.out.kept kk); clear kk)
    | ((with_reducible refine wpl_new (o := ⟨some 3, _, _, _, _, _⟩) rfl rfl zeroEl ?_); intro g3 x3 m3)
    | ((with_reducible refine wpl_store_row (o := ⟨none, .store 27 (.tmp 3) (.tmp 15), _, _, _, _⟩) structEl rfl (.tmp 3) (.tmp 15) rfl rfl rfl m3.blk rfl rfl (one_el _) ?_); intro v3 b3 k3; have H := Lib.hid (H.out.put m3 b3 k3); clear b3 k3 m3)
    | (with_reducible refine wpl_load_row (o := ⟨some 23, _, _, _, _, _⟩) structEl rfl (.tmp 1) rfl rfl (H.out.s (g1, X) (by simp)) rfl ?_)
    | (go_at_call 14; (with_reducible refine (hx.out _).mono ?_); rintro e w1 ⟨rfl, kk⟩; have H := Lib.hid (H.out.kept kk); clear kk)
    | (refine wpl_build1 (o := ⟨some 25, _, _, _, _, _⟩) rfl 0 (.const (.int .u8 2)) rfl rfl u2.out ?_)
    | (go_at_call 23; (with_reducible refine (ci.out _).mono ?_); rintro e w1 ⟨rfl, kk⟩; have H := Lib.hid (H.out.kept kk); clear kk)
    | (go_at_call 15; (with_reducible refine (cm.out _).mono ?_); rintro e w1 ⟨rfl, kk⟩; have H := Lib.hid (H.out.kept kk); clear kk)
    | (go_at_call 14; (with_reducible refine (hm.out _).mono ?_); rintro e w1 ⟨rfl, kk⟩; have H := Lib.hid (H.out.kept kk); clear kk)
    | (refine wpl_build1 (o := ⟨some 34, _, _, _, _, _⟩) rfl 0 (.const (.int .u8 1)) rfl rfl u1.out ?_))
  go_ret
  exact ⟨rfl, H.out.k⟩
end Go.Proofs.Ythmpdhegodmjjaa
