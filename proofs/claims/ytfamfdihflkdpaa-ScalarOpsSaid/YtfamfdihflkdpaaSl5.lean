/-
  Scalars' laws: sums and products in any order (ScalarLaws).
-/
import Derived.Test.YtfamfdihflkdpaaSl2
import Derived.Test.YtfamfdihflkdpaaInv
import Derived.Test.YtfamfdihflkdpaaText5
import Derived.Shelf.Abstract
namespace Go.Proofs.Ytfamfdihflkdpaa
open Go.RowKit Go.Mem Go.Txt

theorem enters_in (xs : Array Value) (w : World) : (callFunc 9 xs).run Try.prog w = .ok (.enter 9 xs) w :=
  enters_of (c := _) Try.func9 (by kernel_rfl) rfl xs w

/-- Modulo L. -/
def md (x : Nat) : Nat := x % LL
theorem md_lt (x : Nat) : md x < LL := Nat.mod_lt _ LL_pos
theorem add_md (x y : Nat) (w : World) : Calls Try.prog 12 #[w4 (md x), w4 (md y)] w fun e w' => e = .returned (w4 (md (x + y))) ∧ Kept [] w w' := by
  have := add_any (md x) (md y) (md_lt x) (md_lt y) w
  rwa [show (md x + md y) % LL = md (x + y) from (Nat.add_mod _ _ _).symm] at this
theorem mul_md (x y : Nat) (w : World) : Calls Try.prog 14 #[w4 (md x), w4 (md y)] w fun e w' => e = .returned (w4 (md (x * y))) ∧ Kept [] w w' := by
  have := mul_any (md x) (md y) (Nat.lt_trans (md_lt x) LL_lt) (Nat.lt_trans (md_lt y) LL_lt) w
  rwa [show (md x * md y) % LL = md (x * y) from (Nat.mul_mod _ _ _).symm] at this
theorem eq_md (x y : Nat) (h : x = y) (W : World) : (Op.equalIn 10000 22 (ab (le (md x) 32)) (ab (le (md y) 32))).run Try.prog W = .ok true W := by
  subst h
  have := run_eqIn_ab arrB Try.underlying5 (by kernel_rfl) (le (md x) 32) (le (md x) 32) (le_len _ _) (le_len _ _) W
  rwa [beq_self_eq_true] at this

/-- The three variables. -/
structure Var3 (w0 : World) (g1 g2 g3 x y z : Nat) (u : World) : Prop where
  a : Blk u g1 27 (uv (ws4 x)).toArray
  b : Blk u g2 27 (uv (ws4 y)).toArray
  c : Blk u g3 27 (uv (ws4 z)).toArray
  k : Kept [] w0 u
theorem Var3.kept {w0 : World} {g1 g2 g3 x y z : Nat} {u u' : World} (h : Var3 w0 g1 g2 g3 x y z u) (hk : Kept [] u u') : Var3 w0 g1 g2 g3 x y z u' :=
  ⟨h.a.kept hk (by simp), h.b.kept hk (by simp), h.c.kept hk (by simp), h.k.then0 hk⟩

/-- The boxes. -/
structure Box3 (w0 : World) (g1 g2 g3 : Nat) (a b c : List UInt8) (u : World) : Prop where
  a : Blk u g1 22 (bv a).toArray
  b : Blk u g2 22 (bv b).toArray
  c : Blk u g3 22 (bv c).toArray
  k : Kept [] w0 u

set_option maxRecDepth 100000 in
set_option maxHeartbeats 1600000 in
theorem laws_walk (a b c : List UInt8) (w : World) (ha : a.length = 32) (hb : b.length = 32) (hc : c.length = 32) :
    Calls Try.prog 5 #[ab a, ab b, ab c] w fun e w' => e = .returned (.bool true) ∧ Kept [] w w' := by
  obtain ⟨A, hA⟩ : ∃ A, A = leV a := ⟨_, rfl⟩
  obtain ⟨B, hB⟩ : ∃ B, B = leV b := ⟨_, rfl⟩
  obtain ⟨C, hC⟩ : ∃ C, C = leV c := ⟨_, rfl⟩
  have ia := Lib.hid (show ∀ w, Calls Try.prog 9 #[ab a] w fun e w' => e = .returned (w4 (md A)) ∧ Kept [] w w' from fun w => by rw [hA]; exact in_any a ha w)
  have ib := Lib.hid (show ∀ w, Calls Try.prog 9 #[ab b] w fun e w' => e = .returned (w4 (md B)) ∧ Kept [] w w' from fun w => by rw [hB]; exact in_any b hb w)
  have ic := Lib.hid (show ∀ w, Calls Try.prog 9 #[ab c] w fun e w' => e = .returned (w4 (md C)) ∧ Kept [] w w' from fun w => by rw [hC]; exact in_any c hc w)
  have hl := Lib.hid (And.intro (show (bv a).length = 32 by simp [ha]) (And.intro (show (bv b).length = 32 by simp [hb]) (show (bv c).length = 32 by simp [hc])))
  clear ha hb hc hA hB hC
  go_enter Try.func5, Try.ntmps5
  go_wp2_with (first
    | ((with_reducible refine wpl_box (o := ⟨some 3, _, _, _, _, _⟩) (v := ab a) rfl (.tmp 0) rfl rfl ?_); intro g1 w1 m1)
    | ((with_reducible refine wpl_box (o := ⟨some 4, _, _, _, _, _⟩) (v := ab b) rfl (.tmp 1) rfl rfl ?_); intro g2 w2 m2)
    | ((with_reducible refine wpl_box (o := ⟨some 5, _, _, _, _, _⟩) (v := ab c) rfl (.tmp 2) rfl rfl ?_); intro g3 w3 m3)
    | (go_at_call 8; refine (first_true _).mono ?_; rintro e w5 ⟨rfl, k4⟩))
  have hB : Box3 w g1 g2 g3 a b c w5 := ⟨((m1.blk.kept m2.kept (by simp)).kept m3.kept (by simp)).kept k4 (by simp), (m2.blk.kept m3.kept (by simp)).kept k4 (by simp), m3.blk.kept k4 (by simp), ((m1.kept.then0 m2.kept).then0 m3.kept).then0 k4⟩
  have lt : g1 < w5.heap.size ∧ g2 < w5.heap.size ∧ g3 < w5.heap.size := ⟨hB.a.lt, hB.b.lt, hB.c.lt⟩
  have hB2 := Lib.hid hB
  clear m1 m2 m3 k4 hB
  refine wp_multi (by kernel_rfl) [.val (ab a), .val (w4 (md A)), .val (ab b), .val (w4 (md B)), .val (ab c), .val (w4 (md C)), .new 27 (w4 0), .new 27 (w4 0), .new 27 (w4 0), .put 6 1 (uv (ws4 (md A))).toArray, .put 7 3 (uv (ws4 (md B))).toArray, .put 8 5 (uv (ws4 (md C))).toArray]
    (Box3 w g1 g2 g3 a b c) (by kernel_rfl) (by kernel_rfl) ⟨hB2.out.a, hB2.out.b, hB2.out.c, hB2.out.k.drew⟩ (fun u u' T hS hk hT => ?_) ?_ ?_
  · have hz := hB2.out.k.size
    exact ⟨hS.a.kept hk (fun h => by have := hT _ h; omega), hS.b.kept hk (fun h => by have := hT _ h; omega), hS.c.kept hk (fun h => by have := hT _ h; omega), hS.k.fresh hk (fun k h => Nat.le_trans hz (hT k h))⟩
  · refine ⟨?_, ?_, ?_, ?_, ?_, ?_, ⟨⟨_, rfl⟩, rfl, zeroSc⟩, ⟨⟨_, rfl⟩, rfl, zeroSc⟩, ⟨⟨_, rfl⟩, rfl, zeroSc⟩, ?_, ?_, ?_, trivial⟩
    · refine ⟨⟨_, rfl⟩, fun a' u K0 R hS hr ho h => ?_⟩
      exact wp_loadr arrB.row (.tmp 3) rfl ((ho 3 (by decide)).trans rfl) hS.a hl.out.1 (h u (Kept.refl _ _))
    · refine ⟨⟨_, rfl⟩, fun a' u K0 R hS hr ho h => ?_⟩
      refine wp_callf rfl enters_in (vs := #[ab a]) ?_ (ia.out u) h
      have := hr 0 (ab a) 12 _ rfl rfl rfl ⟨⟨0, .data⟩, by simp, rfl, rfl⟩
      simpa [Act.eval] using this
    · refine ⟨⟨_, rfl⟩, fun a' u K0 R hS hr ho h => ?_⟩
      exact wp_loadr arrB.row (.tmp 4) rfl ((ho 4 (by decide)).trans rfl) hS.b hl.out.2.1 (h u (Kept.refl _ _))
    · refine ⟨⟨_, rfl⟩, fun a' u K0 R hS hr ho h => ?_⟩
      refine wp_callf rfl enters_in (vs := #[ab b]) ?_ (ib.out u) h
      have := hr 2 (ab b) 14 _ rfl rfl rfl ⟨⟨2, .data⟩, by simp, rfl, rfl⟩
      simpa [Act.eval] using this
    · refine ⟨⟨_, rfl⟩, fun a' u K0 R hS hr ho h => ?_⟩
      exact wp_loadr arrB.row (.tmp 5) rfl ((ho 5 (by decide)).trans rfl) hS.c hl.out.2.2 (h u (Kept.refl _ _))
    · refine ⟨⟨_, rfl⟩, fun a' u K0 R hS hr ho h => ?_⟩
      refine wp_callf rfl enters_in (vs := #[ab c]) ?_ (ic.out u) h
      have := hr 4 (ab c) 16 _ rfl rfl rfl ⟨⟨4, .data⟩, by simp, rfl, rfl⟩
      simpa [Act.eval] using this
    · exact ⟨rfl, ⟨⟨6, .data⟩, by simp, rfl, rfl⟩, ⟨⟨1, .data⟩, by simp, rfl, rfl⟩, _, _, _, _, _, _, _, _, rfl, rfl, rfl, rfl, rfl, rfl, rfl, structSc, rfl, rfl, one_uva _⟩
    · exact ⟨rfl, ⟨⟨7, .data⟩, by simp, rfl, rfl⟩, ⟨⟨3, .data⟩, by simp, rfl, rfl⟩, _, _, _, _, _, _, _, _, rfl, rfl, rfl, rfl, rfl, rfl, rfl, structSc, rfl, rfl, one_uva _⟩
    · exact ⟨rfl, ⟨⟨8, .data⟩, by simp, rfl, rfl⟩, ⟨⟨5, .data⟩, by simp, rfl, rfl⟩, _, _, _, _, _, _, _, _, rfl, rfl, rfl, rfl, rfl, rfl, rfl, structSc, rfl, rfl, one_uva _⟩
  · intro γ w6 hS hγ hne hput
    have b7 := hput 9 6 1 _ _ _ rfl rfl
    have b8 := hput 10 7 3 _ _ _ rfl rfl
    have b9 := hput 11 8 5 _ _ _ rfl rfl
    generalize e7 : γ 6 = g7 at *
    generalize e8 : γ 7 = g8 at *
    generalize e9 : γ 8 = g9 at *
    simp [actOf, VK, List.range, List.range.loop, Act.put, e7, e8, e9]
    have t : Hid (Var3 w g7 g8 g9 (md A) (md B) (md C) w6) := Lib.hid ⟨b7, b8, b9, hS.k⟩
    have q1 := eq_md (A + B) (B + A) (Nat.add_comm _ _)
    have q2 := eq_md (A + B + C) (A + (B + C)) (Nat.add_assoc _ _ _)
    have q3 := eq_md (A * B) (B * A) (Nat.mul_comm _ _)
    have q4 := eq_md (A * B * C) (A * (B * C)) (Nat.mul_assoc _ _ _)
    have q5 := eq_md (A * (B + C)) (A * B + A * C) (Nat.mul_add _ _ _)
    clear b7 b8 b9 hput hne hγ hS e7 e8 e9
    have Q1 := Lib.hid (show (le (md (A + B)) 32 == le (md (B + A)) 32) = true by rw [show A + B = B + A from Nat.add_comm _ _]; exact beq_self_eq_true _)
    have Q2 := Lib.hid (show (le (md (A + B + C)) 32 == le (md (A + (B + C))) 32) = true by rw [show A + B + C = A + (B + C) from Nat.add_assoc _ _ _]; exact beq_self_eq_true _)
    have Q3 := Lib.hid (show (le (md (A * B)) 32 == le (md (B * A)) 32) = true by rw [show A * B = B * A from Nat.mul_comm _ _]; exact beq_self_eq_true _)
    have Q4 := Lib.hid (show (le (md (A * B * C)) 32 == le (md (A * (B * C))) 32) = true by rw [show A * B * C = A * (B * C) from Nat.mul_assoc _ _ _]; exact beq_self_eq_true _)
    have Q5 := Lib.hid (show (le (md (A * (B + C))) 32 == le (md (A * B + A * C)) 32) = true by rw [show A * (B + C) = A * B + A * C from Nat.mul_add _ _ _]; exact beq_self_eq_true _)
    go_wp2_with fail
    refine Txt.wp_textG [0, 1, 4, 5, 8, 10, 11, 13, 16, 17, 18, 22, 25, 26, 29, 30, 33, 36, 37, 39, 42, 43, 44, 48, 51, 52, 53, 57, 58, 60, 61, 65] (Var3 w g7 g8 g9 (md A) (md B) (md C)) [[_, _, _], [_], [_, _, _], [_], [_, _, _, _, _], [_, _], [_], [_, _, _, _], [_], [_], [_, _, _, _, _, _], [_], [_, _, _], [_], [_, _, _, _, _, _], [_, _], [_], [_, _, _, _], [_], [_], [_, _, _, _, _, _, _], [_], [_], [_, _, _], [_, _, _], [_], [_], [_, _, _]] (by kernel_rfl) (by kernel_rfl) rfl ⟨t.out.a, t.out.b, t.out.c, t.out.k.drew⟩ (Txt.segs_cons ?_)
    have t : Hid (Var3 w g7 g8 g9 (md A) (md B) (md C) w6.drew) := Lib.hid ⟨t.out.a, t.out.b, t.out.c, t.out.k.drew⟩
    iterate 27 (go_wp2_with (first
      | (refine wpl_load_row structSc rfl (.tmp 7) rfl rfl t.out.a rfl ?_)
      | (refine wpl_load_row structSc rfl (.tmp 8) rfl rfl t.out.b rfl ?_)
      | (refine wpl_load_row structSc rfl (.tmp 9) rfl rfl t.out.c rfl ?_)
      | (go_at_call 12; refine (add_md _ _ _).mono ?_; rintro e v ⟨rfl, kk⟩; have t := Lib.hid (t.out.kept kk); clear kk)
      | (go_at_call 14; refine (mul_md _ _ _).mono ?_; rintro e v ⟨rfl, kk⟩; have t := Lib.hid (t.out.kept kk); clear kk)
      | (go_at_call 10; refine (hash_any _ _).mono ?_; rintro e v ⟨rfl, kk⟩; have t := Lib.hid (t.out.kept kk); clear kk)); refine ⟨rfl, t.out, Txt.segs_cons ?_⟩)
    go_wp2_with fail
    refine ⟨rfl, t.out, Txt.segs_nil ⟨⟨by kernel_rfl, ?_⟩, ?_⟩⟩
    · intro j hj o ho _
      have hj2 : j = 0 ∨ j = 1 ∨ j = 4 ∨ j = 5 ∨ j = 8 ∨ j = 10 ∨ j = 11 ∨ j = 13 ∨ j = 16 ∨ j = 17 ∨ j = 18 ∨ j = 22 ∨ j = 25 ∨ j = 26 ∨ j = 29 ∨ j = 30 ∨ j = 33 ∨ j = 36 ∨ j = 37 ∨ j = 39 ∨ j = 42 ∨ j = 43 ∨ j = 44 ∨ j = 48 ∨ j = 51 ∨ j = 52 ∨ j = 53 ∨ j = 57 ∨ j = 58 ∨ j = 60 ∨ j = 61 ∨ j = 65 := by simpa using hj
      rcases hj2 with rfl | rfl | rfl | rfl | rfl | rfl | rfl | rfl | rfl | rfl | rfl | rfl | rfl | rfl | rfl | rfl | rfl | rfl | rfl | rfl | rfl | rfl | rfl | rfl | rfl | rfl | rfl | rfl | rfl | rfl | rfl | rfl <;> cases ho
      · exact ⟨18, rfl, fun u hu => exec_load structSc (.tmp 7) rfl rfl hu.a rfl⟩
      · exact ⟨19, rfl, fun u hu => exec_load structSc (.tmp 8) rfl rfl hu.b rfl⟩
      · exact ⟨22, rfl, fun u hu => exec_load structSc (.tmp 8) rfl rfl hu.b rfl⟩
      · exact ⟨23, rfl, fun u hu => exec_load structSc (.tmp 7) rfl rfl hu.a rfl⟩
      · exact ⟨26, rfl, fun u _ => (exec_eql_ab arrB Try.underlying5 (by kernel_rfl) (by kernel_rfl) (.tmp 21) (.tmp 25) rfl (xs := le (md (A + B)) 32) (ys := le (md (B + A)) 32) rfl rfl (le_len _ _) (le_len _ _)).trans (by rw [Q1.out]; rfl)⟩
      · exact ⟨28, rfl, fun u hu => exec_load structSc (.tmp 7) rfl rfl hu.a rfl⟩
      · exact ⟨29, rfl, fun u hu => exec_load structSc (.tmp 8) rfl rfl hu.b rfl⟩
      · exact ⟨31, rfl, fun u hu => exec_load structSc (.tmp 9) rfl rfl hu.c rfl⟩
      · exact ⟨34, rfl, fun u hu => exec_load structSc (.tmp 7) rfl rfl hu.a rfl⟩
      · exact ⟨35, rfl, fun u hu => exec_load structSc (.tmp 8) rfl rfl hu.b rfl⟩
      · exact ⟨36, rfl, fun u hu => exec_load structSc (.tmp 9) rfl rfl hu.c rfl⟩
      · exact ⟨40, rfl, fun u _ => (exec_eql_ab arrB Try.underlying5 (by kernel_rfl) (by kernel_rfl) (.tmp 33) (.tmp 39) rfl (xs := le (md (A + B + C)) 32) (ys := le (md (A + (B + C))) 32) rfl rfl (le_len _ _) (le_len _ _)).trans (by rw [Q2.out]; rfl)⟩
      · exact ⟨43, rfl, fun u hu => exec_load structSc (.tmp 7) rfl rfl hu.a rfl⟩
      · exact ⟨44, rfl, fun u hu => exec_load structSc (.tmp 8) rfl rfl hu.b rfl⟩
      · exact ⟨47, rfl, fun u hu => exec_load structSc (.tmp 8) rfl rfl hu.b rfl⟩
      · exact ⟨48, rfl, fun u hu => exec_load structSc (.tmp 7) rfl rfl hu.a rfl⟩
      · exact ⟨51, rfl, fun u _ => (exec_eql_ab arrB Try.underlying5 (by kernel_rfl) (by kernel_rfl) (.tmp 46) (.tmp 50) rfl (xs := le (md (A * B)) 32) (ys := le (md (B * A)) 32) rfl rfl (le_len _ _) (le_len _ _)).trans (by rw [Q3.out]; rfl)⟩
      · exact ⟨54, rfl, fun u hu => exec_load structSc (.tmp 7) rfl rfl hu.a rfl⟩
      · exact ⟨55, rfl, fun u hu => exec_load structSc (.tmp 8) rfl rfl hu.b rfl⟩
      · exact ⟨57, rfl, fun u hu => exec_load structSc (.tmp 9) rfl rfl hu.c rfl⟩
      · exact ⟨60, rfl, fun u hu => exec_load structSc (.tmp 7) rfl rfl hu.a rfl⟩
      · exact ⟨61, rfl, fun u hu => exec_load structSc (.tmp 8) rfl rfl hu.b rfl⟩
      · exact ⟨62, rfl, fun u hu => exec_load structSc (.tmp 9) rfl rfl hu.c rfl⟩
      · exact ⟨66, rfl, fun u _ => (exec_eql_ab arrB Try.underlying5 (by kernel_rfl) (by kernel_rfl) (.tmp 59) (.tmp 65) rfl (xs := le (md (A * B * C)) 32) (ys := le (md (A * (B * C))) 32) rfl rfl (le_len _ _) (le_len _ _)).trans (by rw [Q4.out]; rfl)⟩
      · exact ⟨69, rfl, fun u hu => exec_load structSc (.tmp 7) rfl rfl hu.a rfl⟩
      · exact ⟨70, rfl, fun u hu => exec_load structSc (.tmp 8) rfl rfl hu.b rfl⟩
      · exact ⟨71, rfl, fun u hu => exec_load structSc (.tmp 9) rfl rfl hu.c rfl⟩
      · exact ⟨75, rfl, fun u hu => exec_load structSc (.tmp 7) rfl rfl hu.a rfl⟩
      · exact ⟨76, rfl, fun u hu => exec_load structSc (.tmp 8) rfl rfl hu.b rfl⟩
      · exact ⟨78, rfl, fun u hu => exec_load structSc (.tmp 7) rfl rfl hu.a rfl⟩
      · exact ⟨79, rfl, fun u hu => exec_load structSc (.tmp 9) rfl rfl hu.c rfl⟩
      · exact ⟨83, rfl, fun u _ => (exec_eql_ab arrB Try.underlying5 (by kernel_rfl) (by kernel_rfl) (.tmp 74) (.tmp 82) rfl (xs := le (md (A * (B + C))) 32) (ys := le (md (A * B + A * C)) 32) rfl rfl (le_len _ _) (le_len _ _)).trans (by rw [Q5.out]; rfl)⟩
    go_wp2_with fail
    go_ret
    exact ⟨rfl, t.out.k⟩
end Go.Proofs.Ytfamfdihflkdpaa
