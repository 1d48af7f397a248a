/-
  Scalars' laws: sums and products are the document's (ScalarOps).
-/
import Derived.Test.YtfamfdihflkdpaaSl5
import Derived.Test.YtfamfdihflkdpaaSr5
namespace Go.Proofs.Ytfamfdihflkdpaa
open Go.RowKit Go.Mem Go.Txt

theorem leV_md (x : Nat) : leV (le (md x) 32) = md x := by
  rw [leV_le]
  exact Nat.mod_eq_of_lt (Nat.lt_trans (md_lt x) (by decide +kernel))
theorem radd_md (x y : Nat) (w : World) : Calls Try.prog 13 #[ab (le (md x) 32), ab (le (md y) 32)] w fun e w' => e = .returned (ab (le (md (x + y)) 32)) ∧ Kept [] w w' := by
  have := radd_any (le (md x) 32) (le (md y) 32) w (le_len _ _) (le_len _ _)
  rwa [leV_md, leV_md, show (md x + md y) % LL = md (x + y) from (Nat.add_mod _ _ _).symm] at this
theorem rmul_md (x y : Nat) (w : World) : Calls Try.prog 15 #[ab (le (md x) 32), ab (le (md y) 32)] w fun e w' => e = .returned (ab (le (md (x * y)) 32)) ∧ Kept [] w w' := by
  have := rmul_any (le (md x) 32) (le (md y) 32) w (le_len _ _) (le_len _ _)
  rwa [leV_md, leV_md, show (md x * md y) % LL = md (x * y) from (Nat.mul_mod _ _ _).symm] at this
theorem rmod_md (bs : List UInt8) (hl : bs.length = 32) (g : Nat) (w : World) (h : Blk w g 22 (bv bs).toArray) : Calls Try.prog 11 #[.slice (some ⟨g, 0, none⟩) 32 32] w fun e w' => e = .returned (ab (le (md (leV bs)) 32)) ∧ Kept [] w w' :=
  rmod_any _ bs w (by rw [hl]; exact Blk.rd h (by simp [hl]) (Nat.le_refl _)) (by omega)

/-- What lies in memory. -/
structure Ops4 (w0 : World) (g1 g2 g5 g6 : Nat) (a b : List UInt8) (x y : Nat) (u : World) : Prop where
  a : Blk u g1 22 (bv a).toArray
  b : Blk u g2 22 (bv b).toArray
  x : Blk u g5 27 (uv (ws4 x)).toArray
  y : Blk u g6 27 (uv (ws4 y)).toArray
  k : Kept [] w0 u
theorem Ops4.kept {w0 : World} {g1 g2 g5 g6 : Nat} {a b : List UInt8} {x y : Nat} {u u' : World} (h : Ops4 w0 g1 g2 g5 g6 a b x y u) (hk : Kept [] u u') : Ops4 w0 g1 g2 g5 g6 a b x y u' :=
  ⟨h.a.kept hk (by simp), h.b.kept hk (by simp), h.x.kept hk (by simp), h.y.kept hk (by simp), h.k.then0 hk⟩

/-- The boxes. -/
structure Box2 (w0 : World) (g1 g2 : Nat) (a b : List UInt8) (u : World) : Prop where
  a : Blk u g1 22 (bv a).toArray
  b : Blk u g2 22 (bv b).toArray
  k : Kept [] w0 u

set_option maxRecDepth 100000 in
set_option maxHeartbeats 1600000 in
theorem ops_walk (a b : List UInt8) (w : World) (ha : a.length = 32) (hb : b.length = 32) :
    Calls Try.prog 3 #[ab a, ab b] w fun e w' => e = .returned (.bool true) ∧ Kept [] w w' := by
  obtain ⟨A, hA⟩ : ∃ A, A = leV a := ⟨_, rfl⟩
  obtain ⟨B, hB⟩ : ∃ B, B = leV b := ⟨_, rfl⟩
  have ia := Lib.hid (show ∀ w, Calls Try.prog 9 #[ab a] w fun e w' => e = .returned (w4 (md A)) ∧ Kept [] w w' from fun w => by rw [hA]; exact in_any a ha w)
  have ib := Lib.hid (show ∀ w, Calls Try.prog 9 #[ab b] w fun e w' => e = .returned (w4 (md B)) ∧ Kept [] w w' from fun w => by rw [hB]; exact in_any b hb w)
  have ma := Lib.hid (rmod_md a ha)
  have mb := Lib.hid (rmod_md b hb)
  rw [← hA] at ma
  rw [← hB] at mb
  have hl := Lib.hid (And.intro (show (bv a).length = 32 by simp [ha]) (show (bv b).length = 32 by simp [hb]))
  clear ha hb hA hB
  go_enter Try.func3, Try.ntmps3
  go_wp2_with (first
    | ((with_reducible refine wpl_box (o := ⟨some 2, _, _, _, _, _⟩) (v := ab a) rfl (.tmp 0) rfl rfl ?_); intro g1 w1 m1)
    | ((with_reducible refine wpl_box (o := ⟨some 3, _, _, _, _, _⟩) (v := ab b) rfl (.tmp 1) rfl rfl ?_); intro g2 w2 m2)
    | (go_at_call 8; refine (first_true _).mono ?_; rintro e w5 ⟨rfl, k4⟩))
  have hB : Box2 w g1 g2 a b w5 := ⟨(m1.blk.kept m2.kept (by simp)).kept k4 (by simp), m2.blk.kept k4 (by simp), (m1.kept.then0 m2.kept).then0 k4⟩
  have lt : g1 < w5.heap.size ∧ g2 < w5.heap.size := ⟨hB.a.lt, hB.b.lt⟩
  have hB2 := Lib.hid hB
  clear m1 m2 k4 hB
  refine wp_multi (by kernel_rfl) [.val (ab a), .val (w4 (md A)), .val (ab b), .val (w4 (md B)), .new 27 (w4 0), .new 27 (w4 0), .put 4 1 (uv (ws4 (md A))).toArray, .put 5 3 (uv (ws4 (md B))).toArray]
    (Box2 w g1 g2 a b) (by kernel_rfl) (by kernel_rfl) ⟨hB2.out.a, hB2.out.b, hB2.out.k.drew⟩ (fun u u' T hS hk hT => ?_) ?_ ?_
  · have hz := hB2.out.k.size
    exact ⟨hS.a.kept hk (fun h => by have := hT _ h; omega), hS.b.kept hk (fun h => by have := hT _ h; omega), hS.k.fresh hk (fun k h => Nat.le_trans hz (hT k h))⟩
  · refine ⟨?_, ?_, ?_, ?_, ⟨⟨_, rfl⟩, rfl, zeroSc⟩, ⟨⟨_, rfl⟩, rfl, zeroSc⟩, ?_, ?_, trivial⟩
    · refine ⟨⟨_, rfl⟩, fun a' u K0 R hS hr ho h => ?_⟩
      exact wp_loadr arrB.row (.tmp 2) rfl ((ho 2 (by decide)).trans rfl) hS.a hl.out.1 (h u (Kept.refl _ _))
    · refine ⟨⟨_, rfl⟩, fun a' u K0 R hS hr ho h => ?_⟩
      refine wp_callf rfl enters_in (vs := #[ab a]) ?_ (ia.out u) h
      have := hr 0 (ab a) 9 _ rfl rfl rfl ⟨⟨0, .data⟩, by simp, rfl, rfl⟩
      simpa [Act.eval] using this
    · refine ⟨⟨_, rfl⟩, fun a' u K0 R hS hr ho h => ?_⟩
      exact wp_loadr arrB.row (.tmp 3) rfl ((ho 3 (by decide)).trans rfl) hS.b hl.out.2 (h u (Kept.refl _ _))
    · refine ⟨⟨_, rfl⟩, fun a' u K0 R hS hr ho h => ?_⟩
      refine wp_callf rfl enters_in (vs := #[ab b]) ?_ (ib.out u) h
      have := hr 2 (ab b) 11 _ rfl rfl rfl ⟨⟨2, .data⟩, by simp, rfl, rfl⟩
      simpa [Act.eval] using this
    · exact ⟨rfl, ⟨⟨4, .data⟩, by simp, rfl, rfl⟩, ⟨⟨1, .data⟩, by simp, rfl, rfl⟩, _, _, _, _, _, _, _, _, rfl, rfl, rfl, rfl, rfl, rfl, rfl, structSc, rfl, rfl, one_uva _⟩
    · exact ⟨rfl, ⟨⟨5, .data⟩, by simp, rfl, rfl⟩, ⟨⟨3, .data⟩, by simp, rfl, rfl⟩, _, _, _, _, _, _, _, _, rfl, rfl, rfl, rfl, rfl, rfl, rfl, structSc, rfl, rfl, one_uva _⟩
  · intro γ w6 hS hγ hne hput
    have b7 := hput 6 4 1 _ _ _ rfl rfl
    have b8 := hput 7 5 3 _ _ _ rfl rfl
    generalize e7 : γ 4 = g5 at *
    generalize e8 : γ 5 = g6 at *
    simp [actOf, VK, List.range, List.range.loop, Act.put, e7, e8]
    have t : Hid (Ops4 w g1 g2 g5 g6 a b (md A) (md B) w6) := Lib.hid ⟨hS.a, hS.b, b7, b8, hS.k⟩
    have q1 := eq_md A A rfl
    have q2 := eq_md (A + B) (A + B) rfl
    have q3 := eq_md (A * B) (A * B) rfl
    clear b7 b8 hput hne hγ hS e7 e8
    go_wp2_with fail
    refine Txt.wp_textG [0, 4, 6, 7, 15, 18, 19, 27] (Ops4 w g1 g2 g5 g6 a b (md A) (md B)) [[_, _], [_, _], [_, _, _, _, _], [_], [_, _], [_, _], [_], [_, _, _, _, _, _], [_], [_, _], [_, _], [_], [_, _, _]] (by kernel_rfl) (by kernel_rfl) rfl (t.out.kept (Kept.refl [] _).drew) (Txt.segs_cons ?_)
    have t := Lib.hid (t.out.kept (Kept.refl [] w6).drew)
    iterate 12 (go_wp2_with (first
      | (refine wpl_load_row structSc rfl (.tmp 5) rfl rfl t.out.x rfl ?_)
      | (refine wpl_load_row structSc rfl (.tmp 6) rfl rfl t.out.y rfl ?_)
      | (go_at_call 12; refine (add_md _ _ _).mono ?_; rintro e v ⟨rfl, kk⟩; have t := Lib.hid (t.out.kept kk); clear kk)
      | (go_at_call 14; refine (mul_md _ _ _).mono ?_; rintro e v ⟨rfl, kk⟩; have t := Lib.hid (t.out.kept kk); clear kk)
      | (go_at_call 13; refine (radd_md _ _ _).mono ?_; rintro e v ⟨rfl, kk⟩; have t := Lib.hid (t.out.kept kk); clear kk)
      | (go_at_call 15; refine (rmul_md _ _ _).mono ?_; rintro e v ⟨rfl, kk⟩; have t := Lib.hid (t.out.kept kk); clear kk)
      | (go_at_call 11; (with_reducible refine (ma.out _ _ t.out.a).mono ?_); rintro e v ⟨rfl, kk⟩; have t := Lib.hid (t.out.kept kk); clear kk)
      | (go_at_call 11; (with_reducible refine (mb.out _ _ t.out.b).mono ?_); rintro e v ⟨rfl, kk⟩; have t := Lib.hid (t.out.kept kk); clear kk)
      | (go_at_call 10; refine (hash_any _ _).mono ?_; rintro e v ⟨rfl, kk⟩; have t := Lib.hid (t.out.kept kk); clear kk)); refine ⟨rfl, t.out, Txt.segs_cons ?_⟩)
    go_wp2_with fail
    refine ⟨rfl, t.out, Txt.segs_nil ⟨⟨by kernel_rfl, ?_⟩, ?_⟩⟩
    · intro j hj o ho _
      have hj2 : j = 0 ∨ j = 4 ∨ j = 6 ∨ j = 7 ∨ j = 15 ∨ j = 18 ∨ j = 19 ∨ j = 27 := by simpa using hj
      have hq := fun x : Nat => beq_self_eq_true (le (md x) 32)
      rcases hj2 with rfl | rfl | rfl | rfl | rfl | rfl | rfl | rfl <;> cases ho
      · exact ⟨13, rfl, fun u hu => exec_load structSc (.tmp 5) rfl rfl hu.x rfl⟩
      · exact ⟨17, rfl, fun u _ => (exec_eql_ab arrB Try.underlying5 (by kernel_rfl) (by kernel_rfl) (.tmp 14) (.tmp 16) rfl (xs := le (md A) 32) (ys := le (md A) 32) rfl rfl (le_len _ _) (le_len _ _)).trans (by rw [hq A]; rfl)⟩
      · exact ⟨19, rfl, fun u hu => exec_load structSc (.tmp 5) rfl rfl hu.x rfl⟩
      · exact ⟨20, rfl, fun u hu => exec_load structSc (.tmp 6) rfl rfl hu.y rfl⟩
      · exact ⟨28, rfl, fun u _ => (exec_eql_ab arrB Try.underlying5 (by kernel_rfl) (by kernel_rfl) (.tmp 22) (.tmp 27) rfl (xs := le (md (A + B)) 32) (ys := le (md (A + B)) 32) rfl rfl (le_len _ _) (le_len _ _)).trans (by rw [hq (A + B)]; rfl)⟩
      · exact ⟨31, rfl, fun u hu => exec_load structSc (.tmp 5) rfl rfl hu.x rfl⟩
      · exact ⟨32, rfl, fun u hu => exec_load structSc (.tmp 6) rfl rfl hu.y rfl⟩
      · exact ⟨40, rfl, fun u _ => (exec_eql_ab arrB Try.underlying5 (by kernel_rfl) (by kernel_rfl) (.tmp 34) (.tmp 39) rfl (xs := le (md (A * B)) 32) (ys := le (md (A * B)) 32) rfl rfl (le_len _ _) (le_len _ _)).trans (by rw [hq (A * B)]; rfl)⟩
    go_wp2_with fail
    go_ret
    exact ⟨rfl, t.out.k⟩
end Go.Proofs.Ytfamfdihflkdpaa
