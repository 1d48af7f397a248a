/-
  Scalars' laws: wide numbers (ScalarWide).
-/
import Derived.Test.YtfamfdihflkdpaaSl2
namespace Go.Proofs.Ytfamfdihflkdpaa
open Go.RowKit Go.Mem

theorem over_tail (a b : List UInt8) (ha : a.length = 32) (hb : b.length = 32) : over (over (noughts 64) 0 a) 32 b = a ++ b := by
  have h1 : over (noughts 64) 0 a = a ++ noughts 32 := by
    rw [over0, ha]; rfl
  rw [h1]
  unfold over
  rw [List.take_left' ha, List.drop_eq_nil_of_le (by simp [ha, hb]), List.append_nil]
def oneL : List UInt8 := (noughts 64).set 32 1
theorem oneL_len : oneL.length = 64 := by decide +kernel
theorem oneL_val : leV oneL = M4 := by decide +kernel
theorem oneL_set : (bv (noughts 64)).toArray.setIfInBounds 32 (.int .u8 1) = (bv oneL).toArray := by kernel_rfl

theorem wide_law (lo hi : List UInt8) (hl : lo.length = 32) : leV lo + leV hi * leV oneL = leV (lo ++ hi) := by
  rw [leV_append, hl, oneL_val, show (256 : Nat) ^ 32 = M4 from by decide +kernel, Nat.mul_comm]

/-- The four arrays. -/
structure Wide4 (g1 g2 g4 g5 : Nat) (lo hi X : List UInt8) (u : World) : Prop where
  a : Blk u g1 22 (bv lo).toArray
  b : Blk u g2 22 (bv hi).toArray
  c : Blk u g4 35 (bv X).toArray
  d : Blk u g5 35 (bv oneL).toArray
theorem Wide4.kept {g1 g2 g4 g5 : Nat} {lo hi X : List UInt8} {u u' : World} (h : Wide4 g1 g2 g4 g5 lo hi X u) (k : Kept [] u u') : Wide4 g1 g2 g4 g5 lo hi X u' :=
  ⟨h.a.kept k (by simp), h.b.kept k (by simp), h.c.kept k (by simp), h.d.kept k (by simp)⟩

theorem mod_lt4 (x : Nat) : x % LL < M4 := Nat.lt_trans (Nat.mod_lt _ LL_pos) LL_lt

set_option maxRecDepth 100000 in
set_option maxHeartbeats 800000 in
theorem wide_walk (lo hi : List UInt8) (ha : lo.length = 32) (hb : hi.length = 32) (w : World) :
    Calls Try.prog 6 #[ab lo, ab hi] w fun e w' => e = .returned (.bool true) ∧ Kept [] w w' := by
  have hL := Lib.hid (And.intro ha hb)
  have ha2 := Lib.hid (show (bv lo).length = 32 by simp [ha])
  have hb2 := Lib.hid (show (bv hi).length = 32 by simp [hb])
  obtain ⟨X, hX⟩ : ∃ X, X = lo ++ hi := ⟨_, rfl⟩
  have hcat := Lib.hid (show X.length = 64 by simp [hX, ha, hb])
  have hX2 := Lib.hid hX
  clear hX
  clear ha hb
  go_enter Try.func6, Try.ntmps6
  go_wp2_with (first
    | ((with_reducible refine wpl_box (o := ⟨some 2, _, _, _, _, _⟩) (v := ab lo) rfl (.tmp 0) rfl rfl ?_); intro g1 w1 m1)
    | ((with_reducible refine wpl_box (o := ⟨some 3, _, _, _, _, _⟩) (v := ab hi) rfl (.tmp 1) rfl rfl ?_); intro g2 w2 m2)
    | (go_at_call 8; refine (first_true _).mono ?_; rintro e w3 ⟨rfl, k3⟩)
    | ((with_reducible refine wpl_new (o := ⟨some 5, _, _, _, _, _⟩) rfl rfl zeroL ?_); intro g4 w4 m4)
    | ((with_reducible refine wpl_new (o := ⟨some 6, _, _, _, _, _⟩) rfl rfl zeroL ?_); intro g5 w5 m5))
  have b1 := (((m1.blk.kept m2.kept (by simp)).kept k3 (by simp)).kept m4.kept (by simp)).kept m5.kept (by simp)
  have b2 := ((m2.blk.kept k3 (by simp)).kept m4.kept (by simp)).kept m5.kept (by simp)
  have b4 := m4.blk.kept m5.kept (by simp)
  have N := Lib.hid (And.intro (m4.ne (k3.lt (m2.kept.lt m1.blk.lt))) (And.intro (m4.ne (k3.lt m2.blk.lt)) (And.intro (m5.ne m4.blk.lt) (And.intro (m5.ne (m4.kept.lt (k3.lt (m2.kept.lt m1.blk.lt)))) (m5.ne (m4.kept.lt (k3.lt m2.blk.lt)))))))
  have K := Lib.hid (And.intro ((((m1.kept.then0 m2.kept).then0 k3).then0 m4.kept).then0 m5.kept) (And.intro (Nat.le_trans ((m1.kept.then0 m2.kept).then0 k3).size m4.le) (Nat.le_trans (((m1.kept.then0 m2.kept).then0 k3).then0 m4.kept).size m5.le)))
  have B := Lib.hid (And.intro b1 (And.intro b2 (And.intro b4 m5.blk)))
  clear b1 b2 b4 m1 m2 m4 m5 k3
  refine Txt.wp_text (by kernel_rfl) (by kernel_rfl) ?_
  go_wp2_with (refine wpl_cpy bytesT rfl (.tmp 9) (.tmp 10) rfl rfl B.out.2.2.1 (Nat.le_of_eq rfl) rfl (Blk.rd B.out.1.drew ha2.out (Nat.le_refl _)) (one_bv _) ?_; intro w6 b6 k6)
  have e1 : (over (ab (noughts 64)).cells.toList 0 (List.take 64 (bv lo))).toArray = (bv (over (noughts 64) 0 lo)).toArray := by
    rw [List.take_of_length_le (by rw [ha2.out]; omega)]
    exact congrArg _ (over_bv (noughts 64) _ 0)
  rw [e1] at b6
  refine ⟨rfl, by kernel_rfl, ?_⟩
  have n := N.out
  have B1 := Lib.hid (And.intro (B.out.1.drew.kept k6 (by simpa using n.1)) (And.intro (B.out.2.1.drew.kept k6 (by simpa using n.2.1)) (And.intro b6 (B.out.2.2.2.drew.kept k6 (by have := n.2.2.1; simpa using Ne.symm this)))))
  have K1 := Lib.hid (And.intro (K.out.1.drew.then1 k6 K.out.2.1).drew K.out.2)
  clear n b6 k6 e1
  go_wp2_with fail
  refine Txt.wp_text (by kernel_rfl) (by kernel_rfl) ?_
  go_wp2_with (refine wpl_cpy bytesT rfl (.tmp 12) (.tmp 13) rfl rfl B1.out.2.2.1 (by have := hL.out.1; simp [over, this]) rfl (Blk.rd B1.out.2.1.drew hb2.out (Nat.le_refl _)) (one_bv _) ?_; intro w7 b7 k7)
  have e2 : (over (bv (over (noughts 64) 0 lo)).toArray.toList 32 (List.take 32 (bv hi))).toArray = (bv X).toArray := by
    rw [List.take_of_length_le (by rw [hb2.out]; omega), hX2.out, ← over_tail lo hi hL.out.1 hL.out.2]
    exact congrArg _ (over_bv _ _ 32)
  rw [e2] at b7
  refine ⟨rfl, by kernel_rfl, ?_⟩
  have n := N.out
  have B2 := Lib.hid (And.intro (B1.out.1.drew.kept k7 (by simpa using n.1)) (And.intro (B1.out.2.1.drew.kept k7 (by simpa using n.2.1)) (And.intro b7 (B1.out.2.2.2.drew.kept k7 (by have := n.2.2.1; simpa using Ne.symm this)))))
  have K2 := Lib.hid (And.intro (K1.out.1.then1 k7 K.out.2.1) K.out.2)
  have c5 := B2.out.2.2.2.bget 32 (by decide)
  have f5 := B2.out.2.2.2.frozen 32
  have b8 := B2.out.2.2.2.set_ 32 (.int .u8 1)
  have k8 := (Kept.refl [g5] w7).setCell (p := ⟨g5, 32, none⟩) (.inl (by simp)) (.int .u8 1)
  have e3 : (ab (noughts 64)).cells.setIfInBounds 32 (.int .u8 1) = (bv oneL).toArray := oneL_set
  rw [e3] at b8
  have B3 := Lib.hid (And.intro (B2.out.1.kept k8 (by simpa using n.2.2.2.1)) (And.intro (B2.out.2.1.kept k8 (by simpa using n.2.2.2.2)) (And.intro (B2.out.2.2.1.kept k8 (by simpa using n.2.2.1)) b8)))
  have K3 := Lib.hid (K2.out.1.then1 k8 K.out.2.2)
  clear n b7 k7 e2 b8 k8 e3
  go_wp2_with fail
  refine Txt.wp_textF [3, 5, 7, 12] (Wide4 g1 g2 g4 g5 lo hi X) [[_, _], [_], [_, _], [_, _], [_, _], [_], [_], [_], [_, _]] (by kernel_rfl) (by kernel_rfl) rfl ⟨B3.out.1, B3.out.2.1, B3.out.2.2.1, B3.out.2.2.2⟩ (Txt.segs_cons ?_)
  have B : Hid (Wide4 g1 g2 g4 g5 lo hi X (w7.setCell ⟨g5, 32, none⟩ (.int .u8 1)).drew) := Lib.hid ⟨B3.out.1, B3.out.2.1, B3.out.2.2.1, B3.out.2.2.2⟩
  have K := Lib.hid K3.out.drew
  go_wp2_with (first | (refine wpl_load_arr arrL rfl (.tmp 5) rfl rfl B.out.c (by simpa using hcat.out) ?_) | (go_at_call 19; refine (wide_any _ hcat.out _).mono ?_; rintro e v1 ⟨rfl, kk⟩; have B := Lib.hid (B.out.kept kk); have K := Lib.hid (K.out.then0 kk); clear kk))
  refine ⟨rfl, B.out, Txt.segs_cons ?_⟩
  go_wp2_with (go_at_call 10; refine (hash_any _ _).mono ?_; rintro e v2 ⟨rfl, kk⟩; have B := Lib.hid (B.out.kept kk); have K := Lib.hid (K.out.then0 kk); clear kk)
  refine ⟨rfl, B.out, Txt.segs_cons ?_⟩
  go_wp2_with (first | (refine wpl_load_arr arrB rfl (.tmp 2) rfl rfl B.out.a ha2.out ?_) | (go_at_call 9; refine (in_any lo hL.out.1 _).mono ?_; rintro e v3 ⟨rfl, kk⟩; have B := Lib.hid (B.out.kept kk); have K := Lib.hid (K.out.then0 kk); clear kk))
  refine ⟨rfl, B.out, Txt.segs_cons ?_⟩
  go_wp2_with (first | (refine wpl_load_arr arrB rfl (.tmp 3) rfl rfl B.out.b hb2.out ?_) | (go_at_call 9; refine (in_any hi hL.out.2 _).mono ?_; rintro e v4 ⟨rfl, kk⟩; have B := Lib.hid (B.out.kept kk); have K := Lib.hid (K.out.then0 kk); clear kk))
  refine ⟨rfl, B.out, Txt.segs_cons ?_⟩
  go_wp2_with (first | (refine wpl_load_arr arrL rfl (.tmp 6) rfl rfl B.out.d rfl ?_) | (go_at_call 19; refine (wide_any oneL oneL_len _).mono ?_; rintro e v5 ⟨rfl, kk⟩; have B := Lib.hid (B.out.kept kk); have K := Lib.hid (K.out.then0 kk); clear kk))
  refine ⟨rfl, B.out, Txt.segs_cons ?_⟩
  go_wp2_with (go_at_call 14; refine (mul_any _ _ (mod_lt4 _) (mod_lt4 _) _).mono ?_; rintro e v6 ⟨rfl, kk⟩; have B := Lib.hid (B.out.kept kk); have K := Lib.hid (K.out.then0 kk); clear kk)
  refine ⟨rfl, B.out, Txt.segs_cons ?_⟩
  go_wp2_with (go_at_call 12; refine (add_any _ _ (Nat.mod_lt _ LL_pos) (Nat.mod_lt _ LL_pos) _).mono ?_; rintro e v7 ⟨rfl, kk⟩; have B := Lib.hid (B.out.kept kk); have K := Lib.hid (K.out.then0 kk); clear kk)
  refine ⟨rfl, B.out, Txt.segs_cons ?_⟩
  go_wp2_with (go_at_call 10; refine (hash_any _ _).mono ?_; rintro e v8 ⟨rfl, kk⟩; have B := Lib.hid (B.out.kept kk); have K := Lib.hid (K.out.then0 kk); clear kk)
  refine ⟨rfl, B.out, Txt.segs_cons ?_⟩
  have hlaw := wide_law lo hi hL.out.1
  rw [← hX2.out] at hlaw
  have he := run_eqIn_ab arrB Try.underlying5 (by kernel_rfl) (le (leV X % LL) 32) (le ((leV lo + leV hi * leV oneL) % LL) 32) (le_len _ _) (le_len _ _)
  have hq := Lib.hid (show (le (leV X % LL) 32 == le ((leV lo + leV hi * leV oneL) % LL) 32) = true by rw [hlaw]; exact beq_self_eq_true _)
  rw [hq.out] at he
  clear hlaw
  go_wp2_with fail
  refine ⟨rfl, B.out, Txt.segs_nil ⟨⟨by kernel_rfl, ?_⟩, ?_⟩⟩
  · intro j hj o ho _
    have hj2 : j = 3 ∨ j = 5 ∨ j = 7 ∨ j = 12 := by simpa using hj
    rcases hj2 with rfl | rfl | rfl | rfl <;> cases ho
    · exact ⟨19, rfl, fun u hu => exec_load arrB.row (.tmp 2) rfl rfl hu.a ha2.out⟩
    · exact ⟨21, rfl, fun u hu => exec_load arrB.row (.tmp 3) rfl rfl hu.b hb2.out⟩
    · exact ⟨23, rfl, fun u hu => exec_load arrL.row (.tmp 6) rfl rfl hu.d rfl⟩
    · exact ⟨28, rfl, fun u _ => (exec_eql_ab arrB Try.underlying5 (by kernel_rfl) (by kernel_rfl) (.tmp 18) (.tmp 27) rfl (xs := le (leV X % LL) 32) (ys := le ((leV lo + leV hi * leV oneL) % LL) 32) rfl rfl (le_len _ _) (le_len _ _)).trans (by rw [hq.out]; rfl)⟩
  go_wp2_with fail
  go_ret
  exact ⟨rfl, K.out⟩
theorem wide_lawr (lo hi : List UInt8) (w : World) (ha : lo.length = 32) (hb : hi.length = 32) :
    Calls Try.prog 6 #[ab lo, ab hi] w fun e w' => e = .returned (.bool true) ∧ Kept [] w w' := wide_walk lo hi ha hb w
end Go.Proofs.Ytfamfdihflkdpaa
