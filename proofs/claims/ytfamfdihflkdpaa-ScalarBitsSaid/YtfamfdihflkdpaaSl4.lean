/-
  Scalars' laws: a number is the sum of the powers of two of its bits (ScalarBits).
-/
import Derived.Test.YtfamfdihflkdpaaSl2
import Derived.Test.YtfamfdihflkdpaaText5
namespace Go.Proofs.Ytfamfdihflkdpaa
open Go.RowKit Go.Mem

theorem two253 : LL < 2 ^ 253 := by decide +kernel
theorem bits_step1 (X k : Nat) (hX : X < LL) (hb : X / 2 ^ k % 2 = 1) : (X % 2 ^ k + 2 ^ k % LL) % LL = X % 2 ^ (k + 1) := by
  have h1 : 2 ^ k ≤ X := by
    rcases Nat.lt_or_ge X (2 ^ k) with h | h
    · rw [Nat.div_eq_of_lt h] at hb; simp at hb
    · exact h
  have h2 : 2 ^ k % LL = 2 ^ k := Nat.mod_eq_of_lt (by omega)
  have h3 : X % 2 ^ (k + 1) = X % 2 ^ k + 2 ^ k := by
    rw [Nat.pow_succ, Nat.mod_mul, hb, Nat.mul_one]
  have h4 : X % 2 ^ (k + 1) ≤ X := Nat.mod_le _ _
  rw [h2, ← h3]
  exact Nat.mod_eq_of_lt (by omega)
theorem bits_step0 (X k : Nat) (hb : X / 2 ^ k % 2 = 0) : X % 2 ^ k = X % 2 ^ (k + 1) := by
  rw [Nat.pow_succ, Nat.mod_mul, hb, Nat.mul_zero, Nat.add_zero]
theorem bits_pow (k : Nat) : (2 ^ k % LL + 2 ^ k % LL) % LL = 2 ^ (k + 1) % LL := by
  rw [← Nat.add_mod, Nat.pow_succ, Nat.mul_two]
def pw2 (k : Nat) : Nat := 2 ^ k % LL
def low (X k : Nat) : Nat := X % 2 ^ k
theorem pw2_lt (k : Nat) : pw2 k < LL := Nat.mod_lt _ LL_pos
theorem low_lt (X k : Nat) (h : X < LL) : low X k < LL := Nat.lt_of_le_of_lt (Nat.mod_le _ _) h
theorem low_end (X : Nat) (h : X < LL) : low X 256 = X := Nat.mod_eq_of_lt (Nat.lt_of_lt_of_le h (by decide +kernel))
theorem bit_253 (X : Nat) (h : X < LL) : bitB X 253 = false := by
  have := bitB_nat X 253 (by omega)
  rw [Nat.div_eq_of_lt (Nat.lt_trans h two253)] at this
  exact this

/-- The three variables. -/
structure Trio (w0 : World) (g3 g4 g5 X s p : Nat) (u : World) : Prop where
  x : Blk u g3 27 (uv (ws4 X)).toArray
  s : Blk u g4 27 (uv (ws4 s)).toArray
  p : Blk u g5 27 (uv (ws4 p)).toArray
  k : Kept [] w0 u
theorem Trio.kept {w0 : World} {g3 g4 g5 X s p : Nat} {u u' : World} (h : Trio w0 g3 g4 g5 X s p u) (hk : Kept [] u u') : Trio w0 g3 g4 g5 X s p u' :=
  ⟨h.x.kept hk (by simp), h.s.kept hk (by simp), h.p.kept hk (by simp), h.k.then0 hk⟩
theorem Trio.drew {w0 : World} {g3 g4 g5 X s p : Nat} {u : World} (h : Trio w0 g3 g4 g5 X s p u) : Trio w0 g3 g4 g5 X s p u.drew := h.kept (Kept.refl [] u).drew
theorem Trio.set_s {w0 : World} {g3 g4 g5 X s p s' : Nat} {u u' : World} (h : Trio w0 g3 g4 g5 X s p u) (hb : Blk u' g4 27 (uv (ws4 s')).toArray) (hk : Kept [g4] u u') (n : g3 ≠ g4 ∧ g3 ≠ g5 ∧ g4 ≠ g5) (hl : w0.heap.size ≤ g4) : Trio w0 g3 g4 g5 X s' p u' :=
  ⟨h.x.kept hk (by simpa using n.1), hb, h.p.kept hk (by simpa using Ne.symm n.2.2), h.k.then1 hk hl⟩
theorem Trio.set_p {w0 : World} {g3 g4 g5 X s p p' : Nat} {u u' : World} (h : Trio w0 g3 g4 g5 X s p u) (hb : Blk u' g5 27 (uv (ws4 p')).toArray) (hk : Kept [g5] u u') (n : g3 ≠ g4 ∧ g3 ≠ g5 ∧ g4 ≠ g5) (hl : w0.heap.size ≤ g5) : Trio w0 g3 g4 g5 X s p' u' :=
  ⟨h.x.kept hk (by simpa using n.2.1), h.s.kept hk (by simpa using n.2.2), hb, h.k.then1 hk hl⟩

set_option maxRecDepth 100000 in
set_option maxHeartbeats 1600000 in
theorem bits_walk (a : List UInt8) (w : World) (ha : a.length = 32) :
    Calls Try.prog 7 #[ab a] w fun e w' => e = .returned (.bool true) ∧ Kept [] w w' := by
  have hL := Lib.hid (show (bv a).length = 32 by simp [ha])
  have ha2 := Lib.hid ha
  obtain ⟨X, hX⟩ : ∃ X, X = leV a % LL := ⟨_, rfl⟩
  have hXL := Lib.hid (show X < LL by rw [hX]; exact Nat.mod_lt _ LL_pos)
  have hin := Lib.hid (show ∀ w, Calls Try.prog 9 #[ab a] w fun e w' => e = .returned (w4 X) ∧ Kept [] w w' from fun w => by rw [hX]; exact in_any a ha w)
  obtain ⟨l1, h1, n1, v1, u1⟩ := lit_bytes 1
  have hn1 := Lib.hid (new_ok l1 1 n1 v1 (by decide +kernel))
  have U1 := Lib.hid u1
  clear ha hX h1 n1 v1 u1
  go_enter Try.func7, Try.ntmps7
  go_wp2_with (first
    | ((with_reducible refine wpl_box (o := ⟨some 1, _, _, _, _, _⟩) (v := ab a) rfl (.tmp 0) rfl rfl ?_); intro g1 w1 m1)
    | (go_at_call 8; refine (first_true _).mono ?_; rintro e w2 ⟨rfl, k2⟩)
    | (refine wpl_load_arr arrB rfl (.tmp 1) rfl rfl (m1.blk.kept k2 (by simp)) hL.out ?_)
    | (go_at_call 9; refine (hin.out _).mono ?_; rintro e w3 ⟨rfl, k3⟩; have K3 := Lib.hid ((m1.kept.then0 k2).then0 k3); clear m1 k2 k3)
    | ((with_reducible refine wpl_new (o := ⟨some 3, _, _, _, _, _⟩) rfl rfl zeroSc ?_); intro g3 w4 m3)
    | (refine wpl_store_row (o := ⟨none, .store _ (.tmp 3) _, _, _, _, _⟩) structSc rfl (.tmp 3) (.tmp 11) rfl rfl rfl m3.blk rfl rfl (one_uva _) ?_; intro w5 b3 k5; have K5 := Lib.hid ((K3.out.then0 m3.kept).then1 k5 (Nat.le_trans K3.out.size m3.le)); have L3 := Lib.hid (Nat.le_trans K3.out.size m3.le); have B3 := Lib.hid b3; clear b3 k5 m3)
    | ((with_reducible refine wpl_new (o := ⟨some 4, _, _, _, _, _⟩) rfl rfl zeroSc ?_); intro g4 w6 m4; have n34 := Lib.hid (m4.ne B3.out.lt); have B4 := Lib.hid (And.intro (B3.out.kept m4.kept (by simp)) m4.blk); have K6 := Lib.hid (K5.out.then0 m4.kept); have L4 := Lib.hid (Nat.le_trans K5.out.size m4.le); clear m4)
    | (refine wpl_build1 rfl 0 (.const (.int .u8 1)) rfl rfl U1.out ?_)
    | (go_at_call 16; refine (hn1.out _).mono ?_; rintro e w7 ⟨rfl, k7⟩; have B5 := Lib.hid (And.intro (B4.out.1.kept k7 (by simp)) (B4.out.2.kept k7 (by simp))); have K7 := Lib.hid (K6.out.then0 k7); clear k7)
    | ((with_reducible refine wpl_new (o := ⟨some 5, _, _, _, _, _⟩) rfl rfl zeroSc ?_); intro g5 w8 m5)
    | (refine wpl_store_row (o := ⟨none, .store _ (.tmp 5) _, _, _, _, _⟩) structSc rfl (.tmp 5) (.tmp 15) rfl rfl rfl m5.blk rfl rfl (one_uva _) ?_; intro w9 b5 k9))
  have n35 := m5.ne B5.out.1.lt
  have n45 := m5.ne B5.out.2.lt
  have N := Lib.hid (And.intro n34.out (And.intro n35 n45))
  have L5 := Lib.hid (Nat.le_trans K7.out.size m5.le)
  have K9 := ((K7.out.then0 m5.kept).then1 k9 L5.out)
  have HB := Lib.hid (show Trio w g3 g4 g5 X (low X 0) (pw2 0) w9 from ⟨(B5.out.1.kept m5.kept (by simp)).kept k9 (by simpa using n35), by
    have := (B5.out.2.kept m5.kept (by simp)).kept k9 (by simpa using n45)
    have e : low X 0 = 0 := Nat.mod_one _
    rw [e]; exact this, by
    have e : pw2 0 = 1 := by decide +kernel
    rw [e]; exact b5, K9⟩)
  clear n35 n45 m5 k9 b5 K9
  go_loopg [7] 256 (fun f i wk => ∃ k : Nat, k ≤ 256 ∧ f + k = 256 ∧ i = .int .i64 k ∧ Trio w g3 g4 g5 X (low X k) (pw2 k) wk)
  case atStart => exact ⟨0, by omega, rfl, rfl, HB.out⟩
  case round =>
    obtain ⟨k, hk, hf, rfl, hb⟩ := hrel
    have H := Lib.hid hb
    clear hb
    by_cases hlt : k < 256
    · have fp := Lib.hid (add_at (pw2 k) (pw2 k) (pw2 (k + 1)) (pw2_lt k) (pw2_lt k) (bits_pow k))
      have hz : X / 2 ^ k % 2 = 0 ∨ X / 2 ^ k % 2 = 1 := by omega
      rcases hz with hz | hz
      · have fb := Lib.hid (bit_at X k false (by rw [bitB_nat X k hlt]; exact decide_eq_false (by omega)))
        have e := Lib.hid (show low X k = low X (k + 1) from bits_step0 X k hz)
        clear hz
        go_wp2_with (first
          | (refine wpl_load_row structSc rfl (.tmp 3) rfl rfl H.out.x rfl ?_)
          | (go_at_call 18; refine (fb.out _).mono ?_; rintro e v ⟨rfl, kk⟩; have H := Lib.hid (H.out.kept kk); clear kk)
          | (refine wpl_load_row structSc rfl (.tmp 5) rfl rfl H.out.p rfl ?_)
          | (go_at_call 12; refine (fp.out _).mono ?_; rintro e v ⟨rfl, kk⟩; have H := Lib.hid (H.out.kept kk); clear kk)
          | (refine wpl_store_row structSc rfl (.tmp 5) (.tmp 29) rfl rfl rfl H.out.p rfl rfl (one_uva _) ?_; intro v bb kk; have H := Lib.hid (H.out.set_p bb kk N.out L5.out); clear bb kk))
        go_roundg (256 - (k + 1))
        case measure => omega
        case rel => exact ⟨k + 1, by omega, by omega, by go_num, by have := H.out; rwa [e.out] at this⟩
      · have fb := Lib.hid (bit_at X k true (by rw [bitB_nat X k hlt]; exact decide_eq_true hz))
        have fs := Lib.hid (add_at (low X k) (pw2 k) (low X (k + 1)) (low_lt X k hXL.out) (pw2_lt k) (bits_step1 X k hXL.out hz))
        clear hz
        go_wp2_with (first
          | (refine wpl_load_row structSc rfl (.tmp 3) rfl rfl H.out.x rfl ?_)
          | (go_at_call 18; refine (fb.out _).mono ?_; rintro e v ⟨rfl, kk⟩; have H := Lib.hid (H.out.kept kk); clear kk)
          | (refine wpl_load_row structSc rfl (.tmp 4) rfl rfl H.out.s rfl ?_)
          | (refine wpl_load_row structSc rfl (.tmp 5) rfl rfl H.out.p rfl ?_)
          | (go_at_call 12; (with_reducible refine (fs.out _).mono ?_); rintro e v ⟨rfl, kk⟩; have H := Lib.hid (H.out.kept kk); clear kk)
          | (go_at_call 12; (with_reducible refine (fp.out _).mono ?_); rintro e v ⟨rfl, kk⟩; have H := Lib.hid (H.out.kept kk); clear kk)
          | (refine wpl_store_row structSc rfl (.tmp 4) (.tmp 26) rfl rfl rfl H.out.s rfl rfl (one_uva _) ?_; intro v bb kk; have H := Lib.hid (H.out.set_s bb kk N.out L4.out); clear bb kk)
          | (refine wpl_store_row structSc rfl (.tmp 5) (.tmp 29) rfl rfl rfl H.out.p rfl rfl (one_uva _) ?_; intro v bb kk; have H := Lib.hid (H.out.set_p bb kk N.out L5.out); clear bb kk))
        go_roundg (256 - (k + 1))
        case measure => omega
        case rel => exact ⟨k + 1, by omega, by omega, by go_num, H.out⟩
    · obtain rfl : k = 256 := by omega
      rw [low_end X hXL.out] at H
      have f1 := Lib.hid (bit_at X 253 false (bit_253 X hXL.out))
      have f2 := Lib.hid (bit_at X (-1) false (bitB_no X (-1) (by omega)))
      have f3 := Lib.hid (bit_at X 256 false (bitB_no X 256 (by omega)))
      have q := run_eqIn_ab arrB Try.underlying5 (by kernel_rfl) (le X 32) (le X 32) (le_len _ _) (le_len _ _)
      rw [beq_self_eq_true] at q
      go_wp2_with fail
      refine Txt.wp_textG [0, 2, 4, 6, 11, 16] (Trio w g3 g4 g5 X X (pw2 256)) [[_, _], [_, _], [_, _, _, _], [_, _, _, _, _], [_, _, _, _, _], [_, _, _]] (by kernel_rfl) (by kernel_rfl) rfl H.out.drew (Txt.segs_cons ?_)
      have H := Lib.hid H.out.drew
      iterate 5 (go_wp2_with (first
          | (refine wpl_load_row structSc rfl (.tmp 3) rfl rfl H.out.x rfl ?_)
          | (refine wpl_load_row structSc rfl (.tmp 4) rfl rfl H.out.s rfl ?_)
          | (go_at_call 10; refine (hash_any _ _).mono ?_; rintro e v ⟨rfl, kk⟩; have H := Lib.hid (H.out.kept kk); clear kk)
          | (go_at_call 18; (with_reducible refine (f1.out _).mono ?_); rintro e v ⟨rfl, kk⟩; have H := Lib.hid (H.out.kept kk); clear kk)
          | (go_at_call 18; (with_reducible refine (f2.out _).mono ?_); rintro e v ⟨rfl, kk⟩; have H := Lib.hid (H.out.kept kk); clear kk)
          | (go_at_call 18; (with_reducible refine (f3.out _).mono ?_); rintro e v ⟨rfl, kk⟩; have H := Lib.hid (H.out.kept kk); clear kk)); refine ⟨rfl, H.out, Txt.segs_cons ?_⟩)
      go_wp2_with fail
      refine ⟨rfl, H.out, Txt.segs_nil ⟨⟨by kernel_rfl, ?_⟩, ?_⟩⟩
      · intro j hj o ho _
        have hj2 : j = 0 ∨ j = 2 ∨ j = 4 ∨ j = 6 ∨ j = 11 ∨ j = 16 := by simpa using hj
        rcases hj2 with rfl | rfl | rfl | rfl | rfl | rfl <;> cases ho
        · exact ⟨30, rfl, fun u hu => exec_load structSc (.tmp 4) rfl rfl hu.s rfl⟩
        · exact ⟨32, rfl, fun u hu => exec_load structSc (.tmp 3) rfl rfl hu.x rfl⟩
        · exact ⟨34, rfl, fun u _ => (exec_eql_ab arrB Try.underlying5 (by kernel_rfl) (by kernel_rfl) (.tmp 31) (.tmp 33) rfl (xs := le X 32) (ys := le X 32) rfl rfl (le_len _ _) (le_len _ _)).trans (by rw [beq_self_eq_true]; rfl)⟩
        · exact ⟨36, rfl, fun u hu => exec_load structSc (.tmp 3) rfl rfl hu.x rfl⟩
        · exact ⟨41, rfl, fun u hu => exec_load structSc (.tmp 3) rfl rfl hu.x rfl⟩
        · exact ⟨46, rfl, fun u hu => exec_load structSc (.tmp 3) rfl rfl hu.x rfl⟩
      go_wp2_with fail
      go_ret
      exact ⟨rfl, H.out.k⟩
end Go.Proofs.Ytfamfdihflkdpaa
