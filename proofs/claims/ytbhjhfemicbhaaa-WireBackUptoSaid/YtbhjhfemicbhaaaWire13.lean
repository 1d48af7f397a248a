/-
  The wire: the document's tape: the other calls.
-/
import Derived.Test.YtbhjhfemicbhaaaWire12
import Derived.Deep.QuietTactic
import Derived.BigQuiet
namespace Go.Proofs.Ytbhjhfemicbhaaa
open Go.RowKit Go.Mem

theorem TapeA.lt {w : World} {base t : Nat} {s : St} (h : TapeA w base t s) : t < w.heap.size := by
  obtain ⟨v, bs, k, hb, _⟩ := h; exact hb.lt
theorem TapeA.base_le {w : World} {base t : Nat} {s : St} (h : TapeA w base t s) : base ≤ t := by
  obtain ⟨v, bs, k, hb, _, _, _, _, h, _⟩ := h; exact h

theorem thash_any (base t : Nat) (s : St) (w : World) (h : TapeA w base t s) :
    Calls Try.prog 19 #[.pointer (some ⟨t, 0, none⟩)] w fun e w' => e = .returned (ab (sArr 32 s).1) ∧ TapeA w' base t (sArr 32 s).2 ∧ Kept [t] w w' := by
  have h2 := Lib.hid h
  have hl := sTake_len 32 s
  clear h
  go_enter Try.func19, Try.ntmps19
  go_wp2_with (first
    | ((with_reducible refine wpl_new (o := ⟨some 2, _, _, _, _, _⟩) rfl rfl zero32 ?_); intro g1 w1 m1)
    | ((with_reducible refine wpl_new (o := ⟨some 3, _, _, _, _, _⟩) rfl rfl zero32 ?_); intro g2 w2 m2)
    | (go_at_call 31; refine (ttake_any base t 32 s _ ((h2.out.kept0 m1.kept).kept0 m2.kept) (by omega)).mono ?_; rintro e w3 ⟨x, rfl, hx, ho, hr, hk⟩; obtain ⟨XA, xc, rfl, hxl, _, hxc⟩ := hx))
  have lt1 := h2.out.lt
  have n1 := m2.ne m1.blk.lt
  have n2 := m1.ne lt1
  have n3 := m2.ne (m1.kept.lt lt1)
  have b1 := (m1.blk.kept m2.kept (by simp)).kept hk (by simp; omega)
  have b2 := m2.blk.kept hk (by simp; omega)
  have hb1 := h2.out.base_le
  have le1 : base ≤ g1 := by have := m1.le; omega
  have le2 : base ≤ g2 := by have := m2.le; have := m1.kept.size; omega
  have H := Lib.hid (And.intro hr (And.intro b1 hk))
  have B := Lib.hid b2
  have M := Lib.hid (And.intro m1 m2)
  have N := Lib.hid (And.intro n1 (And.intro n2 n3))
  clear hr b1 hk m1 m2 n1 n2 n3 b2 lt1 h2
  generalize hq : sTake 32 s = q at *
  obtain ⟨xs, s2⟩ := q
  dsimp only at hxl hxc hl ho
  have hq2 := Lib.hid hq
  clear hq
  go_loopg [9] 1000 (fun g i wk => ∃ k : Nat, k ≤ xs.length ∧ g + k = 1000 ∧ i = .int .i64 k ∧ Blk wk g2 41 (bv (over (noughts 32) 0 (xs.take k))).toArray ∧ Kept [g2] w3 wk)
  case atStart => exact ⟨0, Nat.zero_le _, rfl, rfl, B.out, Kept.refl _ _⟩
  case round =>
    obtain ⟨k, hk, hg, rfl, hb, hkw⟩ := hrel
    by_cases hlt : k < xs.length
    · obtain ⟨xb, xo, rfl, hcell⟩ := hxc (by omega)
      have hcl := hkw.cell (hcell k (byteV xs[k]) (by simp [hlt])) (by have := ho (by omega) xb rfl; simp; omega)
      unfold byteV at hcl
      have hfr := hb.frozen k
      have hcw := hb.cell k
      have hlk : k < (bv (over (noughts 32) 0 (xs.take k))).toArray.size := by simp [over]; omega
      rw [Array.getElem?_eq_getElem hlk] at hcw
      have hst := hb.set_ k (byteV xs[k])
      have e1 : (bv (over (noughts 32) 0 (xs.take k))).toArray.setIfInBounds k (byteV xs[k]) = (bv (over (noughts 32) 0 (xs.take (k + 1)))).toArray := by
        exact over_stepB (noughts 32) xs k hlt (by simp; omega)
      rw [e1] at hst
      unfold byteV at hst
      have hs2 := Lib.hid hst
      have hk2 := Lib.hid (hkw.setCell (p := ⟨g2, k, none⟩) (.inl (by simp)) (Value.int .u8 xs[k].toNat))
      clear hst hkw hb e1
      go_wp2_with fail
      go_roundg (1000 - (k + 1))
      case measure => omega
      case rel => exact ⟨k + 1, by omega, by omega, by go_num, hs2.out, hk2.out⟩
    · obtain rfl : k = xs.length := by omega
      rw [List.take_of_length_le (Nat.le_refl _)] at hb
      have q1 : (sArr 32 s).1 = over (noughts 32) 0 xs := by unfold sArr; rw [hq2.out]
      have q2 : (sArr 32 s).2 = s2 := by unfold sArr; rw [hq2.out]
      rw [← q1] at hb
      have l1 := sArr_len 32 s
      have hk2 := Lib.hid hkw
      clear hkw q1
      go_wp2_with (first
        | (refine wpl_load_arr arr32 rfl (.tmp 3) rfl rfl hb (by simpa using l1) ?_)
        | (refine wpl_store_arr arr32 rfl (.tmp 2) (.tmp 18) rfl rfl rfl (H.out.2.1.kept hk2.out (by have := N.out.1; simpa using this)) rfl (by simpa using l1) (one_ab _) ?_; intro w5 b6 k6))
      obtain ⟨n1, n2, n3⟩ := N.out
      obtain ⟨hr, b1, hk3⟩ := H.out
      have k5 : Kept [g1] _ w5 := k6
      refine ret_arr arr32 rfl rfl b6 (by simpa using l1) rfl ⟨rfl, (hr.kept hk2.out (by simpa using n3) (by simpa using le2)).kept k5 (by simpa using n2) (by simpa using le1), ?_⟩
      have m0 : Kept [t] w w3 := (M.out.1.kept.then0 M.out.2.kept).of0.trans' hk3
      exact (m0.then1 hk2.out (Nat.le_trans M.out.1.kept.size M.out.2.le)).then1 k5 M.out.1.le

theorem tsig_any (base t : Nat) (s : St) (w : World) (h : TapeA w base t s) :
    Calls Try.prog 21 #[.pointer (some ⟨t, 0, none⟩)] w fun e w' => e = .returned (ab (sArr 64 s).1) ∧ TapeA w' base t (sArr 64 s).2 ∧ Kept [t] w w' := by
  have h2 := Lib.hid h
  have hl := sTake_len 64 s
  clear h
  go_enter Try.func21, Try.ntmps21
  go_wp2_with (first
    | ((with_reducible refine wpl_new (o := ⟨some 2, _, _, _, _, _⟩) rfl rfl zero64 ?_); intro g1 w1 m1)
    | ((with_reducible refine wpl_new (o := ⟨some 3, _, _, _, _, _⟩) rfl rfl zero64 ?_); intro g2 w2 m2)
    | (go_at_call 31; refine (ttake_any base t 64 s _ ((h2.out.kept0 m1.kept).kept0 m2.kept) (by omega)).mono ?_; rintro e w3 ⟨x, rfl, hx, ho, hr, hk⟩; obtain ⟨XA, xc, rfl, hxl, _, hxc⟩ := hx))
  have lt1 := h2.out.lt
  have n1 := m2.ne m1.blk.lt
  have n2 := m1.ne lt1
  have n3 := m2.ne (m1.kept.lt lt1)
  have b1 := (m1.blk.kept m2.kept (by simp)).kept hk (by simp; omega)
  have b2 := m2.blk.kept hk (by simp; omega)
  have hb1 := h2.out.base_le
  have le1 : base ≤ g1 := by have := m1.le; omega
  have le2 : base ≤ g2 := by have := m2.le; have := m1.kept.size; omega
  have H := Lib.hid (And.intro hr (And.intro b1 hk))
  have B := Lib.hid b2
  have M := Lib.hid (And.intro m1 m2)
  have N := Lib.hid (And.intro n1 (And.intro n2 n3))
  clear hr b1 hk m1 m2 n1 n2 n3 b2 lt1 h2
  generalize hq : sTake 64 s = q at *
  obtain ⟨xs, s2⟩ := q
  dsimp only at hxl hxc hl ho
  have hq2 := Lib.hid hq
  clear hq
  go_loopg [9] 1000 (fun g i wk => ∃ k : Nat, k ≤ xs.length ∧ g + k = 1000 ∧ i = .int .i64 k ∧ Blk wk g2 43 (bv (over (noughts 64) 0 (xs.take k))).toArray ∧ Kept [g2] w3 wk)
  case atStart => exact ⟨0, Nat.zero_le _, rfl, rfl, B.out, Kept.refl _ _⟩
  case round =>
    obtain ⟨k, hk, hg, rfl, hb, hkw⟩ := hrel
    by_cases hlt : k < xs.length
    · obtain ⟨xb, xo, rfl, hcell⟩ := hxc (by omega)
      have hcl := hkw.cell (hcell k (byteV xs[k]) (by simp [hlt])) (by have := ho (by omega) xb rfl; simp; omega)
      unfold byteV at hcl
      have hfr := hb.frozen k
      have hcw := hb.cell k
      have hlk : k < (bv (over (noughts 64) 0 (xs.take k))).toArray.size := by simp [over]; omega
      rw [Array.getElem?_eq_getElem hlk] at hcw
      have hst := hb.set_ k (byteV xs[k])
      have e1 : (bv (over (noughts 64) 0 (xs.take k))).toArray.setIfInBounds k (byteV xs[k]) = (bv (over (noughts 64) 0 (xs.take (k + 1)))).toArray := by
        exact over_stepB (noughts 64) xs k hlt (by simp; omega)
      rw [e1] at hst
      unfold byteV at hst
      have hs2 := Lib.hid hst
      have hk2 := Lib.hid (hkw.setCell (p := ⟨g2, k, none⟩) (.inl (by simp)) (Value.int .u8 xs[k].toNat))
      clear hst hkw hb e1
      go_wp2_with fail
      go_roundg (1000 - (k + 1))
      case measure => omega
      case rel => exact ⟨k + 1, by omega, by omega, by go_num, hs2.out, hk2.out⟩
    · obtain rfl : k = xs.length := by omega
      rw [List.take_of_length_le (Nat.le_refl _)] at hb
      have q1 : (sArr 64 s).1 = over (noughts 64) 0 xs := by unfold sArr; rw [hq2.out]
      have q2 : (sArr 64 s).2 = s2 := by unfold sArr; rw [hq2.out]
      rw [← q1] at hb
      have l1 := sArr_len 64 s
      have hk2 := Lib.hid hkw
      clear hkw q1
      go_wp2_with (first
        | (refine wpl_load_arr arr64 rfl (.tmp 3) rfl rfl hb (by simpa using l1) ?_)
        | (refine wpl_store_arr arr64 rfl (.tmp 2) (.tmp 18) rfl rfl rfl (H.out.2.1.kept hk2.out (by have := N.out.1; simpa using this)) rfl (by simpa using l1) (one_ab _) ?_; intro w5 b6 k6))
      obtain ⟨n1, n2, n3⟩ := N.out
      obtain ⟨hr, b1, hk3⟩ := H.out
      have k5 : Kept [g1] _ w5 := k6
      refine ret_arr arr64 rfl rfl b6 (by simpa using l1) rfl ⟨rfl, (hr.kept hk2.out (by simpa using n3) (by simpa using le2)).kept k5 (by simpa using n2) (by simpa using le1), ?_⟩
      have m0 : Kept [t] w w3 := (M.out.1.kept.then0 M.out.2.kept).of0.trans' hk3
      exact (m0.then1 hk2.out (Nat.le_trans M.out.1.kept.size M.out.2.le)).then1 k5 M.out.1.le

theorem tupto_any (base t most : Nat) (s : St) (w : World) (h : TapeA w base t s) (hm : most < 9223372036854775808) :
    Calls Try.prog 22 #[.pointer (some ⟨t, 0, none⟩), .int .u64 most] w fun e w' => e = .returned (.int .i64 (sBnd most s).1) ∧ TapeA w' base t (sBnd most s).2 ∧ Kept [t] w w' := by
  have H := tnum_any base t s w h
  unfold sBnd
  have hlt := sNum_lt s
  generalize sNum s = q at *
  obtain ⟨v, s2⟩ := q
  dsimp only at H hlt ⊢
  have H2 := Lib.hid H
  clear h H
  by_cases hgt : most < v
  · go_enter Try.func22, Try.ntmps22
    go_wp2_with (go_at_call 16; refine H2.out.mono ?_; rintro e w1 ⟨rfl, ⟨v1, bs, k, hb, hr, h1, h2, h3, h4, h5⟩, hk⟩; have hf := hb.frozen 2; have c1 := hb.cell 2; simp at c1; have hb2 := Lib.hid (And.intro hb (And.intro hr (And.intro h3 h5))); have hk2 := Lib.hid hk; clear hb hr hk h3 h5)
    go_ret
    obtain ⟨hb, hr, h3, h5⟩ := hb2.out
    have kk : Kept [t] w1 (w1.setCell ⟨t, 2, none⟩ (.int .i64 12)) := (Kept.refl [t] w1).setCell (.inl (by simp)) _
    refine ⟨rfl, ⟨v1, bs, k, by simpa using hb.set_ 2 (.int .i64 12), hr.kept kk (fun hn g hg hm => ?_), h1, h2, h3, h4, h5⟩, hk2.out.trans' kk⟩
    have := h5 hn g hg
    have : g = t := by simpa using hm
    omega
  · go_enter Try.func22, Try.ntmps22
    go_wp2_with (go_at_call 16; refine H2.out.mono ?_; rintro e w1 ⟨rfl, hr, hk⟩; have hr2 := Lib.hid hr; have hk2 := Lib.hid hk; clear hr hk)
    go_ret
    exact ⟨rfl, hr2.out, hk2.out⟩

theorem tnext_any (base t : Nat) (s : St) (w : World) (h : TapeA w base t s) :
    Calls Try.prog 17 #[.pointer (some ⟨t, 0, none⟩)] w fun e w' => ∃ x, e = .returned x ∧ Rd w' 1 x (sBytes s).1.length (bv (sBytes s).1) ∧ TapeA w' base t (sBytes s).2 ∧ Kept [t] w w' := by
  have H := Lib.hid (tupto_any base t 1048576 s w h (by omega))
  have hle := sBnd_le 1048576 s
  clear h
  unfold sBytes
  generalize (sBnd 1048576 s) = p at *
  obtain ⟨n, s2⟩ := p
  dsimp only at H hle ⊢
  go_enter Try.func17, Try.ntmps17
  go_wp2_with (first
    | (go_at_call 22; refine H.out.mono ?_; rintro e w1 ⟨rfl, hr, hk⟩; have hr2 := Lib.hid hr; have hk2 := Lib.hid hk; clear hr hk)
    | (go_at_call 31; refine (ttake_any base t n s2 _ hr2.out (by omega)).mono ?_; rintro e w2 ⟨x, rfl, hx, _, hr, hk⟩; have hx3 := Lib.hid hx; have hr3 := Lib.hid hr; have hk3 := Lib.hid (hk2.out.trans' hk); clear hr hk hx))
  go_ret
  exact ⟨_, rfl, hx3.out, hr3.out, hk3.out⟩

theorem tend_any (base t : Nat) (s : St) (w : World) (h : TapeA w base t s) :
    Calls Try.prog 23 #[.pointer (some ⟨t, 0, none⟩)] w fun e w' => e = .returned (.int .i64 (sDone s)) ∧ Kept [] w w' := by
  obtain ⟨bad, ls⟩ := s
  obtain ⟨v, bs, k, hb, hr, hkl, hbl, hls, _⟩ := h
  dsimp only at hls hb
  have c0 := hb.cell 0
  have c1 := hb.cell 1
  have c2 := hb.cell 2
  simp at c0 c1 c2
  obtain ⟨A, c, rfl, _, _, _⟩ := hr
  have hl : ls.length = bs.length - k := by rw [hls, List.length_drop]
  clear hb hls
  unfold sDone
  dsimp only
  by_cases h0 : bad = 0
  · subst h0
    rw [if_pos rfl]
    by_cases hl2 : k < bs.length
    · rw [if_pos (by omega)]
      clear hl
      go_enter Try.func23, Try.ntmps23
      go_wp2_with fail
      go_quiet (fail)
      go_wp2_with fail
      go_ret
      exact ⟨rfl, (Kept.refl _ w).drewN _⟩
    · rw [if_neg (by omega)]
      clear hl
      go_enter Try.func23, Try.ntmps23
      go_wp2_with fail
      go_quiet (fail)
      go_wp2_with fail
      go_ret
      exact ⟨rfl, (Kept.refl _ w).drewN _⟩
  · rw [if_neg h0]
    clear hl
    go_enter Try.func23, Try.ntmps23
    go_wp2_with fail
    go_quiet (fail)
    go_wp2_with fail
    go_ret
    exact ⟨rfl, (Kept.refl _ w).drewN _⟩

/-! ### The reader that is nil -/

theorem take_nil (n : Int) (w : World) : Calls Try.prog 29 #[.pointer none, .int .i64 n] w fun e w' => e = .returned (.slice none 0 0) ∧ w = w' := by
  go_enter Try.func29, Try.ntmps29
  go_wp2_with fail
  go_ret
  exact ⟨rfl, rfl⟩
theorem number_nil (w : World) : Calls Try.prog 15 #[.pointer none] w fun e w' => e = .returned (.int .u64 0) ∧ w = w' := by
  go_enter Try.func15, Try.ntmps15
  go_wp2_with (go_at_call 29; refine (take_nil 8 _).mono ?_; rintro e w1 ⟨rfl, rfl⟩)
  go_loop [3, 9] (fun v i => i = .int .i64 0 ∧ v = .int .u64 0) (fun _ _ => 0)
  case atStart => exact ⟨rfl, rfl⟩
  case round =>
    obtain ⟨rfl, rfl⟩ := hrel
    go_wp2_with fail
    go_ret
    exact ⟨rfl, rfl⟩
theorem bounded_nil (m : Nat) (w : World) : Calls Try.prog 30 #[.pointer none, .int .u64 m] w fun e w' => e = .returned (.int .i64 0) ∧ w = w' := by
  go_enter Try.func30, Try.ntmps30
  go_wp2_with (go_at_call 15; refine (number_nil _).mono ?_; rintro e w1 ⟨rfl, rfl⟩)
  go_ret
  exact ⟨rfl, rfl⟩
theorem count_nil (w : World) : Calls Try.prog 13 #[.pointer none] w fun e w' => e = .returned (.int .i64 0) ∧ w = w' := by
  go_enter Try.func13, Try.ntmps13
  go_wp2_with (go_at_call 30; refine (bounded_nil 65536 _).mono ?_; rintro e w1 ⟨rfl, rfl⟩)
  go_ret
  exact ⟨rfl, rfl⟩
theorem done_nil (w : World) : Calls Try.prog 14 #[.pointer none] w fun e w' => e = .returned (.int .i64 1) ∧ w = w' := by
  go_enter Try.func14, Try.ntmps14
  go_wp2_with fail
  go_ret
  exact ⟨rfl, rfl⟩
theorem clone_nil (w : World) : Calls Try.prog 28 #[.slice none 0 0] w fun e w' => e = .returned (.slice none 0 0) ∧ w = w' := by
  go_enter Try.func28, Try.ntmps28
  go_wp2
  go_ret
  exact ⟨rfl, rfl⟩
theorem bytes_nil (w : World) : Calls Try.prog 12 #[.pointer none] w fun e w' => e = .returned (.slice none 0 0) ∧ w = w' := by
  go_enter Try.func12, Try.ntmps12
  go_wp2_with (first
    | (go_at_call 30; refine (bounded_nil 1048576 _).mono ?_; rintro e w1 ⟨rfl, rfl⟩)
    | (go_at_call 29; refine (take_nil 0 _).mono ?_; rintro e w1 ⟨rfl, rfl⟩)
    | (go_at_call 28; refine (clone_nil _).mono ?_; rintro e w1 ⟨rfl, rfl⟩))
  go_ret
  exact ⟨rfl, rfl⟩

theorem hash_nil (w : World) : Calls Try.prog 18 #[.pointer none] w fun e w' => e = .returned (ab (noughts 32)) ∧ Kept [] w w' := by
  go_enter Try.func18, Try.ntmps18
  go_wp2_with (first
    | ((with_reducible refine wpl_new (o := ⟨some 2, _, _, _, _, _⟩) rfl rfl zero32 ?_); intro g1 w1 m1)
    | ((with_reducible refine wpl_new (o := ⟨some 3, _, _, _, _, _⟩) rfl rfl zero32 ?_); intro g2 w2 m2))
  refine Txt.wp_text (by kernel_rfl) (by kernel_rfl) ?_
  go_wp2_with fail
  have n1 := m2.ne m1.blk.lt
  have b1 := (m1.blk.kept m2.kept (by simp)).drew
  have b2 := m2.blk.drew
  refine (take_nil 32 _).mono ?_
  rintro e w3 ⟨rfl, rfl⟩
  have H := Lib.hid (And.intro b1 (And.intro m1 (And.intro m2 n1)))
  have B := Lib.hid b2
  clear b1 m1 m2 n1 b2
  go_wp2_with (refine wpl_cpy bytesT rfl (.tmp 4) (.tmp 6) rfl rfl B.out (Nat.le_of_eq rfl) rfl (Rd.nil _ _) (one_bv []) ?_; intro w4 b4 k4)
  refine ⟨rfl, by kernel_rfl, ?_⟩
  have b5 : Blk w4.drew g2 41 (bv (noughts 32)).toArray := b4.drew
  clear b4
  go_wp2_with (first
    | (refine wpl_load_arr arr32 rfl (.tmp 3) rfl rfl b5 rfl ?_)
    | (refine wpl_store_arr arr32 rfl (.tmp 2) (.tmp 8) rfl rfl rfl ((H.out.1.kept k4 (by have := H.out.2.2.2; simpa using this)).drew) rfl rfl (one_ab _) ?_; intro w5 b6 k6))
  have k5 : Kept [g1] _ w5 := k6
  obtain ⟨b1, m1, m2, n1⟩ := H.out
  refine ret_arr arr32 rfl rfl b6 rfl rfl ⟨rfl, ?_⟩
  have m0 : Kept [] w _ := (m1.kept.then0 m2.kept).drew
  exact (m0.then1 k4 (Nat.le_trans m1.kept.size m2.le)).then1 k5 m1.le

theorem sig_nil (w : World) : Calls Try.prog 20 #[.pointer none] w fun e w' => e = .returned (ab (noughts 64)) ∧ Kept [] w w' := by
  go_enter Try.func20, Try.ntmps20
  go_wp2_with (first
    | ((with_reducible refine wpl_new (o := ⟨some 2, _, _, _, _, _⟩) rfl rfl zero64 ?_); intro g1 w1 m1)
    | ((with_reducible refine wpl_new (o := ⟨some 3, _, _, _, _, _⟩) rfl rfl zero64 ?_); intro g2 w2 m2))
  refine Txt.wp_text (by kernel_rfl) (by kernel_rfl) ?_
  go_wp2_with fail
  have n1 := m2.ne m1.blk.lt
  have b1 := (m1.blk.kept m2.kept (by simp)).drew
  have b2 := m2.blk.drew
  refine (take_nil 64 _).mono ?_
  rintro e w3 ⟨rfl, rfl⟩
  have H := Lib.hid (And.intro b1 (And.intro m1 (And.intro m2 n1)))
  have B := Lib.hid b2
  clear b1 m1 m2 n1 b2
  go_wp2_with (refine wpl_cpy bytesT rfl (.tmp 4) (.tmp 6) rfl rfl B.out (Nat.le_of_eq rfl) rfl (Rd.nil _ _) (one_bv []) ?_; intro w4 b4 k4)
  refine ⟨rfl, by kernel_rfl, ?_⟩
  have b5 : Blk w4.drew g2 43 (bv (noughts 64)).toArray := b4.drew
  clear b4
  go_wp2_with (first
    | (refine wpl_load_arr arr64 rfl (.tmp 3) rfl rfl b5 rfl ?_)
    | (refine wpl_store_arr arr64 rfl (.tmp 2) (.tmp 8) rfl rfl rfl ((H.out.1.kept k4 (by have := H.out.2.2.2; simpa using this)).drew) rfl rfl (one_ab _) ?_; intro w5 b6 k6))
  have k5 : Kept [g1] _ w5 := k6
  obtain ⟨b1, m1, m2, n1⟩ := H.out
  refine ret_arr arr64 rfl rfl b6 rfl rfl ⟨rfl, ?_⟩
  have m0 : Kept [] w _ := (m1.kept.then0 m2.kept).drew
  exact (m0.then1 k4 (Nat.le_trans m1.kept.size m2.le)).then1 k5 m1.le

end Go.Proofs.Ytbhjhfemicbhaaa
