/-
  The log: the document's tape, its bytes in sight.
-/
import Derived.Test.YtjdfnhfankcodaaWr1
namespace Go.Proofs.Ytjdfnhfankcodaa
open Go.RowKit Go.Mem

/-- The tape at block t; its bytes lie below base. -/
def TapeA (w : World) (base t : Nat) (v : Value) (bs : List UInt8) (s : St) : Prop :=
  ∃ k : Nat, Blk w t 62 #[v, .int .i64 k, .int .i64 s.1] ∧ Rd w 1 v bs.length (bv bs) ∧ k ≤ bs.length ∧ bs.length ≤ 9223372036854775807 ∧ s.2 = bs.drop k ∧ base ≤ t ∧ (0 < bs.length → ∀ g, v.ownBlock = some g → g < base)

theorem TapeA.kept {S : List Nat} {w w' : World} {base t : Nat} {v : Value} {bs : List UInt8} {s : St} (h : TapeA w base t v bs s) (hk : Kept S w w') (ht : t ∉ S) (hS : ∀ k ∈ S, base ≤ k) : TapeA w' base t v bs s := by
  obtain ⟨k, hb, hr, h1, h2, h3, h4, h5⟩ := h
  refine ⟨k, hb.kept hk ht, hr.kept hk (fun hn g hg hm => ?_), h1, h2, h3, h4, h5⟩
  have := h5 hn g hg
  have := hS g hm
  omega
theorem TapeA.kept0 {w w' : World} {base t : Nat} {v : Value} {bs : List UInt8} {s : St} (h : TapeA w base t v bs s) (hk : Kept [] w w') : TapeA w' base t v bs s := h.kept hk (by simp) (by simp)

theorem ttake_any (base t n : Nat) (v : Value) (bs : List UInt8) (s : St) (w : World) (h : TapeA w base t v bs s) (hn : n ≤ 4611686018427387904) :
    Calls Try.prog 30 #[.pointer (some ⟨t, 0, none⟩), .int .i64 n] w fun e w' => ∃ x, e = .returned x ∧ Rd w' 1 x (sTake n s).1.length (bv (sTake n s).1) ∧ (0 < (sTake n s).1.length → ∀ g, x.ownBlock = some g → g < base) ∧ TapeA w' base t v bs (sTake n s).2 ∧ Kept [t] w w' := by
  obtain ⟨bad, ls⟩ := s
  obtain ⟨k, hb, hr, hkl, hbl, hls, hbt, hold⟩ := h
  dsimp only at hls hb
  subst hls
  have c0 := hb.cell 0
  have c1 := hb.cell 1
  have c2 := hb.cell 2
  simp at c0 c1 c2
  have hf1 := hb.frozen 1
  have hf2 := hb.frozen 2
  have hb2 := Lib.hid hb
  have hr2 := Lib.hid hr
  have hold2 := Lib.hid hold
  by_cases h0 : bad = 0
  · subst h0
    by_cases hl : n ≤ (bs.drop k).length
    · rw [List.length_drop] at hl
      obtain ⟨X, dx, hX, rX, oX, _⟩ := cut_part bytesT hr .i64 .i64 k (k + n) (by omega) (by omega)
      obtain ⟨A, c, rfl, _, _, _⟩ := hr
      have hX2 : ∀ W, (Instr.sliceAt 22 (.slice A bs.length c) (some (.int .i64 k)) (some (.int .i64 ((k : Int) + n))) none).run Try.prog W = .ok (.slice X n dx) W := fun W => by
        have := hX W
        rw [Nat.add_sub_cancel_left] at this
        simpa using this
      have rX2 := Lib.hid rX
      have oX2 := Lib.hid oX
      clear hb hold rX hX oX
      go_enter Try.func30, Try.ntmps30
      go_wp2_with fail
      refine Txt.wp_text (by kernel_rfl) (by kernel_rfl) ?_
      go_wp2_with fail
      refine ⟨rfl, by kernel_rfl, ?_⟩
      go_wp2_with fail
      refine Txt.wp_text (by kernel_rfl) (by kernel_rfl) ?_
      go_wp2_with fail
      refine ⟨rfl, by kernel_rfl, ?_⟩
      go_wp2_with fail
      go_ret
      have e : sTake n (0, bs.drop k) = ((bs.drop k).take n, (0, bs.drop (k + n))) := by simp [sTake]; omega
      have e1 : ((bs.drop k).take n).length = n := by rw [List.length_take, List.length_drop]; omega
      rw [e]
      have hb3 := hb2.out.set_ 1 (.int .i64 ((k + n : Nat) : Int))
      simp at hb3
      have hkk : Kept [t] w (w.setCell ⟨t, 1, none⟩ (.int .i64 ((k : Int) + n))) := (Kept.refl [t] w).setCell (.inl (List.mem_singleton.2 rfl)) _
      have hfar : ∀ g, (Value.slice A bs.length c).ownBlock = some g → 0 < bs.length → g ∉ [t] := fun g hg hn hm => by
        have := hold2.out hn g hg
        have : g = t := by simpa using hm
        omega
      refine ⟨.slice X n dx, rfl, ?_, fun hn g hg => hold2.out (by rw [e1] at hn; omega) g (by rw [← oX2.out (by rw [e1] at hn; omega)]; simpa [Value.ownBlock] using hg), ⟨k + n, ?_, ?_, by omega, hbl, rfl, hbt, hold2.out⟩, ?_⟩
      · rw [e1]
        have := rX2.out.kept hkk (fun hn g hg => hfar g (by rw [← oX2.out hn]; exact hg) (by omega))
        rw [Nat.add_sub_cancel_left] at this
        simpa [bv] using this.drew.drew
      · exact hb3.drew.drew
      · exact (hr2.out.kept hkk (fun hn g hg => hfar g hg hn)).drew.drew
      · exact hkk.drew.drew
    · rw [List.length_drop] at hl
      obtain ⟨A, c, rfl, _, _, _⟩ := hr
      clear hb hold
      go_enter Try.func30, Try.ntmps30
      go_wp2_with fail
      refine Txt.wp_text (by kernel_rfl) (by kernel_rfl) ?_
      go_wp2_with fail
      refine ⟨rfl, by kernel_rfl, ?_⟩
      go_wp2_with fail
      go_ret
      have e : sTake n (0, bs.drop k) = ([], (10, bs.drop k)) := by simp [sTake]; omega
      rw [e]
      have hb3 := hb2.out.set_ 2 (.int .i64 10)
      simp at hb3
      have hkk : Kept [t] w (w.setCell ⟨t, 2, none⟩ (.int .i64 10)) := (Kept.refl [t] w).setCell (.inl (List.mem_singleton.2 rfl)) _
      refine ⟨_, rfl, Rd.nil _ _, fun h => absurd h (by simp), ⟨k, hb3.drew, Rd.drew (hr2.out.kept hkk (fun hn g hg hm => ?_)), hkl, hbl, rfl, hbt, hold2.out⟩, hkk.drew⟩
      have := hold2.out hn g hg
      have : g = t := by simpa using hm
      omega
  · obtain ⟨A, c, rfl, _, _, _⟩ := hr
    clear hb hold
    go_enter Try.func30, Try.ntmps30
    go_wp2_with fail
    go_ret
    have e : sTake n (bad, bs.drop k) = ([], (bad, bs.drop k)) := by simp [sTake, h0]
    rw [e]
    exact ⟨_, rfl, Rd.nil _ _, fun h => absurd h (by simp), ⟨k, hb2.out, hr2.out, hkl, hbl, rfl, hbt, hold2.out⟩, Kept.refl _ _⟩

theorem mul_be (V b : Nat) (hV : V < 72057594037927936) (hb : b < 256) : IntKind.u64.wrap (IntKind.u64.wrap (256 * (V : Int)) + IntKind.u64.wrap (b : Int)) = ((V * 256 + b : Nat) : Int) := by
  rw [IntKind.wrap_u64, IntKind.wrap_u64, IntKind.wrap_u64]
  omega
theorem beV_step2 (xs : List UInt8) (k : Nat) (h : k < xs.length) (h8 : xs.length ≤ 8) : IntKind.u64.wrap (IntKind.u64.wrap (256 * (beV (xs.take k) : Int)) + IntKind.u64.wrap (xs[k].toNat : Int)) = (beV (xs.take (k + 1)) : Int) := by
  have hl := beV_lt (xs.take k)
  have : 256 ^ (xs.take k).length ≤ 256 ^ 7 := Nat.pow_le_pow_right (by omega) (by rw [List.length_take]; omega)
  rw [mul_be _ _ (by omega) (by have := xs[k].toNat_lt; omega), List.take_succ_eq_append_getElem h, beV_snoc]

theorem tnum_any (base t : Nat) (v : Value) (bs : List UInt8) (s : St) (w : World) (h : TapeA w base t v bs s) :
    Calls Try.prog 37 #[.pointer (some ⟨t, 0, none⟩)] w fun e w' => e = .returned (.int .u64 (sNum s).1) ∧ TapeA w' base t v bs (sNum s).2 ∧ Kept [t] w w' := by
  have H := ttake_any base t 8 v bs s w h (by omega)
  have hl8 := sTake_len 8 s
  unfold sNum
  generalize sTake 8 s = q at *
  obtain ⟨xs, s2⟩ := q
  dsimp only at H hl8 ⊢
  have H2 := Lib.hid H
  clear h H
  go_enter Try.func37, Try.ntmps37
  go_wp2_with (go_at_call 30; refine H2.out.mono ?_; rintro e w1 ⟨x, rfl, hx, _, hr, hk⟩; obtain ⟨XA, xc, rfl, hxl, _, hxc⟩ := hx)
  have hr2 := Lib.hid hr
  have hk2 := Lib.hid hk
  clear hr hk
  go_loop [3, 9] (fun v i => ∃ k : Nat, k ≤ xs.length ∧ i = .int .i64 k ∧ v = .int .u64 (beV (xs.take k))) (fun _ i => xs.length - (intOf i).toNat)
  case atStart => exact ⟨0, Nat.zero_le _, rfl, rfl⟩
  case round =>
    obtain ⟨k, hk, rfl, rfl⟩ := hrel
    by_cases hlt : k < xs.length
    · obtain ⟨b, o, rfl, hcell⟩ := hxc (by omega)
      have hcl := hcell k (byteV xs[k]) (by simp [hlt])
      unfold byteV at hcl
      have hst := beV_step2 xs k hlt hl8
      have hst2 := Lib.hid hst
      clear hcell hst
      go_wp2_with fail
      exact ⟨⟨k + 1, by omega, by go_num, by rw [hst2.out]⟩, by simp [intOf]; omega⟩
    · obtain rfl : k = xs.length := by omega
      go_wp2_with fail
      go_ret
      exact ⟨rfl, hr2.out, hk2.out⟩

theorem tupto_any (base t most : Nat) (v : Value) (bs : List UInt8) (s : St) (w : World) (h : TapeA w base t v bs s) (hm : most < 9223372036854775808) :
    Calls Try.prog 29 #[.pointer (some ⟨t, 0, none⟩), .int .u64 most] w fun e w' => e = .returned (.int .i64 (sBnd most s).1) ∧ TapeA w' base t v bs (sBnd most s).2 ∧ Kept [t] w w' := by
  have H := tnum_any base t v bs s w h
  unfold sBnd
  have hlt := sNum_lt s
  generalize sNum s = q at *
  obtain ⟨vq, s2⟩ := q
  dsimp only at H hlt ⊢
  have H2 := Lib.hid H
  clear h H
  by_cases hgt : most < vq
  · go_enter Try.func29, Try.ntmps29
    go_wp2_with (go_at_call 37; refine H2.out.mono ?_; rintro e w1 ⟨rfl, ⟨k, hb, hr, h1, h2, h3, h4, h5⟩, hk⟩; have hf := hb.frozen 2; have c1 := hb.cell 2; simp at c1; have hb2 := Lib.hid (And.intro hb (And.intro hr (And.intro h3 h5))); have hk2 := Lib.hid hk; clear hb hr hk h3 h5)
    go_ret
    obtain ⟨hb, hr, h3, h5⟩ := hb2.out
    have kk : Kept [t] w1 (w1.setCell ⟨t, 2, none⟩ (.int .i64 12)) := (Kept.refl [t] w1).setCell (.inl (by simp)) _
    refine ⟨rfl, ⟨k, by simpa using hb.set_ 2 (.int .i64 12), hr.kept kk (fun hn g hg hm => ?_), h1, h2, h3, h4, h5⟩, hk2.out.trans' kk⟩
    have := h5 hn g hg
    have : g = t := by simpa using hm
    omega
  · go_enter Try.func29, Try.ntmps29
    go_wp2_with (go_at_call 37; refine H2.out.mono ?_; rintro e w1 ⟨rfl, hr, hk⟩; have hr2 := Lib.hid hr; have hk2 := Lib.hid hk; clear hr hk)
    go_ret
    exact ⟨rfl, hr2.out, hk2.out⟩

end Go.Proofs.Ytjdfnhfankcodaa
