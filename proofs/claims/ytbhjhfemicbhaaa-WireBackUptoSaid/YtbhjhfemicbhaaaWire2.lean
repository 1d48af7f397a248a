/-
  The wire: bytes are read.
-/
import Derived.Test.YtbhjhfemicbhaaaWire1
import Derived.Laws.Bits64b
namespace Go.Proofs.Ytbhjhfemicbhaaa
open Go.RowKit Go.Mem

/-- Big-endian. -/
def beV (l : List UInt8) : Nat := l.foldl (fun a b => a * 256 + b.toNat) 0
theorem beV_snoc (l : List UInt8) (b : UInt8) : beV (l ++ [b]) = beV l * 256 + b.toNat := by simp [beV]
theorem beV_lt' : ∀ (l : List UInt8) (a : Nat), l.foldl (fun a b => a * 256 + b.toNat) a < (a + 1) * 256 ^ l.length
  | [], a => by simp
  | b :: l, a => by
    have h := beV_lt' l (a * 256 + b.toNat)
    have hb := b.toNat_lt
    have h2 : (a * 256 + b.toNat + 1) * 256 ^ l.length ≤ ((a + 1) * 256) * 256 ^ l.length := Nat.mul_le_mul_right _ (by omega)
    simp only [List.foldl_cons, List.length_cons, Nat.pow_succ]
    rw [Nat.mul_comm (256 ^ l.length) 256, ← Nat.mul_assoc]
    omega
theorem beV_lt (l : List UInt8) : beV l < 256 ^ l.length := by have := beV_lt' l 0; simpa [beV] using this

theorem or_be (V b : Nat) (hV : V < 72057594037927936) (hb : b < 256) : bits .or .u64 (IntKind.u64.wrap ((V : Int) * 256)) (IntKind.u64.wrap (b : Int)) = ((V * 256 + b : Nat) : Int) := by
  have e1 : IntKind.u64.wrap ((V : Int) * 256) = ((V * 256 : Nat) : Int) := by rw [IntKind.wrap_u64]; omega
  have e2 : IntKind.u64.wrap (b : Int) = (b : Int) := by rw [IntKind.wrap_u64]; omega
  rw [e1, e2, bits_or_u64_nat _ _ (by omega) (by omega)]
  have := Nat.two_pow_add_eq_or_of_lt (i := 8) (b := b) hb V
  have e3 : 256 * V ||| b = 256 * V + b := by simpa using this.symm
  rw [Nat.mul_comm V 256, e3]
theorem beV_step (xs : List UInt8) (k : Nat) (h : k < xs.length) (h8 : xs.length ≤ 8) : bits .or .u64 (IntKind.u64.wrap ((beV (xs.take k) : Int) * 256)) (IntKind.u64.wrap (xs[k].toNat : Int)) = (beV (xs.take (k + 1)) : Int) := by
  have hl := beV_lt (xs.take k)
  have : 256 ^ (xs.take k).length ≤ 256 ^ 7 := Nat.pow_le_pow_right (by omega) (by rw [List.length_take]; omega)
  rw [or_be _ _ (by omega) (by have := xs[k].toNat_lt; omega), List.take_succ_eq_append_getElem h, beV_snoc]

/-- A reader's state: its error, what is left. -/
abbrev St := Int × List UInt8
def sTake (n : Nat) (s : St) : List UInt8 × St :=
  if s.1 = 0 then (if n ≤ s.2.length then (s.2.take n, (0, s.2.drop n)) else ([], (10, s.2))) else ([], s)
def sNum (s : St) : Nat × St := (beV (sTake 8 s).1, (sTake 8 s).2)
def sBnd (most : Nat) (s : St) : Nat × St := if most < (sNum s).1 then (0, (12, (sNum s).2.2)) else sNum s
def sBytes (s : St) : List UInt8 × St := sTake (sBnd 1048576 s).1 (sBnd 1048576 s).2
def sDone (s : St) : Int := if s.1 = 0 then (if 0 < s.2.length then 11 else 0) else s.1

theorem sTake_len (n : Nat) (s : St) : (sTake n s).1.length ≤ n := by unfold sTake; split <;> (try split) <;> simp <;> omega
theorem sNum_lt (s : St) : (sNum s).1 < 18446744073709551616 := by
  have h := beV_lt (sTake 8 s).1
  have h2 := sTake_len 8 s
  have : 256 ^ (sTake 8 s).1.length ≤ 256 ^ 8 := Nat.pow_le_pow_right (by omega) h2
  unfold sNum
  simp only
  omega

/-- The reader at block r. -/
def RdrA (w : World) (r : Nat) (s : St) : Prop := ∃ v, Blk w r 58 #[v, .int .i64 s.1] ∧ Ow w 5 1 v s.2.length (bv s.2)
theorem RdrA.lt {w : World} {r : Nat} {s : St} (h : RdrA w r s) : r < w.heap.size := by obtain ⟨v, h, _⟩ := h; exact h.lt

theorem take_any (r n : Nat) (s : St) (w : World) (h : RdrA w r s) (_ : n ≤ 9223372036854775807) :
    Calls Try.prog 29 #[.pointer (some ⟨r, 0, none⟩), .int .i64 n] w fun e w' => ∃ x, e = .returned x ∧ Rd w' 1 x (sTake n s).1.length (bv (sTake n s).1) ∧ RdrA w' r (sTake n s).2 ∧ Kept [r] w w' := by
  obtain ⟨bad, bs⟩ := s
  obtain ⟨v, hb, ho⟩ := h
  have c0 := hb.cell 0
  have c1 := hb.cell 1
  simp at c0 c1
  have hf := hb.frozen 0
  have hf1 := hb.frozen 1
  have hne := ho.blk_ne hb (by decide)
  dsimp only at ho
  by_cases h0 : bad = 0
  · subst h0
    obtain ⟨A, c, rfl, hc⟩ := ho.shape
    by_cases hl : n ≤ bs.length
    · obtain ⟨X, dx, hX, oX⟩ := ow_to3 bytesT ho .i64 n hl
      obtain ⟨Y, dy, hY, oY⟩ := ow_from bytesT ho .i64 n hl
      have hx := oX.blk_ne hb (by decide)
      have hy := oY.blk_ne hb (by decide)
      have hb2 := Lib.hid hb
      have oX2 := Lib.hid oX
      have oY2 := Lib.hid oY
      clear hb ho oX oY hc
      go_enter Try.func29, Try.ntmps29
      go_wp2_with fail
      go_ret
      have e : sTake n (0, bs) = (bs.take n, (0, bs.drop n)) := by simp [sTake, hl]
      have e1 : (bs.take n).length = n := by rw [List.length_take]; omega
      have e2 : (bs.drop n).length = bs.length - n := by rw [List.length_drop]
      rw [e]
      refine ⟨_, rfl, ?_, ⟨_, by simpa using hb2.out.set_ 0 _, ?_⟩, (Kept.refl _ w).setCell (.inl (by simp)) _⟩
      · have := Rd.of_ow (oX2.out.setCell (p := ⟨r, 0, none⟩) hx (.slice Y (bs.length - n) dy))
        simpa [bv, e1] using this
      · have := oY2.out.setCell (p := ⟨r, 0, none⟩) hy (.slice Y (bs.length - n) dy)
        simpa [bv, e2] using this
    · have hb2 := Lib.hid hb
      have ho2 := Lib.hid ho
      clear hb ho hc
      go_enter Try.func29, Try.ntmps29
      go_wp2_with fail
      go_ret
      have e : sTake n (0, bs) = ([], (10, bs)) := by simp [sTake]; omega
      rw [e]
      exact ⟨_, rfl, Rd.nil _ _, ⟨_, by simpa using hb2.out.set_ 1 _, by simpa using ho2.out.setCell (p := ⟨r, 1, none⟩) hne _⟩, (Kept.refl _ w).setCell (.inl (by simp)) _⟩
  · have hb2 := Lib.hid hb
    have ho2 := Lib.hid ho
    clear hb ho
    go_enter Try.func29, Try.ntmps29
    go_wp2_with fail
    go_ret
    have e : sTake n (bad, bs) = ([], (bad, bs)) := by simp [sTake, h0]
    rw [e]
    exact ⟨_, rfl, Rd.nil _ _, ⟨_, hb2.out, ho2.out⟩, Kept.refl _ _⟩

theorem number_read (r : Nat) (s : St) (w : World) (h : RdrA w r s) :
    Calls Try.prog 15 #[.pointer (some ⟨r, 0, none⟩)] w fun e w' => e = .returned (.int .u64 (sNum s).1) ∧ RdrA w' r (sNum s).2 ∧ Kept [r] w w' := by
  have H := take_any r 8 s w h (by omega)
  have hl8 := sTake_len 8 s
  unfold sNum
  generalize sTake 8 s = q at *
  obtain ⟨xs, s2⟩ := q
  dsimp only at H hl8 ⊢
  have H2 := Lib.hid H
  clear h H
  go_enter Try.func15, Try.ntmps15
  go_wp2_with (go_at_call 29; refine H2.out.mono ?_; rintro e w1 ⟨x, rfl, hx, hr, hk⟩; obtain ⟨XA, xc, rfl, hxl, _, hxc⟩ := hx)
  have hr2 := Lib.hid hr
  have hk2 := Lib.hid hk
  clear hr hk
  go_loop [3, 9] (fun v i => ∃ k : Nat, k ≤ xs.length ∧ i = .int .i64 k ∧ v = .int .u64 (beV (xs.take k))) (fun _ i => xs.length - (intOf i).toNat)
  case atStart => exact ⟨0, Nat.zero_le _, rfl, rfl⟩
  case round =>
    obtain ⟨k, hk, rfl, rfl⟩ := hrel
    by_cases hlt : k < xs.length
    · obtain ⟨b, o, rfl, hcell⟩ := hxc (by omega)
      have hcl := hcell k (byteV xs[k]) (by simp [hlt])
      unfold byteV at hcl
      have hst := beV_step xs k hlt hl8
      have hst2 := Lib.hid hst
      clear hcell hst
      go_wp2_with fail
      exact ⟨⟨k + 1, by omega, by go_num, by rw [hst2.out]⟩, by simp [intOf]; omega⟩
    · obtain rfl : k = xs.length := by omega
      go_wp2_with fail
      go_ret
      exact ⟨rfl, hr2.out, hk2.out⟩

theorem bounded_any (r most : Nat) (s : St) (w : World) (h : RdrA w r s) (hm : most < 9223372036854775808) :
    Calls Try.prog 30 #[.pointer (some ⟨r, 0, none⟩), .int .u64 most] w fun e w' => e = .returned (.int .i64 (sBnd most s).1) ∧ RdrA w' r (sBnd most s).2 ∧ Kept [r] w w' := by
  have H := number_read r s w h
  unfold sBnd
  have hlt := sNum_lt s
  generalize sNum s = q at *
  obtain ⟨v, s2⟩ := q
  dsimp only at H hlt ⊢
  have H2 := Lib.hid H
  clear h H
  by_cases hgt : most < v
  · go_enter Try.func30, Try.ntmps30
    go_wp2_with (go_at_call 15; refine H2.out.mono ?_; rintro e w1 ⟨rfl, ⟨bv1, hb, ho⟩, hk⟩; have hf := hb.frozen 1; have c1 := hb.cell 1; simp at c1; have hne := ho.blk_ne hb (by decide); have hb2 := Lib.hid hb; have ho2 := Lib.hid ho; have hk2 := Lib.hid hk; clear hb ho hk)
    go_ret
    exact ⟨rfl, ⟨_, by simpa using hb2.out.set_ 1 _, by simpa using ho2.out.setCell (p := ⟨r, 1, none⟩) hne _⟩, hk2.out.setCell (.inl (by simp)) _⟩
  · go_enter Try.func30, Try.ntmps30
    go_wp2_with (go_at_call 15; refine H2.out.mono ?_; rintro e w1 ⟨rfl, hr, hk⟩; have hr2 := Lib.hid hr; have hk2 := Lib.hid hk; clear hr hk)
    go_ret
    exact ⟨rfl, hr2.out, hk2.out⟩

theorem count_any (r : Nat) (s : St) (w : World) (h : RdrA w r s) :
    Calls Try.prog 13 #[.pointer (some ⟨r, 0, none⟩)] w fun e w' => e = .returned (.int .i64 (sBnd 65536 s).1) ∧ RdrA w' r (sBnd 65536 s).2 ∧ Kept [r] w w' := by
  have H := Lib.hid (bounded_any r 65536 s w h (by omega))
  clear h
  go_enter Try.func13, Try.ntmps13
  go_wp2_with (go_at_call 30; refine H.out.mono ?_; rintro e w1 ⟨rfl, hr, hk⟩; have hr2 := Lib.hid hr; have hk2 := Lib.hid hk; clear hr hk)
  go_ret
  exact ⟨rfl, hr2.out, hk2.out⟩

theorem sBnd_le (most : Nat) (s : St) : (sBnd most s).1 ≤ most := by
  unfold sBnd
  split
  · exact Nat.zero_le _
  · omega

theorem bytes_read (r : Nat) (s : St) (w : World) (h : RdrA w r s) :
    Calls Try.prog 12 #[.pointer (some ⟨r, 0, none⟩)] w fun e w' => ∃ x, e = .returned x ∧ Ow w' 5 1 x (sBytes s).1.length (bv (sBytes s).1) ∧ Near none w.heap.size x ∧ RdrA w' r (sBytes s).2 ∧ Kept [r] w w' := by
  have H := Lib.hid (bounded_any r 1048576 s w h (by omega))
  have hle := sBnd_le 1048576 s
  unfold sBytes
  have H2 : ∀ w1, RdrA w1 r (sBnd 1048576 s).2 → Calls Try.prog 29 #[.pointer (some ⟨r, 0, none⟩), .int .i64 (sBnd 1048576 s).1] w1 fun e w' => ∃ x, e = .returned x ∧ Rd w' 1 x (sTake (sBnd 1048576 s).1 (sBnd 1048576 s).2).1.length (bv (sTake (sBnd 1048576 s).1 (sBnd 1048576 s).2).1) ∧ RdrA w' r (sTake (sBnd 1048576 s).1 (sBnd 1048576 s).2).2 ∧ Kept [r] w1 w' :=
    fun w1 hr => take_any r _ _ w1 hr (by omega)
  have hl := sTake_len (sBnd 1048576 s).1 (sBnd 1048576 s).2
  generalize (sTake (sBnd 1048576 s).1 (sBnd 1048576 s).2) = q at *
  generalize (sBnd 1048576 s) = p at *
  obtain ⟨xs, s3⟩ := q
  obtain ⟨n, s2⟩ := p
  dsimp only at H H2 hle hl ⊢
  have hs := h.lt
  have H3 := Lib.hid H2
  clear h H2
  go_enter Try.func12, Try.ntmps12
  go_wp2_with (first
    | (go_at_call 30; refine H.out.mono ?_; rintro e w1 ⟨rfl, hr, hk⟩; have hr2 := Lib.hid hr; have hk2 := Lib.hid hk; clear hr hk)
    | (go_at_call 29; refine (H3.out _ hr2.out).mono ?_; rintro e w2 ⟨x, rfl, hx, hr, hk⟩; have hx3 := Lib.hid hx; have hr3 := Lib.hid hr; have hk3 := Lib.hid (hk2.out.trans' hk); clear hr hk hx)
    | (go_at_call 28; refine (clone_any _ xs _ hx3.out (by omega)).mono ?_; rintro e w3 ⟨x3, rfl, hn⟩; have hn3 := Lib.hid hn; clear hn))
  go_ret
  refine ⟨_, rfl, hn3.out.ow, ?_, ?_, hk3.out.then0 hn3.out.kept⟩
  · rcases hn3.out.near with h | ⟨g, h, hg⟩
    · exact .inl h
    · exact .inr ⟨g, h, by have := hk3.out.size; omega⟩
  · obtain ⟨v, hb, ho⟩ := hr3.out
    exact ⟨v, hb.kept hn3.out.kept (by simp), ho.kept0 hn3.out.kept⟩

theorem done_any (r : Nat) (s : St) (w : World) (h : RdrA w r s) :
    Calls Try.prog 14 #[.pointer (some ⟨r, 0, none⟩)] w fun e w' => e = .returned (.int .i64 (sDone s)) ∧ w = w' := by
  obtain ⟨bad, bs⟩ := s
  obtain ⟨v, hb, ho⟩ := h
  have c0 := hb.cell 0
  have c1 := hb.cell 1
  simp at c0 c1
  obtain ⟨A, c, rfl, hc⟩ := ho.shape
  dsimp only at c0 ⊢
  clear ho hb
  unfold sDone
  dsimp only
  by_cases h0 : bad = 0
  · subst h0
    rw [if_pos rfl]
    by_cases hl : 0 < bs.length
    · rw [if_pos hl]
      go_enter Try.func14, Try.ntmps14
      go_wp2_with fail
      go_ret
      exact ⟨rfl, rfl⟩
    · rw [if_neg hl]
      go_enter Try.func14, Try.ntmps14
      go_wp2_with fail
      go_ret
      exact ⟨rfl, rfl⟩
  · rw [if_neg h0]
    go_enter Try.func14, Try.ntmps14
    go_wp2_with fail
    go_ret
    exact ⟨rfl, rfl⟩

theorem new_any (b : Value) (bs : List UInt8) (w : World) (hr : Rd w 1 b bs.length (bv bs)) (hb : bs.length ≤ 140737488355328) :
    Calls Try.prog 11 #[b] w fun e w' => ∃ r, e = .returned (.pointer (some ⟨r, 0, none⟩)) ∧ RdrA w' r (0, bs) ∧ Kept [] w w' ∧ w.heap.size ≤ r := by
  have H := Lib.hid hr
  clear hr
  go_enter Try.func11, Try.ntmps11
  go_wp2_with (go_at_call 28; refine (clone_any _ bs w H.out hb).mono ?_; rintro e w1 ⟨ov, rfl, hn⟩; obtain ⟨OA, oc, rfl, _⟩ := hn.ow.shape; have hn2 := Lib.hid hn; clear hn)
  go_ret
  exact ⟨_, rfl, ⟨_, Blk.new _ _ _, hn2.out.ow.alloc _⟩, hn2.out.kept.alloc _, hn2.out.kept.size⟩

end Go.Proofs.Ytbhjhfemicbhaaa
