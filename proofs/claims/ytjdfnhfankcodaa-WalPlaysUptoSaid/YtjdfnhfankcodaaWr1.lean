/-
  The wire: numbers are read (for programs with fewer functions).
-/
import Derived.Test.YtjdfnhfankcodaaWb0
import Derived.Laws.Bits64b
namespace Go.Proofs.Ytjdfnhfankcodaa
open Go.RowKit Go.Mem

/-- Big-endian. -/
def beV (l : List UInt8) : Nat := l.foldl (fun a b => a * 256 + b.toNat) 0
theorem beV_snoc (l : List UInt8) (b : UInt8) : beV (l ++ [b]) = beV l * 256 + b.toNat := by simp [beV]
theorem beV_lt' : ∀ (l : List UInt8) (a : Nat), l.foldl (fun a b => a * 256 + b.toNat) a < (a + 1) * 256 ^ l.length
  | [], a => by simp
  | b :: l, a => by
    have h := beV_lt' l (a * 256 + b.toNat)
    have hb := b.toNat_lt
    have h2 : (a * 256 + b.toNat + 1) * 256 ^ l.length ≤ ((a + 1) * 256) * 256 ^ l.length := Nat.mul_le_mul_right _ (by omega)
    simp only [List.foldl_cons, List.length_cons, Nat.pow_succ]
    rw [Nat.mul_comm (256 ^ l.length) 256, ← Nat.mul_assoc]
    omega
theorem beV_lt (l : List UInt8) : beV l < 256 ^ l.length := by have := beV_lt' l 0; simpa [beV] using this

theorem or_be (V b : Nat) (hV : V < 72057594037927936) (hb : b < 256) : bits .or .u64 (IntKind.u64.wrap ((V : Int) * 256)) (IntKind.u64.wrap (b : Int)) = ((V * 256 + b : Nat) : Int) := by
  have e1 : IntKind.u64.wrap ((V : Int) * 256) = ((V * 256 : Nat) : Int) := by rw [IntKind.wrap_u64]; omega
  have e2 : IntKind.u64.wrap (b : Int) = (b : Int) := by rw [IntKind.wrap_u64]; omega
  rw [e1, e2, bits_or_u64_nat _ _ (by omega) (by omega)]
  have := Nat.two_pow_add_eq_or_of_lt (i := 8) (b := b) hb V
  have e3 : 256 * V ||| b = 256 * V + b := by simpa using this.symm
  rw [Nat.mul_comm V 256, e3]
theorem beV_step (xs : List UInt8) (k : Nat) (h : k < xs.length) (h8 : xs.length ≤ 8) : bits .or .u64 (IntKind.u64.wrap ((beV (xs.take k) : Int) * 256)) (IntKind.u64.wrap (xs[k].toNat : Int)) = (beV (xs.take (k + 1)) : Int) := by
  have hl := beV_lt (xs.take k)
  have : 256 ^ (xs.take k).length ≤ 256 ^ 7 := Nat.pow_le_pow_right (by omega) (by rw [List.length_take]; omega)
  rw [or_be _ _ (by omega) (by have := xs[k].toNat_lt; omega), List.take_succ_eq_append_getElem h, beV_snoc]

/-- A reader's state: its error, what is left. -/
abbrev St := Int × List UInt8
def sTake (n : Nat) (s : St) : List UInt8 × St :=
  if s.1 = 0 then (if n ≤ s.2.length then (s.2.take n, (0, s.2.drop n)) else ([], (10, s.2))) else ([], s)
def sNum (s : St) : Nat × St := (beV (sTake 8 s).1, (sTake 8 s).2)
def sBnd (most : Nat) (s : St) : Nat × St := if most < (sNum s).1 then (0, (12, (sNum s).2.2)) else sNum s
def sBytes (s : St) : List UInt8 × St := sTake (sBnd 1048576 s).1 (sBnd 1048576 s).2
def sDone (s : St) : Int := if s.1 = 0 then (if 0 < s.2.length then 11 else 0) else s.1

theorem sTake_len (n : Nat) (s : St) : (sTake n s).1.length ≤ n := by unfold sTake; split <;> (try split) <;> simp <;> omega
theorem sNum_lt (s : St) : (sNum s).1 < 18446744073709551616 := by
  have h := beV_lt (sTake 8 s).1
  have h2 := sTake_len 8 s
  have : 256 ^ (sTake 8 s).1.length ≤ 256 ^ 8 := Nat.pow_le_pow_right (by omega) h2
  unfold sNum
  simp only
  omega

/-- The reader at block r. -/
def RdrA (w : World) (r : Nat) (s : St) : Prop := ∃ v, Blk w r 70 #[v, .int .i64 s.1] ∧ Ow w 5 1 v s.2.length (bv s.2)
theorem RdrA.lt {w : World} {r : Nat} {s : St} (h : RdrA w r s) : r < w.heap.size := by obtain ⟨v, h, _⟩ := h; exact h.lt

theorem take_any (r n : Nat) (s : St) (w : World) (h : RdrA w r s) (_ : n ≤ 9223372036854775807) :
    Calls Try.prog 35 #[.pointer (some ⟨r, 0, none⟩), .int .i64 n] w fun e w' => ∃ x, e = .returned x ∧ Rd w' 1 x (sTake n s).1.length (bv (sTake n s).1) ∧ RdrA w' r (sTake n s).2 ∧ Kept [r] w w' := by
  obtain ⟨bad, bs⟩ := s
  obtain ⟨v, hb, ho⟩ := h
  have c0 := hb.cell 0
  have c1 := hb.cell 1
  simp at c0 c1
  have hf := hb.frozen 0
  have hf1 := hb.frozen 1
  have hne := ho.blk_ne hb (by decide)
  dsimp only at ho
  by_cases h0 : bad = 0
  · subst h0
    obtain ⟨A, c, rfl, hc⟩ := ho.shape
    by_cases hl : n ≤ bs.length
    · obtain ⟨X, dx, hX, oX⟩ := ow_to3 bytesT ho .i64 n hl
      obtain ⟨Y, dy, hY, oY⟩ := ow_from bytesT ho .i64 n hl
      have hx := oX.blk_ne hb (by decide)
      have hy := oY.blk_ne hb (by decide)
      have hb2 := Lib.hid hb
      have oX2 := Lib.hid oX
      have oY2 := Lib.hid oY
      clear hb ho oX oY hc
      go_enter Try.func35, Try.ntmps35
      go_wp2_with fail
      go_ret
      have e : sTake n (0, bs) = (bs.take n, (0, bs.drop n)) := by simp [sTake, hl]
      have e1 : (bs.take n).length = n := by rw [List.length_take]; omega
      have e2 : (bs.drop n).length = bs.length - n := by rw [List.length_drop]
      rw [e]
      refine ⟨_, rfl, ?_, ⟨_, by simpa using hb2.out.set_ 0 _, ?_⟩, (Kept.refl _ w).setCell (.inl (by simp)) _⟩
      · have := Rd.of_ow (oX2.out.setCell (p := ⟨r, 0, none⟩) hx (.slice Y (bs.length - n) dy))
        simpa [bv, e1] using this
      · have := oY2.out.setCell (p := ⟨r, 0, none⟩) hy (.slice Y (bs.length - n) dy)
        simpa [bv, e2] using this
    · have hb2 := Lib.hid hb
      have ho2 := Lib.hid ho
      clear hb ho hc
      go_enter Try.func35, Try.ntmps35
      go_wp2_with fail
      go_ret
      have e : sTake n (0, bs) = ([], (10, bs)) := by simp [sTake]; omega
      rw [e]
      exact ⟨_, rfl, Rd.nil _ _, ⟨_, by simpa using hb2.out.set_ 1 _, by simpa using ho2.out.setCell (p := ⟨r, 1, none⟩) hne _⟩, (Kept.refl _ w).setCell (.inl (by simp)) _⟩
  · have hb2 := Lib.hid hb
    have ho2 := Lib.hid ho
    clear hb ho
    go_enter Try.func35, Try.ntmps35
    go_wp2_with fail
    go_ret
    have e : sTake n (bad, bs) = ([], (bad, bs)) := by simp [sTake, h0]
    rw [e]
    exact ⟨_, rfl, Rd.nil _ _, ⟨_, hb2.out, ho2.out⟩, Kept.refl _ _⟩

theorem number_read (r : Nat) (s : St) (w : World) (h : RdrA w r s) :
    Calls Try.prog 24 #[.pointer (some ⟨r, 0, none⟩)] w fun e w' => e = .returned (.int .u64 (sNum s).1) ∧ RdrA w' r (sNum s).2 ∧ Kept [r] w w' := by
  have H := take_any r 8 s w h (by omega)
  have hl8 := sTake_len 8 s
  unfold sNum
  generalize sTake 8 s = q at *
  obtain ⟨xs, s2⟩ := q
  dsimp only at H hl8 ⊢
  have H2 := Lib.hid H
  clear h H
  go_enter Try.func24, Try.ntmps24
  go_wp2_with (go_at_call 35; refine H2.out.mono ?_; rintro e w1 ⟨x, rfl, hx, hr, hk⟩; obtain ⟨XA, xc, rfl, hxl, _, hxc⟩ := hx)
  have hr2 := Lib.hid hr
  have hk2 := Lib.hid hk
  clear hr hk
  go_loop [3, 9] (fun v i => ∃ k : Nat, k ≤ xs.length ∧ i = .int .i64 k ∧ v = .int .u64 (beV (xs.take k))) (fun _ i => xs.length - (intOf i).toNat)
  case atStart => exact ⟨0, Nat.zero_le _, rfl, rfl⟩
  case round =>
    obtain ⟨k, hk, rfl, rfl⟩ := hrel
    by_cases hlt : k < xs.length
    · obtain ⟨b, o, rfl, hcell⟩ := hxc (by omega)
      have hcl := hcell k (byteV xs[k]) (by simp [hlt])
      unfold byteV at hcl
      have hst := beV_step xs k hlt hl8
      have hst2 := Lib.hid hst
      clear hcell hst
      go_wp2_with fail
      exact ⟨⟨k + 1, by omega, by go_num, by rw [hst2.out]⟩, by simp [intOf]; omega⟩
    · obtain rfl : k = xs.length := by omega
      go_wp2_with fail
      go_ret
      exact ⟨rfl, hr2.out, hk2.out⟩

theorem new_any (b : Value) (bs : List UInt8) (w : World) (hr : Rd w 1 b bs.length (bv bs)) (hb : bs.length ≤ 140737488355328) :
    Calls Try.prog 23 #[b] w fun e w' => ∃ r, e = .returned (.pointer (some ⟨r, 0, none⟩)) ∧ RdrA w' r (0, bs) ∧ Kept [] w w' ∧ w.heap.size ≤ r := by
  have H := Lib.hid hr
  clear hr
  go_enter Try.func23, Try.ntmps23
  go_wp2_with (go_at_call 34; refine (clone_any _ bs w H.out hb).mono ?_; rintro e w1 ⟨ov, rfl, hn⟩; obtain ⟨OA, oc, rfl, _⟩ := hn.ow.shape; have hn2 := Lib.hid hn; clear hn)
  go_ret
  exact ⟨_, rfl, ⟨_, Blk.new _ _ _, hn2.out.ow.alloc _⟩, hn2.out.kept.alloc _, hn2.out.kept.size⟩

end Go.Proofs.Ytjdfnhfankcodaa
