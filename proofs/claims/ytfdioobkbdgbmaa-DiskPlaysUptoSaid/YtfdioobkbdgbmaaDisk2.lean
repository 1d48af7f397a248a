/-
  The disk's methods, the others.
-/
import Derived.Test.YtfdioobkbdgbmaaDisk1
namespace Go.Proofs.Ytfdioobkbdgbmaa
open Go.RowKit Go.Mem

@[go_sem] theorem eqnil22 (A : Option Addr) (n c n' c' : Nat) (w : World) : (binOp .eql 22 (.slice A n c) (.slice none n' c')).run Try.prog w = .ok (.bool A.isNone) w := run_eqnil Try.underlying22 A n c n' c' w

set_option maxHeartbeats 400000 in
theorem sync_nil (w : World) : Calls Try.prog 9 #[.pointer none] w fun e w' => e = .returned (.tuple #[]) ∧ w = w' := by
  go_enter Try.func9, Try.ntmps9
  go_wp2
  go_end0
  exact ⟨rfl, rfl⟩

set_option maxHeartbeats 400000 in
theorem sync_any (b size safe : Nat) (v : Value) (xs : List UInt8) (w : World) (hd : DiskIs w b size safe v xs) :
    Calls Try.prog 9 #[.pointer (some ⟨b, 0, none⟩)] w fun e w' => e = .returned (.tuple #[]) ∧ DiskIs w' b size xs.length v xs ∧ Kept [b] w w' := by
  obtain ⟨A, c, rfl, hc⟩ := hd.shape
  have c1 := hd.blk.cell 1
  have c2 := hd.blk.cell 2
  have f1 := hd.blk.frozen 1
  simp at c1 c2
  go_enter Try.func9, Try.ntmps9
  go_wp2
  go_end0
  exact ⟨rfl, ⟨hd.blk.set_ 1 _, own_setCell hd.own hd.ne _⟩, (Kept.refl _ _).setCell (.inl (by simp)) _⟩

set_option maxHeartbeats 400000 in
theorem crash_nil (k : Int) (w : World) : Calls Try.prog 10 #[.pointer none, .int .i64 k] w fun e w' => e = .returned (.tuple #[]) ∧ w = w' := by
  go_enter Try.func10, Try.ntmps10
  go_wp2
  go_end0
  exact ⟨rfl, rfl⟩

/-- How many bytes a crash leaves. -/
def left (n safe : Nat) (k : Int) : Nat := safe + min k.toNat (n - safe)
theorem left_le {n safe : Nat} (h : safe ≤ n) (k : Int) : left n safe k ≤ n := by unfold left; omega

theorem map_add_zero (A : Option Addr) : A.map (fun x => x.add 0) = A := by
  cases A <;> rfl

theorem crash_end (b size c m : Nat) {m' safe : Nat} (A : Option Addr) (xs : List UInt8) (w : World) (hd : DiskIs w b size safe (.slice A xs.length c) xs) (hm : m ≤ xs.length) (e : m = m') :
    Ending.returned (.tuple #[]) = .returned (.tuple #[]) ∧ ∃ v', DiskIs ((w.setCell ⟨b, 2, none⟩ (.slice A m c)).setCell ⟨b, 1, none⟩ (.int .i64 m)).drew b size m' v' (xs.take m') ∧
      Kept [b] w ((w.setCell ⟨b, 2, none⟩ (.slice A m c)).setCell ⟨b, 1, none⟩ (.int .i64 m)).drew ∧ v'.ownBlock = (Value.slice A xs.length c).ownBlock := by
  subst e
  have ho := own_cut hd.own hm
  have hob : (Value.slice A m c).ownBlock = (Value.slice A xs.length c).ownBlock := by cases A <;> rfl
  refine ⟨rfl, .slice A m c, ⟨((hd.blk.set_ 2 _).set_ 1 _).drew, ?_⟩, ((((Kept.refl [b] w).setCell (.inl (by simp)) _).setCell (.inl (by simp)) _).drew), hob⟩
  have hne : (Value.slice A m c).ownBlock ≠ some b := by rw [hob]; exact hd.ne
  have := own_setCell (p := ⟨b, 1, none⟩) (own_setCell (p := ⟨b, 2, none⟩) ho hne (.slice A m c)) hne (.int .i64 m)
  have hl : (xs.take m).length = m := by rw [List.length_take]; omega
  show World.ownsRow _ 0 5 1 _ _ _
  rw [hl, bv, List.map_take]
  rw [Nat.mul_one] at this
  exact this

set_option maxHeartbeats 400000 in
theorem crash_any (b size safe : Nat) (k : Int) (v : Value) (xs : List UInt8) (w : World) (hd : DiskIs w b size safe v xs) (hs : safe ≤ xs.length) (hx : xs.length ≤ 9223372036854775807) :
    Calls Try.prog 10 #[.pointer (some ⟨b, 0, none⟩), .int .i64 k] w fun e w' => e = .returned (.tuple #[]) ∧ ∃ v', DiskIs w' b size (left xs.length safe k) v' (xs.take (left xs.length safe k)) ∧ Kept [b] w w' ∧ v'.ownBlock = v.ownBlock := by
  obtain ⟨A, c, rfl, hc⟩ := hd.shape
  have c1 := hd.blk.cell 1
  have c2 := hd.blk.cell 2
  have f1 := hd.blk.frozen 1
  have f2 := hd.blk.frozen 2
  simp at c1 c2
  have hl := left_le hs k
  go_enter Try.func10, Try.ntmps10
  go_wp2
  refine Txt.wp_text (by kernel_rfl) (by kernel_rfl) ?_
  go_wp2
  all_goals
    refine ⟨rfl, by kernel_rfl, ?_⟩
    go_wp2
    go_end0
  · have e : safe = left xs.length safe k := by unfold left; omega
    exact crash_end b size c _ A xs w hd (by omega) e
  · have e : xs.length = left xs.length safe k := by unfold left; omega
    exact crash_end b size c _ A xs w hd (by omega) e
  · have e1 : ((safe : Int) + k).toNat = left xs.length safe k := by unfold left; omega
    have e2 : max ((safe : Int) + k) 0 = ((left xs.length safe k : Nat) : Int) := by unfold left; omega
    rw [e1, e2]
    exact crash_end b size c _ A xs w hd hl rfl

set_option maxHeartbeats 400000 in
theorem bytes_nil (w : World) : Calls Try.prog 11 #[.pointer none] w fun e w' => e = .returned (.slice none 0 0) ∧ w = w' := by
  go_enter Try.func11, Try.ntmps11
  go_wp2
  go_ret
  exact ⟨rfl, rfl⟩
set_option maxHeartbeats 400000 in
theorem len_nil (w : World) : Calls Try.prog 19 #[.pointer none] w fun e w' => e = .returned (.int .i64 0) ∧ w = w' := by
  go_enter Try.func19, Try.ntmps19
  go_wp2
  go_ret
  exact ⟨rfl, rfl⟩
set_option maxHeartbeats 400000 in
theorem safe_nil (w : World) : Calls Try.prog 12 #[.pointer none] w fun e w' => e = .returned (.int .i64 0) ∧ w = w' := by
  go_enter Try.func12, Try.ntmps12
  go_wp2
  go_ret
  exact ⟨rfl, rfl⟩
set_option maxHeartbeats 400000 in
theorem cut_nil (n : Int) (w : World) : Calls Try.prog 16 #[.pointer none, .int .i64 n] w fun e w' => e = .returned (.int .i64 1) ∧ w = w' := by
  go_enter Try.func16, Try.ntmps16
  go_wp2
  go_ret
  exact ⟨rfl, rfl⟩
set_option maxHeartbeats 400000 in
theorem append_nil (pv : Value) (w : World) : Calls Try.prog 8 #[.pointer none, pv] w fun e w' => e = .returned (.int .i64 1) ∧ w = w' := by
  go_enter Try.func8, Try.ntmps8
  go_wp2
  go_ret
  exact ⟨rfl, rfl⟩

set_option maxHeartbeats 400000 in
theorem len_any (b size safe : Nat) (v : Value) (xs : List UInt8) (w : World) (hd : DiskIs w b size safe v xs) :
    Calls Try.prog 19 #[.pointer (some ⟨b, 0, none⟩)] w fun e w' => e = .returned (.int .i64 xs.length) ∧ w = w' := by
  obtain ⟨A, c, rfl, hc⟩ := hd.shape
  have c2 := hd.blk.cell 2
  simp at c2
  go_enter Try.func19, Try.ntmps19
  go_wp2
  go_ret
  exact ⟨rfl, rfl⟩
set_option maxHeartbeats 400000 in
theorem safe_any (b size safe : Nat) (v : Value) (xs : List UInt8) (w : World) (hd : DiskIs w b size safe v xs) :
    Calls Try.prog 12 #[.pointer (some ⟨b, 0, none⟩)] w fun e w' => e = .returned (.int .i64 safe) ∧ w = w' := by
  have c1 := hd.blk.cell 1
  simp at c1
  go_enter Try.func12, Try.ntmps12
  go_wp2
  go_ret
  exact ⟨rfl, rfl⟩

set_option maxHeartbeats 400000 in
theorem clone_any (v : Value) (xs : List UInt8) (w : World) (hr : Rd w 1 v xs.length (bv xs)) (hx : xs.length ≤ 140737488355328) :
    Calls Try.prog 21 #[v] w fun e w' => ∃ v', e = .returned v' ∧ Own w' 5 1 v' xs.length (bv xs) ∧ Kept [] w w' ∧ Near none w.heap.size v' := by
  obtain ⟨A, c, hv, hl, hc, hcell⟩ := hr
  cases A with
  | none =>
    have h0 : xs = [] := by
      rcases Nat.eq_zero_or_pos xs.length with h | h
      · exact List.eq_nil_of_length_eq_zero h
      · obtain ⟨b, o, h, _⟩ := hcell h; cases h
    subst h0
    subst hv
    go_enter Try.func21, Try.ntmps21
    go_wp2
    go_ret
    exact ⟨_, rfl, World.ownsRow_nil _ _ _ _, Kept.refl _ _, .inl rfl⟩
  | some ad =>
    have hrd : Rd w 1 (.slice (some ad) xs.length c) xs.length (bv xs) := ⟨_, _, rfl, hl, hc, hcell⟩
    have H := Lib.hid hrd
    clear hrd hl hcell
    subst hv
    go_enter Try.func21, Try.ntmps21
    go_wp2_with (at_builtin; go_loud (refine wpl_append bytesT rfl (.tmp 5) (.tmp 6) rfl rfl (xs := []) (n := 0) ?_ rfl (H.out.alloc _) (one_bv _) ?_ ?_ ?_))
    case refine_1 => exact World.ownsRow_made w #[] 0 (Nat.zero_le _) (by simp [maxLen]) rfl
    case refine_2 => omega
    case refine_3 => omega
    intro v' w' hown hk hb
    go_wp2
    go_ret
    have hk0 : Kept [] w w' := Kept.fresh ((Kept.refl [] w).alloc _) hk (by simp [Value.ownBlock])
    refine ⟨_, rfl, by simpa using hown, hk0, ?_⟩
    rcases hb with hb | hb
    · exact .inr ⟨_, hb, Nat.le_refl _⟩
    · exact .inr ⟨_, hb, by simp⟩

/-- What 'Bytes' answers: bytes of the caller's own. -/
def Fresh (w : World) (v : Value) (xs : List UInt8) (w' : World) : Prop := Own w' 5 1 v xs.length (bv xs) ∧ Kept [] w w' ∧ Near none w.heap.size v

set_option maxHeartbeats 400000 in
theorem bytes_any (b size safe : Nat) (v : Value) (xs : List UInt8) (w : World) (hd : DiskIs w b size safe v xs) (hx : xs.length ≤ 140737488355328) :
    Calls Try.prog 11 #[.pointer (some ⟨b, 0, none⟩)] w fun e w' => ∃ v', e = .returned v' ∧ Own w' 5 1 v' xs.length (bv xs) ∧ Kept [] w w' ∧ Near none w.heap.size v' := by
  obtain ⟨A, c, rfl, hc⟩ := hd.shape
  have c2 := hd.blk.cell 2
  simp at c2
  have H := Lib.hid (clone_any _ xs w (Rd.of_own hd.own) hx)
  go_enter Try.func11, Try.ntmps11
  go_wp2_with (go_at_call 21; refine H.out.mono ?_)
  rintro e w' ⟨v', rfl, h1, h2, h3⟩
  go_wp2
  go_ret
  exact ⟨_, rfl, h1, h2, h3⟩

theorem cut_end (b size safe c n : Nat) {s' : Nat} (A : Option Addr) (xs : List UInt8) (w : World) (hd : DiskIs w b size safe (.slice A xs.length c) xs) (hn : n ≤ xs.length) (e : s' = min safe n) :
    Ending.returned (.int .i64 0) = .returned (.int .i64 0) ∧ ∃ v', DiskIs ((w.setCell ⟨b, 2, none⟩ (.slice A n c)).setCell ⟨b, 1, none⟩ (.int .i64 s')).drew b size (min safe n) v' (xs.take n) ∧
      Kept [b] w ((w.setCell ⟨b, 2, none⟩ (.slice A n c)).setCell ⟨b, 1, none⟩ (.int .i64 s')).drew ∧ v'.ownBlock = (Value.slice A xs.length c).ownBlock := by
  subst e
  have ho := own_cut hd.own hn
  have hob : (Value.slice A n c).ownBlock = (Value.slice A xs.length c).ownBlock := by cases A <;> rfl
  refine ⟨rfl, .slice A n c, ⟨((hd.blk.set_ 2 _).set_ 1 _).drew, ?_⟩, ((((Kept.refl [b] w).setCell (.inl (by simp)) _).setCell (.inl (by simp)) _).drew), hob⟩
  have hne : (Value.slice A n c).ownBlock ≠ some b := by rw [hob]; exact hd.ne
  have := own_setCell (p := ⟨b, 1, none⟩) (own_setCell (p := ⟨b, 2, none⟩) ho hne (.slice A n c)) hne (.int .i64 (min safe n : Nat))
  have hl : (xs.take n).length = n := by rw [List.length_take]; omega
  show World.ownsRow _ 0 5 1 _ _ _
  rw [hl, bv, List.map_take]
  rw [Nat.mul_one] at this
  exact this

set_option maxHeartbeats 400000 in
theorem cut_bad (b size safe : Nat) (n : Int) (v : Value) (xs : List UInt8) (w : World) (hd : DiskIs w b size safe v xs) (hn : n < 0 ∨ (xs.length : Int) < n) :
    Calls Try.prog 16 #[.pointer (some ⟨b, 0, none⟩), .int .i64 n] w fun e w' => e = .returned (.int .i64 2) ∧ Kept [] w w' := by
  obtain ⟨A, c, rfl, hc⟩ := hd.shape
  have c2 := hd.blk.cell 2
  simp at c2
  rcases hn with hn | hn
  · go_enter Try.func16, Try.ntmps16
    go_wp2
    go_ret
    exact ⟨rfl, Kept.refl _ _⟩
  · have h0 : ¬ n < 0 := by omega
    go_enter Try.func16, Try.ntmps16
    go_wp2
    go_ret
    exact ⟨rfl, Kept.refl _ _⟩

set_option maxHeartbeats 400000 in
theorem cut_ok (b size safe n : Nat) (v : Value) (xs : List UInt8) (w : World) (hd : DiskIs w b size safe v xs) (hn : n ≤ xs.length) :
    Calls Try.prog 16 #[.pointer (some ⟨b, 0, none⟩), .int .i64 n] w fun e w' => e = .returned (.int .i64 0) ∧ ∃ v', DiskIs w' b size (min safe n) v' (xs.take n) ∧ Kept [b] w w' ∧ v'.ownBlock = v.ownBlock := by
  obtain ⟨A, c, rfl, hc⟩ := hd.shape
  have c1 := hd.blk.cell 1
  have c2 := hd.blk.cell 2
  have f1 := hd.blk.frozen 1
  have f2 := hd.blk.frozen 2
  simp at c1 c2
  have h0 : ¬ (n : Int) < 0 := by omega
  have h1 : ¬ (xs.length : Int) < n := by omega
  go_enter Try.func16, Try.ntmps16
  go_wp2
  refine Txt.wp_text (by kernel_rfl) (by kernel_rfl) ?_
  go_wp2
  all_goals
    refine ⟨rfl, by kernel_rfl, ?_⟩
    go_wp2
    go_ret
    exact cut_end b size safe c n A xs w hd hn (by omega)

end Go.Proofs.Ytfdioobkbdgbmaa
