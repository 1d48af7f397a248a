/-
  The laws' first test.
-/
import Derived.Test.YtfdioobkbdgbmaaDisk2
namespace Go.Proofs.Ytfdioobkbdgbmaa
open Go.RowKit Go.Mem

@[go_sem] theorem const22 (w : World) (C : Array Value) (m n c : Nat) (hm : m = w.heap.size) :
    (convert 22 22 (.slice (some ⟨m, 0, none⟩) n c)).run Try.prog (w.alloc (.cells C 5)) = .ok (.slice (some ⟨m, 0, none⟩) n c) (w.alloc (.cells C 5 (C.size, C.size + 1))) :=
  run_const Try.underlying22 Try.underlying5 w C m n c hm

/-- One part in a new row, the part itself in the row before it. -/
theorem parts_new (w : World) (S : List Nat) (cs : Array Value) (fr : Nat × Nat) (xs : List UInt8) (g n : Nat) (hg : g = w.heap.size) (hn : n = xs.length) (hx : cs.toList = bv xs) (hS : ∀ k ∈ S, k < w.heap.size) :
    Parts ((w.alloc (.cells cs 5 fr)).alloc (.cells #[.slice (some ⟨g, 0, none⟩) n n] 22)) S (.slice (some ⟨g + 1, 0, none⟩) 1 1) [(.slice (some ⟨g, 0, none⟩) n n, xs)] := by
  subst hg
  subst hn
  refine ⟨Rd.alloc_at (by simp) rfl (by simp) (by simp), fun _ k hk hm => ?_, fun x hx' => ?_⟩
  · simp [Value.ownBlock] at hk; have := hS k hm; omega
  · simp at hx'
    subst hx'
    refine ⟨(Rd.alloc_at rfl hx (by simp) (by simp)).alloc _, fun _ k hk hm => ?_⟩
    simp [Value.ownBlock] at hk; have := hS k hm; omega

theorem DiskIs.alloc {w : World} {b size safe : Nat} {v : Value} {xs : List UInt8} (h : DiskIs w b size safe v xs) (o : Obj) : DiskIs (w.alloc o) b size safe v xs := ⟨h.blk.alloc o, own_alloc h.own o⟩
theorem DiskIs.kept {S : List Nat} {w w' : World} {b size safe : Nat} {v : Value} {xs : List UInt8} (h : DiskIs w b size safe v xs) (hk : Kept S w w') (h1 : b ∉ S) (h2 : ∀ k, v.ownBlock = some k → k ∉ S) : DiskIs w' b size safe v xs := ⟨h.blk.kept hk h1, own_kept h.own hk h2⟩
theorem DiskIs.lt {w : World} {b size safe : Nat} {v : Value} {xs : List UInt8} (h : DiskIs w b size safe v xs) : ∀ k ∈ b :: v.ownBlock.toList, k < w.heap.size := by
  intro k hk
  rcases List.mem_cons.1 hk with rfl | hk
  · exact h.blk.lt
  · exact own_lt h.own (mem_own hk)

/-- A constant is appended: there is room, or there is none. -/
theorem append_const_ok (b size safe : Nat) (v : Value) (xs ys : List UInt8) (cs : Array Value) (fr : Nat × Nat) (n : Nat) (w : World) (hd : DiskIs w b size safe v xs) (hn : n = ys.length) (hx : cs.toList = bv ys)
    (hsz : (size : Int) ≤ 140737488355328) (hf : xs.length + ys.length ≤ size) :
    Calls Try.prog 8 #[.pointer (some ⟨b, 0, none⟩), .slice (some ⟨w.heap.size + 1, 0, none⟩) 1 1] ((w.alloc (.cells cs 5 fr)).alloc (.cells #[.slice (some ⟨w.heap.size, 0, none⟩) n n] 22))
      fun e w' => e = .returned (.int .i64 0) ∧ ∃ v', DiskIs w' b size safe v' (xs ++ ys) ∧ Kept (b :: v.ownBlock.toList) w w' ∧ Near v.ownBlock w.heap.size v' := by
  have hp := parts_new w (b :: v.ownBlock.toList) cs fr ys _ n rfl hn hx hd.lt
  refine (append_ok b size safe v _ xs _ _ ((hd.alloc _).alloc _) hp (by omega) (by simp) (by simp [total]; omega) (by simp [total]; omega)).mono ?_
  rintro e w' ⟨rfl, v', h1, h2, h3⟩
  refine ⟨rfl, v', by simpa [joined] using h1, ?_, ?_⟩
  · exact (((Kept.refl [] w).alloc _).alloc _).trans h2 (by simp) (fun k _ h => h)
  · rcases h3 with h3 | ⟨g, h3, h4⟩
    · exact .inl h3
    · exact .inr ⟨g, h3, by simp at h4; omega⟩
theorem append_const_full (b size safe : Nat) (v : Value) (xs ys : List UInt8) (cs : Array Value) (fr : Nat × Nat) (n : Nat) (w : World) (hd : DiskIs w b size safe v xs) (hn : n = ys.length) (hx : cs.toList = bv ys)
    (hsz : (size : Int) ≤ 140737488355328) (h1 : xs.length ≤ size) (hf : size < xs.length + ys.length) :
    Calls Try.prog 8 #[.pointer (some ⟨b, 0, none⟩), .slice (some ⟨w.heap.size + 1, 0, none⟩) 1 1] ((w.alloc (.cells cs 5 fr)).alloc (.cells #[.slice (some ⟨w.heap.size, 0, none⟩) n n] 22))
      fun e w' => e = .returned (.int .i64 140) ∧ Kept [] w w' := by
  have hp := parts_new w (b :: v.ownBlock.toList) cs fr ys _ n rfl hn hx hd.lt
  refine (append_full b size safe v _ xs _ _ _ ((hd.alloc _).alloc _) hp h1 (by omega) (by simp) (by simp [total]; omega)).mono ?_
  rintro e w' ⟨rfl, h2⟩
  exact ⟨rfl, (((Kept.refl [] w).alloc _).alloc _).then0 h2⟩

set_option maxHeartbeats 1000000 in
theorem first_true (w : World) : Calls Try.prog 6 #[] w fun e w' => e = .returned (.bool true) ∧ Kept [] w w' := by
  go_enter Try.func6, Try.ntmps6
  go_wp2_with (go_at_call 7; refine (new_pos 5 _ (by omega)).mono ?_; rintro e w' ⟨rfl, rfl⟩)
  have d0 := new_is w 5
  have hsz : (w.alloc (.cells #[.int .i64 ((5 : Nat) : Int), .int .i64 0, .slice none 0 0] 48)).heap.size = w.heap.size + 1 := by simp
  have A := append_const_ok w.heap.size 5 0 (.slice none 0 0) [] [97, 98] #[.int .u8 97, .int .u8 98] (2, 3) 2 _ d0 rfl rfl (by omega) (by simp)
  rw [hsz] at A
  refine A.mono ?_
  clear A hsz d0
  rintro e w1 ⟨rfl, v1, d1, k1, n1⟩
  have k1 : Kept [] w w1 := Kept.fresh ((Kept.refl [] w).alloc _) k1 (by simp [Value.ownBlock])
  have n1 : ∀ k, v1.ownBlock = some k → w.heap.size ≤ k := by
    intro k hk
    rcases n1 with n1 | ⟨g, n1, n2⟩
    · rw [n1] at hk; simp [Value.ownBlock] at hk
    · rw [n1] at hk; simp at hk n2; omega
  have hd1 := Lib.hid d1; clear d1
  have hn1 := Lib.hid n1; clear n1
  go_wp2_with (go_at_call 9; refine (sync_any _ _ _ _ _ _ hd1.out).mono ?_; rintro e w2 ⟨rfl, d2, k2⟩)
  have k2 : Kept [] w w2 := Kept.fresh k1 k2 (by simp)
  have A := append_const_ok w.heap.size 5 _ _ _ [99, 100] #[.int .u8 99, .int .u8 100] (2, 3) 2 _ d2 rfl rfl (by omega) (by simp)
  refine A.mono ?_
  clear A d2
  rintro e w3 ⟨rfl, v3, d3, k3, n3⟩
  have k3 : Kept [] w w3 := Kept.fresh k2 k3 (by intro k hk; rcases List.mem_cons.1 hk with rfl | hk; exact Nat.le_refl _; exact hn1.out k (mem_own hk))
  have n3 : ∀ k, v3.ownBlock = some k → w.heap.size ≤ k := by
    intro k hk
    rcases n3 with n3 | ⟨g, n3, n4⟩
    · rw [n3] at hk; exact hn1.out k hk
    · rw [n3] at hk; have := k2.size; simp at hk; omega
  have hd3 := Lib.hid d3; clear d3
  have hn3 := Lib.hid n3; clear n3
  go_wp2_with fail
  have A := append_const_full w.heap.size 5 _ _ _ [101, 102] #[.int .u8 101, .int .u8 102] (2, 3) 2 _ hd3.out rfl rfl (by omega) (by simp) (by simp)
  refine A.mono ?_
  clear A
  rintro e w4 ⟨rfl, k4⟩
  have d4 := Lib.hid (hd3.out.kept k4 (by simp) (by simp))
  have k4 := k3.then0 k4
  go_wp2_with (go_at_call 10; refine (crash_any _ _ _ 1 _ _ _ d4.out (by simp) (by simp)).mono ?_; rintro e w5 ⟨rfl, v5, d5, k5, n5⟩)
  have k5 : Kept [] w w5 := Kept.fresh k4 k5 (by simp)
  have d5 : DiskIs w5 w.heap.size 5 3 v5 [97, 98, 99] := d5
  have hd5 := Lib.hid d5; clear d5
  have hn5 := Lib.hid n5; clear n5
  go_wp2_with (go_at_call 11; refine (bytes_any _ _ _ _ _ _ hd5.out (by simp)).mono ?_; rintro e w6 ⟨v6, rfl, o6, k6, n6⟩; have hs := run_toS (P := Try.prog) Try.underlying22 Try.underlying5 Try.underlying9 (Rd.of_own o6); have hd6 := Lib.hid (hd5.out.kept k6 (by simp) (by simp)))
  have k6 := k5.then0 k6
  go_wp2_with (go_at_call 12; refine (safe_any _ _ _ _ _ _ hd6.out).mono ?_; rintro e w7 ⟨rfl, rfl⟩)
  go_ret
  exact ⟨rfl, k6⟩

end Go.Proofs.Ytfdioobkbdgbmaa
