/-
  Without the document: what was synced stays (DiskKeeps): the walk.
-/
import Derived.Test.YtfdioobkbdgbmaaDisk3
namespace Go.Proofs.Ytfdioobkbdgbmaa
open Go.RowKit Go.Mem

/-- One part that was there, in a new row. -/
theorem parts_one (w : World) (S : List Nat) (v : Value) (xs : List UInt8) (g : Nat) (hg : g = w.heap.size) (hr : Rd w 1 v xs.length (bv xs)) (h2 : 0 < xs.length → ∀ k, v.ownBlock = some k → k ∉ S) (hS : ∀ k ∈ S, k < w.heap.size) :
    Parts (w.alloc (.cells #[v] 22)) S (.slice (some ⟨g, 0, none⟩) 1 1) [(v, xs)] := by
  subst hg
  refine ⟨Rd.alloc_at rfl rfl (by simp) (by simp), fun _ k hk hm => ?_, fun x hx' => ?_⟩
  · simp [Value.ownBlock] at hk; have := hS k hm; omega
  · simp at hx'
    subst hx'
    exact ⟨hr.alloc _, h2⟩

theorem append_one (b size safe : Nat) (v x : Value) (xs ys : List UInt8) (w : World) (hd : DiskIs w b size safe v xs) (hr : Rd w 1 x ys.length (bv ys)) (hfar : 0 < ys.length → ∀ k, x.ownBlock = some k → k ∉ b :: v.ownBlock.toList)
    (hsz : (size : Int) ≤ 140737488355328) (hf : xs.length + ys.length ≤ size) :
    Calls Try.prog 8 #[.pointer (some ⟨b, 0, none⟩), .slice (some ⟨w.heap.size, 0, none⟩) 1 1] (w.alloc (.cells #[x] 22))
      fun e w' => e = .returned (.int .i64 0) ∧ ∃ v', DiskIs w' b size safe v' (xs ++ ys) ∧ Kept (b :: v.ownBlock.toList) w w' ∧ Near v.ownBlock w.heap.size v' := by
  have hp := parts_one w (b :: v.ownBlock.toList) x ys _ rfl hr hfar hd.lt
  refine (append_ok b size safe v _ xs _ _ (hd.alloc _) hp (by omega) (by simp) (by simp [total]; omega) (by simp [total]; omega)).mono ?_
  rintro e w' ⟨rfl, v', h1, h2, h3⟩
  refine ⟨rfl, v', by simpa [joined] using h1, ?_, ?_⟩
  · exact ((Kept.refl [] w).alloc _).trans h2 (by simp) (fun k _ h => h)
  · rcases h3 with h3 | ⟨g, h3, h4⟩
    · exact .inl h3
    · exact .inr ⟨g, h3, by simp at h4; omega⟩

theorem newer {w0 : World} {v v' : Value} {H : Nat} (h : ∀ k, v.ownBlock = some k → w0.heap.size ≤ k) (hn : Near v.ownBlock H v') (hH : w0.heap.size ≤ H) : ∀ k, v'.ownBlock = some k → w0.heap.size ≤ k := by
  intro k hk
  rcases hn with hn | ⟨g, hn, hg⟩
  · rw [hn] at hk; exact h k hk
  · rw [hn] at hk; simp at hk; omega

set_option maxRecDepth 100000 in
set_option maxHeartbeats 1000000 in
theorem keeps_walk (a b : Value) (k : Int) (la lb : List UInt8) (w : World) (ha : Rd w 1 a la.length (bv la)) (hb : Rd w 1 b lb.length (bv lb)) (hsum : la.length + lb.length ≤ 140737488355328) :
    Calls Try.prog 3 #[a, b, .int .i64 k] w fun e w' => e = .returned (.bool true) ∧ Kept [] w w' := by
  have hA := Lib.hid ha
  have hB := Lib.hid hb
  obtain ⟨AA, ac, rfl, _, _, _⟩ := ha
  obtain ⟨BB, bc, rfl, _, _, _⟩ := hb
  have hs1 : (la.length : Int) + lb.length ≤ 140737488355328 := by omega
  go_enter Try.func3, Try.ntmps3
  go_wp2_with (go_at_call 6; refine (first_true _).mono ?_; rintro e w1 ⟨rfl, k1⟩)
  rw [show (la.length : Int) + lb.length = ((la.length + lb.length : Nat) : Int) from by omega]
  refine (new_pos (la.length + lb.length) _ (by omega)).mono ?_
  rintro e w' ⟨rfl, rfl⟩
  have d0 := new_is w1 (la.length + lb.length)
  have ha2 := Lib.hid ((hA.out.kept0 k1).alloc (.cells #[.int .i64 ((la.length + lb.length : Nat) : Int), .int .i64 0, .slice none 0 0] 48))
  have fa := (hA.out.kept0 k1).old (S := [w1.heap.size]) (by omega) (by simp)
  have B1 := append_one w1.heap.size _ 0 _ _ _ la _ d0 ha2.out (by simpa [Value.ownBlock] using fa) (by omega) (by simp)
  have B1 := Lib.hid B1
  clear d0 fa
  have hk2 := Lib.hid ((k1.alloc (.cells #[.int .i64 ((la.length + lb.length : Nat) : Int), .int .i64 0, .slice none 0 0] 48)))
  have hz : (w1.alloc (.cells #[.int .i64 ((la.length + lb.length : Nat) : Int), .int .i64 0, .slice none 0 0] 48)).heap.size = w1.heap.size + 1 := by simp
  rw [hz] at B1
  clear hz
  go_wp2_with (go_at_call 8; refine B1.out.mono ?_)
  rintro e w2 ⟨rfl, v2, d2, k2, n2⟩
  have k2 : Kept [] w1 w2 := Kept.fresh ((Kept.refl [] w1).alloc _) k2 (by simp [Value.ownBlock])
  have n2 : ∀ k, v2.ownBlock = some k → w1.heap.size ≤ k := newer (v := .slice none 0 0) (by simp [Value.ownBlock]) n2 (by simp)
  have hd2 := Lib.hid d2; clear d2
  have hn2 := Lib.hid n2; clear n2
  clear hk2 ha2
  go_wp2_with (go_at_call 9; refine (sync_any _ _ _ _ _ _ hd2.out).mono ?_; rintro e w3 ⟨rfl, d3, k3⟩)
  have k3 : Kept [] w1 w3 := Kept.fresh k2 k3 (by simp)
  have hlt : w1.heap.size < w3.heap.size := d3.blk.lt
  have hb3 := hB.out.kept0 (k1.then0 k3)
  have fb := (hB.out.kept0 k1).old (S := w1.heap.size :: v2.ownBlock.toList) (by omega) (by intro k hk; rcases List.mem_cons.1 hk with rfl | hk; exact Nat.le_refl _; exact hn2.out k (mem_own hk))
  have B2 := append_one w1.heap.size _ _ _ _ _ lb _ d3 hb3 fb (by omega) (by simp)
  have B2 := Lib.hid B2
  clear d3 hb3 fb
  refine B2.out.mono ?_
  rintro e w4 ⟨rfl, v4, d4, k4, n4⟩
  have k4 : Kept [] w1 w4 := Kept.fresh k3 k4 (by intro k hk; rcases List.mem_cons.1 hk with rfl | hk; exact Nat.le_refl _; exact hn2.out k (mem_own hk))
  have hd4 := Lib.hid d4; clear d4
  clear B1 B2
  go_wp2_with (go_at_call 10; refine (crash_any _ _ _ k _ _ _ hd4.out (by simp) (by simp; omega)).mono ?_; rintro e w5 ⟨rfl, v5, d5, k5, n5⟩)
  have k5 : Kept [] w1 w5 := Kept.fresh k4 k5 (by simp)
  obtain ⟨ys, hys, e1, e2, e3, e4, e5⟩ : ∃ ys, ([] ++ la ++ lb).take (left ([] ++ la ++ lb).length ([] ++ la).length k) = ys ∧ left ([] ++ la ++ lb).length ([] ++ la).length k = ys.length ∧ la.length ≤ ys.length ∧ ys.length ≤ la.length + lb.length ∧
      ys = (la ++ lb).take ys.length ∧ ((lb.length : Int) ≤ k → ys = la ++ lb) := by
    refine ⟨_, rfl, ?_, ?_, ?_, ?_, ?_⟩
    all_goals simp only [List.nil_append, List.length_append, List.length_take, left]
    · omega
    · omega
    · omega
    · rw [show min (la.length + min k.toNat (la.length + lb.length - la.length)) (la.length + lb.length) = la.length + min k.toNat (la.length + lb.length - la.length) from by omega]
    · intro hk; exact List.take_of_length_le (by simp; omega)
  rw [hys, e1] at d5
  clear hys e1
  have h4 := Lib.hid e4.symm
  have h5 := Lib.hid e5
  clear e4 e5
  have hd5 := Lib.hid d5; clear d5
  have hn5 := Lib.hid n5; clear n5
  clear hd2 hn2 hd4
  have hl := Lib.hid (show (la ++ lb).length = la.length + lb.length from List.length_append)
  have hcat := run_cat (P := Try.prog) la lb hsum
  have he : (ys == List.take ys.length (la ++ lb)) = true := by rw [h4.out]; exact beq_self_eq_true ys
  have hk6 : ∀ w6, Kept [] w5 w6 → Kept [] w w6 := fun w6 k6 => k1.then0 (k5.then0 k6)
  have hk6 := Lib.hid hk6
  by_cases hkl : k < lb.length
  · go_wp2_with (go_at_call 11; refine (bytes_any _ _ _ _ _ _ hd5.out (by omega)).mono ?_; rintro e w6 ⟨v6, rfl, o6, k6, n6⟩; have hs := run_toS (P := Try.prog) Try.underlying22 Try.underlying5 Try.underlying9 (Rd.of_own o6); have hsa := run_toS (P := Try.prog) Try.underlying22 Try.underlying5 Try.underlying9 (hA.out.kept0 (hk6.out _ k6)); have hsb := run_toS (P := Try.prog) Try.underlying22 Try.underlying5 Try.underlying9 (hB.out.kept0 (hk6.out _ k6)))
    refine (safe_any _ _ _ _ _ _ (hd5.out.kept k6 (by simp) (by simp))).mono ?_
    rintro e w7 ⟨rfl, rfl⟩
    go_wp2
    go_ret
    exact ⟨rfl, hk6.out _ k6⟩
  · have he2 : (ys == la ++ lb) = true := by rw [h5.out (by omega)]; exact beq_self_eq_true (la ++ lb)
    go_wp2_with (go_at_call 11; refine (bytes_any _ _ _ _ _ _ hd5.out (by omega)).mono ?_; rintro e w6 ⟨v6, rfl, o6, k6, n6⟩; have hs := run_toS (P := Try.prog) Try.underlying22 Try.underlying5 Try.underlying9 (Rd.of_own o6); have hsa := run_toS (P := Try.prog) Try.underlying22 Try.underlying5 Try.underlying9 (hA.out.kept0 (hk6.out _ k6)); have hsb := run_toS (P := Try.prog) Try.underlying22 Try.underlying5 Try.underlying9 (hB.out.kept0 (hk6.out _ k6)))
    refine (safe_any _ _ _ _ _ _ (hd5.out.kept k6 (by simp) (by simp))).mono ?_
    rintro e w7 ⟨rfl, rfl⟩
    go_wp2
    go_ret
    exact ⟨rfl, hk6.out _ k6⟩

theorem keeps_law (a : Value) (la : List UInt8) (b : Value) (lb : List UInt8) (k : Int) (w : World) (ha : Rd w 1 a la.length (bv la)) (h1 : la.length ≤ 1048576) (hb : Rd w 1 b lb.length (bv lb)) (h2 : lb.length ≤ 1048576) (_ : (Lit.int .i64 k).wf = true) :
    Calls Try.prog 3 #[a, b, .int .i64 k] w fun e w' => e = .returned (.bool true) ∧ Kept [] w w' := keeps_walk a b k la lb w ha hb (by omega)

end Go.Proofs.Ytfdioobkbdgbmaa
