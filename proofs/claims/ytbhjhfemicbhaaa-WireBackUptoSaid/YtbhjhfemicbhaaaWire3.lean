/-
  The wire: what must be answered first.
-/
import Derived.Test.YtbhjhfemicbhaaaWire2
namespace Go.Proofs.Ytbhjhfemicbhaaa
open Go.RowKit Go.Mem

@[go_sem] theorem constB (w : World) (C : Array Value) (m n c : Nat) (hm : m = w.heap.size) :
    (convert 24 24 (.slice (some ⟨m, 0, none⟩) n c)).run Try.prog (w.alloc (.cells C 5)) = .ok (.slice (some ⟨m, 0, none⟩) n c) (w.alloc (.cells C 5 (C.size, C.size + 1))) :=
  run_const Try.underlying24 Try.underlying5 w C m n c hm

theorem RdrA.kept {S : List Nat} {w w' : World} {r : Nat} {s : St} (h : RdrA w r s) (hk : Kept S w w') (hr : r ∉ S) (hS : ∀ k ∈ S, w.heap.size ≤ k ∨ ∃ t cs, Blk w k t cs ∧ t ≠ 5) : RdrA w' r s := by
  obtain ⟨v, hb, ho⟩ := h
  refine ⟨v, hb.kept hk hr, ho.kept hk fun k hv hm => ?_⟩
  rcases hS k hm with h | ⟨t, cs, h, hne⟩
  · have := ho.lt hv; omega
  · exact ho.blk_ne h (fun e => hne e.symm) hv
theorem RdrA.kept0 {w w' : World} {r : Nat} {s : St} (h : RdrA w r s) (hk : Kept [] w w') : RdrA w' r s := h.kept hk (by simp) (by simp)
theorem RdrA.other {w w' : World} {r r2 : Nat} {s s2 : St} (h2 : RdrA w r2 s2) (h : RdrA w r s) (hk : Kept [r] w w') (hne : r2 ≠ r) : RdrA w' r2 s2 := by
  refine h2.kept hk (by simpa using hne) fun k hm => ?_
  obtain rfl : k = r := by simpa using hm
  obtain ⟨v, hb, _⟩ := h
  exact .inr ⟨_, _, hb, by decide⟩
theorem RdrA.drew {w : World} {r : Nat} {s : St} (h : RdrA w r s) : RdrA w.drew r s := h

theorem kfresh {w0 w w' : World} {r : Nat} (h0 : Kept [] w0 w) (h : Kept [r] w w') (hr : w0.heap.size ≤ r) : Kept [] w0 w' := h0.fresh h (by simpa using hr)

theorem first_true (w : World) : Calls Try.prog 8 #[] w fun e w' => e = .returned (.bool true) ∧ Kept [] w w' := by
  have s1 : sNum (0, [] ++ be8 5 ++ form [97, 98]) = (5, (0, form [97, 98])) := by decide
  have s2 : sBytes (0, form [97, 98]) = ([97, 98], (0, [])) := by decide
  have s3 : sDone (0, []) = 0 := rfl
  go_enter Try.func8, Try.ntmps8
  go_wp2_with (first
    | (go_at_call 10; refine (number_any _ [] 5 w (Rd.nil _ _) (by simp) (by omega)).mono ?_; rintro e w1 ⟨ov, rfl, hn⟩; have hn1 := Lib.hid hn; clear hn)
    | (go_at_call 9; go_loud (refine (bytes_any _ _ _ [97, 98] _ (Rd.of_ow (hn1.out.ow.alloc _)) (Rd.alloc_at (n := 2) (xs := bv [97, 98]) rfl rfl rfl (by omega)) (by simp [be8_len])).mono ?_); rintro e w2 ⟨ov2, rfl, hn⟩; have hn2 := Lib.hid hn; clear hn)
    | (go_at_call 11; refine (new_any _ _ _ (Rd.of_ow hn2.out.ow) (by simp [be8, form])).mono ?_; rintro e w3 ⟨r, rfl, hr, hk, hle⟩; have hr3 := Lib.hid hr; have hk3 := Lib.hid (((hn1.out.kept.alloc _).then0 hn2.out.kept).then0 hk); have hl3 := Lib.hid (Nat.le_trans ((hn1.out.kept.alloc _).then0 hn2.out.kept).size hle); clear hr hk hle)
    | (go_at_call 15; refine (number_read _ _ _ hr3.out).mono ?_; rintro e w4 ⟨rfl, hr, hk⟩; rw [s1] at hr; have hr4 := Lib.hid hr; have hk4 := Lib.hid hk; clear hr hk)
    | (go_at_call 12; refine (bytes_read _ _ _ hr4.out).mono ?_; rintro e w5 ⟨x, rfl, ho, _, hr, hk⟩; rw [s2] at hr ho; have hs := run_toS (P := Try.prog) (s := 24) (d := 9) (e := 5) rfl rfl rfl (Rd.of_ow ho); have hr5 := Lib.hid hr; have hk5 := Lib.hid (kfresh hk3.out (hk4.out.trans' hk) hl3.out); clear hr hk ho)
    | (go_at_call 14; refine (done_any _ _ _ hr5.out).mono ?_; rintro e w6 ⟨rfl, rfl⟩))
  go_ret
  exact ⟨rfl, hk5.out⟩

end Go.Proofs.Ytbhjhfemicbhaaa
