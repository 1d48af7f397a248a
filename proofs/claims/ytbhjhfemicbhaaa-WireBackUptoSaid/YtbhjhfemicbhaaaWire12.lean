/-
  The wire: arrays of bytes are read.
-/
import Derived.Test.YtbhjhfemicbhaaaWire11
import Derived.Test.YtbhjhfemicbhaaaArr
namespace Go.Proofs.Ytbhjhfemicbhaaa
open Go.RowKit Go.Mem

theorem arr32 : ArrT Try.prog 41 5 32 := ⟨Try.underlying41, by kernel_rfl⟩
theorem arr64 : ArrT Try.prog 43 5 64 := ⟨Try.underlying43, by kernel_rfl⟩
theorem zero32 : (Try.prog.info? 41).map (·.zero) = some (some (ab (noughts 32))) := by kernel_rfl
theorem zero64 : (Try.prog.info? 43).map (·.zero) = some (some (ab (noughts 64))) := by kernel_rfl

/-- An array of bytes that is read. -/
def sArr (n : Nat) (s : St) : List UInt8 × St := (over (noughts n) 0 ((sTake n s).1), (sTake n s).2)
theorem sArr_len (n : Nat) (s : St) : (sArr n s).1.length = n := by
  unfold sArr
  rw [over_len _ _ _ (by have := sTake_len n s; simp; omega)]
  simp
theorem RdrA.kept1 {w w' : World} {r g : Nat} {s : St} {t : TypeId} {cs : Array Value} (h : RdrA w r s) (hk : Kept [g] w w') (hb : Blk w g t cs) (ht : t ≠ 5) (hr : r ≠ g) : RdrA w' r s :=
  h.kept hk (by simpa using hr) (fun k hm => by simp at hm; subst hm; exact .inr ⟨_, _, hb, ht⟩)

theorem hash_any (r : Nat) (s : St) (w : World) (h : RdrA w r s) :
    Calls Try.prog 18 #[.pointer (some ⟨r, 0, none⟩)] w fun e w' => e = .returned (ab (sArr 32 s).1) ∧ RdrA w' r (sArr 32 s).2 ∧ Kept [r] w w' := by
  have h2 := Lib.hid h
  clear h
  go_enter Try.func18, Try.ntmps18
  go_wp2_with (first
    | ((with_reducible refine wpl_new (o := ⟨some 2, _, _, _, _, _⟩) rfl rfl zero32 ?_); intro g1 w1 m1)
    | ((with_reducible refine wpl_new (o := ⟨some 3, _, _, _, _, _⟩) rfl rfl zero32 ?_); intro g2 w2 m2))
  refine Txt.wp_text (by kernel_rfl) (by kernel_rfl) ?_
  go_wp2_with fail
  have hr2 := (h2.out.kept0 m1.kept).kept0 m2.kept
  have n1 := m2.ne m1.blk.lt
  have n2 := m1.ne h2.out.lt
  have n3 := m2.ne (m1.kept.lt h2.out.lt)
  refine (take_any r 32 s _ hr2.drew (by omega)).mono ?_
  rintro e w3 ⟨x, rfl, hx, hr, hk⟩
  have b1 := (m1.blk.kept m2.kept (by simp)).drew.kept hk (by simp; omega)
  have b2 := m2.blk.drew.kept hk (by simp; omega)
  have H := Lib.hid (And.intro hr (And.intro b1 (And.intro b2 hk)))
  have M := Lib.hid (And.intro m1 m2)
  have N := Lib.hid (And.intro n1 (And.intro n2 n3))
  have hx2 := Lib.hid hx
  clear hr b1 hk m1 m2 hx n1 n2 n3 hr2
  go_wp2_with (refine wpl_cpy bytesT rfl (.tmp 4) (.tmp 6) rfl rfl b2 (Nat.le_of_eq rfl) rfl hx2.out (one_bv _) ?_; intro w4 b4 k4; clear b2)
  have hl := sTake_len 32 s
  have e1 : (over (ab (noughts 32)).cells.toList 0 (List.take 32 (bv (sTake 32 s).fst))).toArray = (bv (sArr 32 s).1).toArray := by
    rw [List.take_of_length_le (by simpa using hl)]
    exact congrArg _ (over_bv (noughts 32) _ 0)
  rw [e1] at b4
  have l1 := sArr_len 32 s
  refine ⟨rfl, by kernel_rfl, ?_⟩
  have b5 := b4.drew
  clear b4
  go_wp2_with (first
    | (refine wpl_load_arr arr32 rfl (.tmp 3) rfl rfl b5 (by simpa using l1) ?_)
    | (refine wpl_store_arr arr32 rfl (.tmp 2) (.tmp 8) rfl rfl rfl ((H.out.2.1.kept k4 (by have := N.out.1; simpa using this)).drew) rfl (by simpa using l1) (one_ab _) ?_; intro w5 b6 k6))
  obtain ⟨n1, n2, n3⟩ := N.out
  obtain ⟨hr, b1, b2, hk⟩ := H.out
  have k5 : Kept [g1] w4 w5 := k6
  have b3 := (b1.kept k4 (by simpa using n1))
  refine ret_arr arr32 rfl rfl b6 (by simpa using l1) rfl ⟨rfl, (hr.kept1 k4 b2 (by decide) n3).kept1 k5 b3 (by decide) n2, ?_⟩
  have m0 : Kept [r] w w3 := ((M.out.1.kept.then0 M.out.2.kept).of0.drew).trans' hk
  exact (m0.then1 k4 (Nat.le_trans M.out.1.kept.size M.out.2.le)).then1 k5 M.out.1.le

theorem sig_any (r : Nat) (s : St) (w : World) (h : RdrA w r s) :
    Calls Try.prog 20 #[.pointer (some ⟨r, 0, none⟩)] w fun e w' => e = .returned (ab (sArr 64 s).1) ∧ RdrA w' r (sArr 64 s).2 ∧ Kept [r] w w' := by
  have h2 := Lib.hid h
  clear h
  go_enter Try.func20, Try.ntmps20
  go_wp2_with (first
    | ((with_reducible refine wpl_new (o := ⟨some 2, _, _, _, _, _⟩) rfl rfl zero64 ?_); intro g1 w1 m1)
    | ((with_reducible refine wpl_new (o := ⟨some 3, _, _, _, _, _⟩) rfl rfl zero64 ?_); intro g2 w2 m2))
  refine Txt.wp_text (by kernel_rfl) (by kernel_rfl) ?_
  go_wp2_with fail
  have hr2 := (h2.out.kept0 m1.kept).kept0 m2.kept
  have n1 := m2.ne m1.blk.lt
  have n2 := m1.ne h2.out.lt
  have n3 := m2.ne (m1.kept.lt h2.out.lt)
  refine (take_any r 64 s _ hr2.drew (by omega)).mono ?_
  rintro e w3 ⟨x, rfl, hx, hr, hk⟩
  have b1 := (m1.blk.kept m2.kept (by simp)).drew.kept hk (by simp; omega)
  have b2 := m2.blk.drew.kept hk (by simp; omega)
  have H := Lib.hid (And.intro hr (And.intro b1 (And.intro b2 hk)))
  have M := Lib.hid (And.intro m1 m2)
  have N := Lib.hid (And.intro n1 (And.intro n2 n3))
  have hx2 := Lib.hid hx
  clear hr b1 hk m1 m2 hx n1 n2 n3 hr2
  go_wp2_with (refine wpl_cpy bytesT rfl (.tmp 4) (.tmp 6) rfl rfl b2 (Nat.le_of_eq rfl) rfl hx2.out (one_bv _) ?_; intro w4 b4 k4; clear b2)
  have hl := sTake_len 64 s
  have e1 : (over (ab (noughts 64)).cells.toList 0 (List.take 64 (bv (sTake 64 s).fst))).toArray = (bv (sArr 64 s).1).toArray := by
    rw [List.take_of_length_le (by simpa using hl)]
    exact congrArg _ (over_bv (noughts 64) _ 0)
  rw [e1] at b4
  have l1 := sArr_len 64 s
  refine ⟨rfl, by kernel_rfl, ?_⟩
  have b5 := b4.drew
  clear b4
  go_wp2_with (first
    | (refine wpl_load_arr arr64 rfl (.tmp 3) rfl rfl b5 (by simpa using l1) ?_)
    | (refine wpl_store_arr arr64 rfl (.tmp 2) (.tmp 8) rfl rfl rfl ((H.out.2.1.kept k4 (by have := N.out.1; simpa using this)).drew) rfl (by simpa using l1) (one_ab _) ?_; intro w5 b6 k6))
  obtain ⟨n1, n2, n3⟩ := N.out
  obtain ⟨hr, b1, b2, hk⟩ := H.out
  have k5 : Kept [g1] w4 w5 := k6
  have b3 := (b1.kept k4 (by simpa using n1))
  refine ret_arr arr64 rfl rfl b6 (by simpa using l1) rfl ⟨rfl, (hr.kept1 k4 b2 (by decide) n3).kept1 k5 b3 (by decide) n2, ?_⟩
  have m0 : Kept [r] w w3 := ((M.out.1.kept.then0 M.out.2.kept).of0.drew).trans' hk
  exact (m0.then1 k4 (Nat.le_trans M.out.1.kept.size M.out.2.le)).then1 k5 M.out.1.le

end Go.Proofs.Ytbhjhfemicbhaaa
