/-
  Scalars' laws: which bytes are numbers, what 64 bytes come to (ScalarNews): the document's answer.
-/
import Derived.Test.YtfamfdihflkdpaaSr3
import Derived.Test.YtfamfdihflkdpaaSl2
namespace Go.Proofs.Ytfamfdihflkdpaa
open Go.RowKit Go.Mem

theorem le_mod_eq (bs : List UInt8) (hl : bs.length = 32) : (le (leV bs % LL) 32 == bs) = okB (leV bs) := by
  have h1 : le (leV bs) 32 = bs := by have := le_leV bs; rwa [hl] at this
  have h2 : leV bs < 2 ^ (8 * 32) := by have := leV_lt2 bs; rwa [hl] at this
  have h3 : leV bs % LL < 2 ^ (8 * 32) := Nat.lt_of_le_of_lt (Nat.mod_le _ _) h2
  have h4 := le_inj h3 h2
  rw [h1] at h4
  rw [h4]
  unfold okB
  rw [decide_eq_decide]
  constructor
  · intro h; rw [← h]; exact Nat.mod_lt _ LL_pos
  · intro h; exact Nat.mod_eq_of_lt h

theorem rgood_any (bs : List UInt8) (w : World) (hl : bs.length = 32) : Calls Try.prog 17 #[ab bs] w fun e w' => e = .returned (.bool (okB (leV bs))) ∧ Kept [] w w' := by
  have hlen := Lib.hid (show (bv bs).length = 32 by simp [hl])
  have hq := Lib.hid (le_mod_eq bs hl)
  have hl2 := Lib.hid hl
  clear hl
  go_enter Try.func17, Try.ntmps17
  go_wp2_with ((with_reducible refine wpl_box (o := ⟨some 1, _, _, _, _, _⟩) (v := ab bs) rfl (.tmp 0) rfl rfl ?_); intro g1 w1 m1)
  have M := Lib.hid m1
  have hS := m1.blk.drew
  clear m1
  refine Txt.wp_textF [2, 3] (fun u => Blk u g1 22 (bv bs).toArray) [[_, _], [_, _, _]] (by kernel_rfl) (by kernel_rfl) rfl hS (Txt.segs_cons ?_)
  have B := Lib.hid hS
  clear hS
  go_wp2_with fail
  have hrd : Rd w1.drew 1 (.slice (some ⟨g1, 0, none⟩) 32 32) bs.length (bv bs) := by rw [hl2.out]; exact Blk.rd B.out hlen.out (Nat.le_refl _)
  refine (rmod_any _ bs _ hrd (by have := hl2.out; omega)).mono ?_
  rintro e w2 ⟨rfl, k2⟩
  have B2 := Lib.hid (show Blk w2 g1 22 (bv bs).toArray from B.out.kept k2 (by simp))
  have K2 := Lib.hid (M.out.kept.then0 k2.from_drew)
  clear hrd k2
  have he := run_eqIn_ab arrB Try.underlying5 (by kernel_rfl) (le (leV bs % LL) 32) bs (le_len _ _) hl2.out w2
  rw [hq.out] at he
  go_wp2_with fail
  refine ⟨rfl, B2.out, Txt.segs_cons ?_⟩
  go_wp2_with (refine wpl_load_arr arrB rfl (.tmp 1) rfl rfl B2.out hlen.out ?_)
  refine ⟨rfl, B2.out, Txt.segs_nil ⟨⟨by kernel_rfl, ?_⟩, ?_⟩⟩
  · intro j hj o ho _
    have hj2 : j = 2 ∨ j = 3 := by simpa using hj
    rcases hj2 with rfl | rfl <;> cases ho
    · exact ⟨5, rfl, fun u hu => exec_load arrB.row (.tmp 1) rfl rfl hu hlen.out⟩
    · exact ⟨6, rfl, fun u _ => (exec_eql_ab arrB Try.underlying5 (by kernel_rfl) (by kernel_rfl) (.tmp 4) (.tmp 5) rfl (xs := le (leV bs % LL) 32) (ys := bs) rfl rfl (le_len _ _) hl2.out).trans (by rw [hq.out]; rfl)⟩
  go_wp2_with fail
  go_ret
  exact ⟨rfl, K2.out⟩
end Go.Proofs.Ytfamfdihflkdpaa
