/-
  The document's ring: What.
-/
import Derived.Test.YtdbngnlpafcogaaRg7
import Derived.Test.YtdbngnlpafcogaaRn1
namespace Go.Proofs.Ytdbngnlpafcogaa
open Go.RowKit Go.Mem Go.Txt

set_option maxHeartbeats 1600000 in
theorem rbytes_any (v : Value) (xs : List UInt8) (w : World) (hx : Rd w 1 v xs.length (bv xs)) (hb : xs.length ≤ 140737488351232) :
    Calls Try.prog 49 #[v] w fun e w' => ∃ v', e = .returned v' ∧ New w w' v' (form xs) := by
  have hx2 := Lib.hid hx
  obtain ⟨A, c, rfl, _, _, _⟩ := hx
  have hb2 := Lib.hid hb
  have hl := Lib.hid (be8_len xs.length)
  go_enter Try.func49, Try.ntmps49
  go_wp2_with (first
    | (go_at_call 58; (refine (rnumber_any xs.length _ (by have := hb2.out; omega)).mono ?_); rintro e w1 ⟨ov, rfl, hn⟩
       obtain ⟨OA, oc, hov, _⟩ := hn.ow.shape
       rw [hl.out] at hov
       subst hov
       have hn2 := Lib.hid hn
       have on := Lib.hid (by have := hn.ow; rw [hl.out] at this; exact this)
       clear hn)
    | (at_builtin; refine wpl_app bytesT rfl (.tmp 6) (.tmp 7) rfl rfl on.out rfl (hx2.out.kept0 hn2.out.kept) (one_bv _) ?_ ?_ ?_))
  case refine_1 => have := hb2.out; omega
  case refine_2 => have := hb2.out; omega
  intro v' w2 hown hk2 hb3
  have hn3 : New w w2 v' (form xs) := hn2.out.step (by
    unfold form
    rw [List.length_append, hl.out]
    simpa [bv] using hown) hk2 hn2.out.old (by
    rcases hb3 with h | h
    · exact .inl h
    · exact .inr ⟨_, h, hn2.out.kept.size⟩)
  clear hown hk2 hb3
  go_wp2_with fail
  go_ret
  exact ⟨_, rfl, hn3⟩
set_option maxRecDepth 100000 in
set_option maxHeartbeats 1600000 in
theorem rwhat_any (tag : UInt8) (v : Value) (body : List UInt8) (w : World) (hx : Rd w 1 v body.length (bv body)) (hb : body.length ≤ 140737488351232) :
    Calls Try.prog 14 #[.int .u8 (tag.toNat : Int), v] w fun e w' => ∃ v', e = .returned v' ∧ New w w' v' (whatB tag body) := by
  have hx2 := Lib.hid hx
  have hb2 := Lib.hid hb
  have hfl := Lib.hid (show (form body).length = body.length + 8 by unfold form; rw [List.length_append, be8_len]; omega)
  obtain ⟨A, c, rfl, _, _, _⟩ := hx
  clear hb
  go_enter Try.func14, Try.ntmps14
  have kk := Lib.hid ((Kept.refl [] w).alloc (.cells #[.int .u8 119, .int .u8 105, .int .u8 116, .int .u8 97, .int .u8 110, .int .u8 tag.toNat] 5))
  have o5 := Lib.hid (show Ow (w.alloc (.cells #[.int .u8 119, .int .u8 105, .int .u8 116, .int .u8 97, .int .u8 110, .int .u8 tag.toNat] 5)) 5 1 (.slice (some ⟨w.heap.size, 0, none⟩) 6 6) 6 (bv [119, 105, 116, 97, 110, tag]) from Ow.of_own (own_alloc_at rfl rfl rfl (by decide)))
  go_wp2_with (first
    | (go_at_call 49; (refine (rbytes_any _ body _ (hx2.out.kept0 kk.out) hb2.out).mono ?_); rintro e w1 ⟨ov, rfl, hn⟩
       have hn2 := Lib.hid hn
       have R10 := Lib.hid (show Rd w1 1 ov (body.length + 8) (bv (form body)) from by have := hn.rd; unfold isRd at this; rwa [hfl.out] at this)
       replace o5 := Lib.hid (o5.out.kept0 hn.kept)
       clear hn)
    | (at_builtin; refine wpl_app bytesT rfl (.tmp 8) (.tmp 10) rfl rfl o5.out rfl R10.out (one_bv _) ?_ ?_ ?_))
  case refine_1 => have := hb2.out; omega
  case refine_2 => have := hb2.out; omega
  intro v' w2 hown hk2 hb3
  have K0 := kk.out.then0 hn2.out.kept
  have hn3 : New w w2 v' (whatB tag body) := by
    refine New.step (show New w w1 (.slice (some ⟨w.heap.size, 0, none⟩) 6 6) [119, 105, 116, 97, 110, tag] from ⟨o5.out, K0, .inr ⟨_, rfl, Nat.le_refl _⟩⟩) ?_ hk2 (by simp [Value.ownBlock]) ?_
    · unfold whatB
      rw [List.length_append, hfl.out]
      have e : 6 + (body.length + 8) = ([119, 105, 116, 97, 110, tag] : List UInt8).length + (body.length + 8) := by simp
      rw [← e]
      simpa [bv] using hown
    · rcases hb3 with h | h
      · exact .inl h
      · exact .inr ⟨_, h, K0.size⟩
  clear hown hk2 hb3
  go_wp2_with fail
  go_ret
  exact ⟨_, rfl, hn3⟩
end Go.Proofs.Ytdbngnlpafcogaa
