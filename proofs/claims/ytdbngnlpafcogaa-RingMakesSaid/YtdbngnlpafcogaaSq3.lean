/-
  Digests: a message in blocks of 128 bytes.
-/
import Derived.Test.YtdbngnlpafcogaaSh2
import Derived.Test.YtdbngnlpafcogaaWb0a
import Derived.Test.YtdbngnlpafcogaaFam
namespace Go.Proofs.Ytdbngnlpafcogaa.Q
open Go.RowKit Go.Mem Go.Txt

/-- How many noughts. -/
def pz (n : Nat) : Nat := (239 - n % 128) % 128
/-- The message, in blocks. -/
def pad (m : List UInt8) : List UInt8 := (m ++ 128 :: List.replicate (pz m.length) 0) ++ (List.replicate 8 0 ++ be8 (8 * m.length))
theorem pz_lt (n : Nat) : pz n < 128 := Nat.mod_lt _ (by decide)
theorem pz_at {n j : Nat} (h : j ≤ pz n) : ((n + 1 + j + 16) % 128 = 0) ↔ j = pz n := by unfold pz at *; omega
theorem pad_mod (m : List UInt8) : (pad m).length % 128 = 0 := by
  unfold pad
  rw [List.length_append, List.length_append, List.length_cons, List.length_replicate, List.length_append, List.length_replicate, be8_len]
  unfold pz; omega
set_option maxHeartbeats 1600000 in
theorem padded_any (pv : Value) (ps : List (Value × List UInt8)) (w : World) (hp : Parts w pv ps) (hn : ps.length ≤ 9223372036854775807) (hl : (joined ps).length ≤ 140737488353000) :
    Calls Try.prog 93 #[pv, .int .i64 128] w fun e w' => ∃ v', e = .returned v' ∧ New w w' v' (pad (joined ps)) := by
  have cc := Lib.hid (concat_any pv ps w hp hn (by omega))
  clear hp
  generalize joined ps = m at *
  go_enter Try.func93, Try.ntmps93
  go_wp2_with (first
    | (go_at_call 86; (with_reducible refine (cc.out).mono ?_); rintro e w1 ⟨ov, rfl, h⟩
       obtain ⟨A, c, rfl, _⟩ := h.ow.shape
       have H := Lib.hid h
       clear h)
    | ((with_reducible refine wpl_at 14 ?_); (refine wpl_bslice1 (o := ⟨some 14, _, _, _, _, _⟩) (v0 := .int .u8 128) (cells := (bv [128]).toArray) rfl bytesT rfl rfl (by decide) rfl rfl ?_); intro g7 w7 m7
       have b7 := Lib.hid (show Rd w7 1 (.slice (some ⟨g7, 0, none⟩) 1 1) 1 (bv [128]) from ⟨_, _, rfl, rfl, by omega, fun _ => ⟨g7, 0, rfl, fun j u hu => by rw [m7.blk.cell]; simpa using hu⟩⟩)
       have k7 := Lib.hid m7.kept
       clear m7)
    | (at_builtin
       refine wpl_app (n := m.length) (m := 1) bytesT rfl (.tmp 13) (.tmp 14) rfl rfl (H.out.ow.kept0 k7.out) rfl b7.out (one_bv _) (by omega) (by omega) ?_
       intro v' w9 o9 k9 f9
       obtain ⟨A2, c2, hv', hlc'⟩ := o9.shape
       subst hv'
       replace H := Lib.hid (H.out.app1 k7.out o9 k9 f9)
       clear o9 k9 f9 k7 b7))
  have hl2 := Lib.hid hl
  go_loopg [5] (pz m.length) (fun fu o wk => ∃ (j : Nat) (A : Option Addr) (c : Nat), j ≤ pz m.length ∧ fu + j = pz m.length ∧ o = .slice A (m.length + 1 + j) c ∧ Hid (New w wk (.slice A (m.length + 1 + j) c) (m ++ 128 :: List.replicate j 0)))
  case atStart => exact ⟨0, A2, c2, by omega, by omega, rfl, H⟩
  case round =>
    clear H
    obtain ⟨j, A, c, hj, hfu, rfl, H⟩ := hrel
    have hz := pz_lt m.length
    by_cases hlt : j < pz m.length
    · have hne : ¬ (m.length + 1 + j + 16) % 128 = 0 := fun e => by have := (pz_at hj).1 e; omega
      generalize hL : m.length + 1 + j = L at *
      have hne1 : (((L : Int) + 16) % 128 = 0) = False := eq_false (by omega)
      have hne2 : (((L : Int) + 16).tmod 128 = 0) = False := eq_false (by rw [Int.tmod_eq_emod_of_nonneg (by omega)]; omega)
      have hLs : L ≤ 140737488353200 := by omega
      go_wp2_with (first
        | ((with_reducible refine wpl_at 25 ?_); (refine wpl_bslice1 (o := ⟨some 25, _, _, _, _, _⟩) (v0 := .int .u8 0) (cells := (bv [0]).toArray) rfl bytesT rfl rfl (by decide) rfl rfl ?_); intro g7 w7 m7
           have b7 := Lib.hid (show Rd w7 1 (.slice (some ⟨g7, 0, none⟩) 1 1) 1 (bv [0]) from ⟨_, _, rfl, rfl, by omega, fun _ => ⟨g7, 0, rfl, fun j u hu => by rw [m7.blk.cell]; simpa using hu⟩⟩)
           have k7 := Lib.hid m7.kept
           clear m7)
        | (at_builtin
           refine wpl_app (n := L) (m := 1) bytesT rfl (.tmp 24) (.tmp 25) rfl rfl (by have := H.out.ow.kept0 k7.out; have e : (m ++ 128 :: List.replicate j 0).length = L := (by simp; omega); rw [e] at this; exact this) rfl b7.out (one_bv _) (by omega) (by omega) ?_
           intro v' w9 o9 k9 f9
           have e : (m ++ 128 :: List.replicate j 0).length = L := by simp; omega
           obtain ⟨A3, c3, hv', hlc'⟩ := o9.shape
           subst hv'
           replace H := Lib.hid (H.out.app1 k7.out (by rw [e]; exact o9) k9 f9)
           clear o9 k9 f9 k7 b7 e))
      go_roundg (pz m.length - (j + 1))
      case measure => omega
      case rel =>
        have e : m ++ 128 :: List.replicate (j + 1) 0 = (m ++ 128 :: List.replicate j 0) ++ [0] := by simp [List.replicate_succ']
        refine ⟨j + 1, A3, c3, by omega, by omega, by rw [← hL]; rfl, ?_⟩
        rw [e, show m.length + 1 + (j + 1) = L + 1 from by omega]
        exact H
    · obtain rfl : j = pz m.length := by omega
      have heq := (pz_at hj).2 rfl
      generalize hL : m.length + 1 + pz m.length = L at *
      have heq1 : (((L : Int) + 16) % 128 = 0) := by omega
      have heq2 : (((L : Int) + 16).tmod 128 = 0) := by rw [Int.tmod_eq_emod_of_nonneg (by omega)]; omega
      have hLs : L ≤ 140737488353200 := by omega
      have e : (m ++ 128 :: List.replicate (pz m.length) 0).length = L := by simp; omega
      have ep : pad m = (m ++ 128 :: List.replicate (pz m.length) 0) ++ (List.replicate 8 0 ++ be8 (8 * m.length)) := rfl
      replace ep := Lib.hid ep
      generalize m ++ 128 :: List.replicate (pz m.length) 0 = M0 at *
      have q8 : IntKind.u64.wrap (8 * (m.length : Int)) = ((8 * m.length : Nat) : Int) := by rw [IntKind.wrap_u64]; omega
      generalize 8 * m.length = q at *
      subst e
      go_wp2_with (first
        | (at_builtin
           refine wpl_app_made bytesT rfl rfl Try.underlying3 rfl (.tmp 27) (.tmp 30) rfl rfl H.out.ow 8 rfl (by omega) (by omega) ?_
           intro v' w9 o9 k9 f9
           obtain ⟨A2, c2, hv', hlc'⟩ := o9.shape
           subst hv'
           have H1 := Lib.hid (show New w w9 (.slice A2 (M0.length + 8) c2) (M0 ++ List.replicate 8 0) from H.out.step (by rw [List.length_append, List.length_replicate]; simpa [bv, byteV] using o9) k9 H.out.old (by
             rcases f9 with e | e
             · exact .inl e
             · exact .inr ⟨_, e, H.out.kept.size⟩))
           clear o9 k9 f9 H))
      clear heq1 heq2 heq
      obtain ⟨M1, hM1⟩ : ∃ M1, M1 = M0 ++ List.replicate 8 (0 : UInt8) := ⟨_, rfl⟩
      have hl1 : M0.length + 8 = M1.length := by rw [hM1, List.length_append, List.length_replicate]
      have H := Lib.hid (show New w _ (.slice A2 M1.length c2) M1 from by rw [← hl1, hM1]; exact H1.out)
      replace ep := Lib.hid (show pad m = M1 ++ be8 q from by rw [ep.out, hM1, List.append_assoc])
      rw [hl1]
      have hLs1 : M1.length ≤ 140737488353300 := by omega
      clear H1 hM1 hl1 hLs
      generalize M1 = M0 at *
      go_loopg [5, 7] 8 (fun fu o i wk => ∃ (j : Nat) (A : Option Addr) (c : Nat), j ≤ 8 ∧ fu + j = 8 ∧ i = .int .i64 (56 - 8 * (j : Int)) ∧ o = .slice A (M0.length + j) c ∧ Hid (New w wk (.slice A (M0.length + j) c) (M0 ++ (be8 q).take j)))
      case atStart => exact ⟨0, A2, c2, by omega, by omega, rfl, rfl, by simpa using H⟩
      case round =>
        clear H
        obtain ⟨j, A, c, hj8, hfu8, rfl, rfl, H⟩ := hrel
        have el : (M0 ++ (be8 q).take j).length = M0.length + j := by rw [List.length_append, List.length_take, be8_len]; omega
        by_cases hlt8 : j < 8
        · have h0 : (0 : Int) ≤ 56 - 8 * (j : Int) := by omega
          have hb8 := be8_byte q j hlt8
          have hbt := be8_take q j hlt8
          generalize UInt8.ofNat (q / 256 ^ (7 - j)) = x at *
          replace hbt := Lib.hid hbt
          replace el := Lib.hid el
          have hb9 := Lib.hid hb8
          clear hb8
          go_wp2_with (first
            | ((with_reducible refine wpl_at 43 ?_); (refine wpl_bslice1 (o := ⟨some 43, _, _, _, _, _⟩) (v0 := byteV x) (cells := (bv [x]).toArray) rfl bytesT rfl hb9.out (by decide) rfl rfl ?_); intro g7 w7 m7
               have b7 := Lib.hid (show Rd w7 1 (.slice (some ⟨g7, 0, none⟩) 1 1) 1 (bv [x]) from ⟨_, _, rfl, rfl, by omega, fun _ => ⟨g7, 0, rfl, fun j u hu => by rw [m7.blk.cell]; simpa using hu⟩⟩)
               have k7 := Lib.hid m7.kept
               clear m7)
            | (at_builtin
               refine wpl_app (n := M0.length + j) (m := 1) bytesT rfl (.tmp 36) (.tmp 43) rfl rfl (by have := H.out.ow.kept0 k7.out; rw [el.out] at this; exact this) rfl b7.out (one_bv _) (by omega) (by omega) ?_
               intro v' w9 o9 k9 f9
               obtain ⟨A3, c3, hv', hlc'⟩ := o9.shape
               subst hv'
               replace H := Lib.hid (H.out.app1 k7.out (by rw [el.out]; exact o9) k9 f9)
               clear o9 k9 f9 k7 b7))
          go_roundg (8 - (j + 1))
          case measure => omega
          case rel =>
            refine ⟨j + 1, A3, c3, by omega, by omega, by go_num, rfl, ?_⟩
            rw [hbt.out, ← List.append_assoc]
            exact H
        · obtain rfl : j = 8 := by omega
          have et : (be8 q).take 8 = be8 q := List.take_of_length_le (by rw [be8_len]; omega)
          rw [et] at H
          clear el et
          go_wp2_with fail
          go_ret
          rw [ep.out]
          exact ⟨_, rfl, H.out⟩
end Go.Proofs.Ytdbngnlpafcogaa.Q
