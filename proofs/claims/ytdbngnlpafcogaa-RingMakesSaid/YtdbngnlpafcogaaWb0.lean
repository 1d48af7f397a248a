/-
  Bytes cloned; a number's bytes.
-/
import Derived.Test.YtdbngnlpafcogaaWb0a
namespace Go.Proofs.Ytdbngnlpafcogaa
open Go.RowKit Go.Mem
theorem clone_any (v : Value) (xs : List UInt8) (w : World) (hr : Rd w 1 v xs.length (bv xs)) (hx : xs.length ≤ 140737488355328) :
    Calls Try.prog 60 #[v] w fun e w' => ∃ v', e = .returned v' ∧ New w w' v' xs := by
  obtain ⟨A, c, hv, hl, hc, hcell⟩ := hr
  cases A with
  | none =>
    have h0 : xs = [] := by
      rcases Nat.eq_zero_or_pos xs.length with h | h
      · exact List.eq_nil_of_length_eq_zero h
      · obtain ⟨b, o, h, _⟩ := hcell h; cases h
    subst h0
    subst hv
    go_enter Try.func60, Try.ntmps60
    go_wp2
    go_ret
    exact ⟨_, rfl, Ow.nil _ _ _, Kept.refl _ _, .inl rfl⟩
  | some ad =>
    have hrd : Rd w 1 (.slice (some ad) xs.length c) xs.length (bv xs) := ⟨_, _, rfl, hl, hc, hcell⟩
    have H := Lib.hid hrd
    clear hrd hl hcell
    subst hv
    go_enter Try.func60, Try.ntmps60
    go_wp2_with (at_builtin; refine wpl_app bytesT rfl (.tmp 5) (.tmp 6) rfl rfl (xs := []) (n := 0) (Ow.of_own (own_alloc_at (by simp) rfl rfl (by omega))) rfl (H.out.alloc _) (one_bv _) ?_ ?_ ?_)
    case refine_1 => omega
    case refine_2 => omega
    intro v' w' hown hk hb
    go_wp2
    go_ret
    have hk0 : Kept [] w w' := Kept.fresh ((Kept.refl [] w).alloc _) hk (by simp [Value.ownBlock])
    refine ⟨_, rfl, by simpa using hown, hk0, ?_⟩
    rcases hb with hb | hb
    · exact .inr ⟨_, hb, Nat.le_refl _⟩
    · exact .inr ⟨_, hb, by simp⟩

theorem number_any (b : Value) (bs : List UInt8) (v : Nat) (w : World) (hr : Rd w 1 b bs.length (bv bs)) (hb : bs.length ≤ 140737488355320) (_ : v < 18446744073709551616) :
    Calls Try.prog 56 #[b, .int .u64 v] w fun e w' => ∃ v', e = .returned v' ∧ New w w' v' (bs ++ be8 v) := by
  have hr2 := Lib.hid hr
  obtain ⟨A, c, rfl, _, _, _⟩ := hr
  go_enter Try.func56, Try.ntmps56
  go_wp2_with (go_at_call 60; refine (clone_any _ bs w hr2.out (by omega)).mono ?_; rintro e w1 ⟨ov, rfl, hn⟩)
  go_loopg [5, 6] 8 (fun g ov i wk => ∃ j : Nat, g + j = 8 ∧ i = .int .i64 (56 - 8 * (j : Int)) ∧ New w wk ov (bs ++ (be8 v).take j))
  case atStart => exact ⟨0, rfl, rfl, by simpa using hn⟩
  case round =>
    obtain ⟨j, hj, rfl, hn⟩ := hrel
    by_cases hlt : j < 8
    · have h0 : (0 : Int) ≤ 56 - 8 * (j : Int) := by omega
      have hl : (bs ++ (be8 v).take j).length = bs.length + j := by rw [List.length_append, List.length_take, be8_len]; omega
      obtain ⟨OA, oc, hov, _⟩ := hn.ow.shape
      rw [hl] at hov
      subst hov
      have hn2 := Lib.hid hn
      have hl2 := Lib.hid hl
      clear hn hl
      go_wp2_with (at_builtin; refine wpl_app bytesT rfl (.tmp 13) (.tmp 19) rfl rfl (hn2.out.ow.alloc _) rfl (m := 1) (news := bv [UInt8.ofNat (v / 256 ^ (7 - j))]) (Rd.alloc_at rfl (by simp [be8_byte v j hlt]) rfl (by omega)) (one_bv _) ?_ ?_ ?_)
      case refine_1 => rw [hl2.out]; omega
      case refine_2 => rw [hl2.out]; omega
      intro v' w2 hown hk2 hb2
      have hown2 : Ow w2 5 1 v' (bs ++ (be8 v).take (j + 1)).length (bv (bs ++ (be8 v).take (j + 1))) := by
        have e : bs ++ (be8 v).take (j + 1) = (bs ++ (be8 v).take j) ++ [UInt8.ofNat (v / 256 ^ (7 - j))] := by rw [be8_take v j hlt, List.append_assoc]
        rw [e, List.length_append]
        simpa [bv] using hown
      have hn3 : New w w2 v' (bs ++ (be8 v).take (j + 1)) := hn2.out.step hown2 (((Kept.refl _ wr).alloc _).trans' hk2) (hn2.out.old) (by
        rcases hb2 with h | h
        · exact .inl h
        · exact .inr ⟨_, h, by have := hn2.out.kept.size; simp; omega⟩)
      clear hown hk2 hb2 hown2
      go_wp2_with fail
      go_roundg (8 - (j + 1))
      case measure => omega
      case rel => exact ⟨j + 1, by omega, by go_num, hn3⟩
    · obtain rfl : j = 8 := by omega
      have hn2 := Lib.hid hn
      clear hn
      go_wp2_with fail
      go_ret
      exact ⟨_, rfl, by have := hn2.out; rwa [List.take_of_length_le (by rw [be8_len]; omega)] at this⟩

end Go.Proofs.Ytdbngnlpafcogaa
