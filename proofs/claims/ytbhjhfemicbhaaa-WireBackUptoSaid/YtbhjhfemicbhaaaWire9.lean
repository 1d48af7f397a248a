/-
  The wire: pieces joined are read as one piece behind the other (WireJoins).
-/
import Derived.Test.YtbhjhfemicbhaaaWire8
namespace Go.Proofs.Ytbhjhfemicbhaaa
open Go.RowKit Go.Mem

abbrev nv (l : List Nat) : List Value := l.map fun (x : Nat) => Value.int .u64 x
def all8 (l : List Nat) : List UInt8 := l.flatMap be8
theorem all8_len (l : List Nat) : (all8 l).length = 8 * l.length := by
  induction l with
  | nil => rfl
  | cons x l ih => simp [all8, be8_len] at ih ⊢; omega
theorem all8_succ (l : List Nat) (k : Nat) (h : k < l.length) : all8 (l.take (k + 1)) = all8 (l.take k) ++ be8 l[k] := by
  unfold all8
  rw [List.take_succ_eq_append_getElem h, List.flatMap_append]; simp
theorem all8_drop (l : List Nat) (k : Nat) (h : k < l.length) : all8 (l.drop k) = be8 l[k] ++ all8 (l.drop (k + 1)) := by
  unfold all8
  rw [List.drop_eq_getElem_cons h, List.flatMap_cons]
theorem sNum_be8' (n : Nat) (r : List UInt8) (h : n < 18446744073709551616) : sNum (0, be8 n ++ r) = (n, (0, r)) := by
  have h1 : sTake 8 (0, be8 n ++ r) = (be8 n, (0, r)) := by
    unfold sTake
    rw [if_pos rfl, if_pos (by simp [be8_len])]
    simp only
    rw [List.take_left' (by rw [be8_len]), List.drop_left' (by rw [be8_len])]
  unfold sNum
  rw [h1, beV_be8' n h]
theorem modn (x : Int) (n : Nat) (h : n ≤ 400) : ∃ k : Nat, (IntKind.u64.wrap x).tmod ((n : Int) + 1) = k ∧ k ≤ n := by
  rw [IntKind.wrap_u64]
  have h0 : 0 ≤ x % 18446744073709551616 := Int.emod_nonneg _ (by omega)
  rw [Int.tmod_eq_emod_of_nonneg h0]
  have h1 := Int.emod_nonneg (x % 18446744073709551616) (show ((n : Int) + 1) ≠ 0 by omega)
  have h2 := Int.emod_lt_of_pos (x % 18446744073709551616) (show 0 < ((n : Int) + 1) by omega)
  exact ⟨(x % 18446744073709551616 % ((n : Int) + 1)).toNat, by omega, by omega⟩

theorem numsT : SliceT Try.prog 47 27 1 8 (.int .u64 0) := ⟨Try.underlying47, by kernel_rfl, rfl, by omega⟩

set_option maxRecDepth 100000 in
set_option maxHeartbeats 2000000 in
theorem joins_walk (v : Value) (l : List Nat) (x : Int) (w : World) (hr : Rd w 1 v l.length (nv l)) (hl : l.length ≤ 9223372036854775807) (hw : ∀ z ∈ l, z < 18446744073709551616) :
    Calls Try.prog 6 #[v, .int .i64 x] w fun e w' => e = .returned (.bool true) ∧ Kept [] w w' := by
  obtain ⟨A, c, rfl, hxl, hc, hx⟩ := hr
  have rC : ∀ m, m ≤ l.length → Rd w 1 (.slice A m c) m (nv (l.take m)) := by
    intro m hm
    refine ⟨A, c, rfl, by simp [nv]; omega, by omega, fun h => ?_⟩
    obtain ⟨b, o, rfl, hcell⟩ := hx (by omega)
    refine ⟨b, o, rfl, fun j u hu => hcell j u ?_⟩
    have hj : j < m := by
      rcases Nat.lt_or_ge j m with h | h
      · exact h
      · rw [List.getElem?_eq_none (by simp [nv]; omega)] at hu; cases hu
    rw [← hu]
    simp [nv, hj]
  have rC2 := Lib.hid rC
  clear rC hxl hx
  go_enter Try.func6, Try.ntmps6
  go_wp2_with (go_at_call 8; refine (first_true _).mono ?_; rintro e w1 ⟨rfl, hk⟩; have k1 := Lib.hid hk; clear hk)
  case' inl => obtain ⟨ls, hls, rL⟩ : ∃ ls : List Nat, ls.length = 50 ∧ (Rd w 1 (.slice A 50 c) 50 (nv ls) ∧ (∀ z ∈ ls, z < 18446744073709551616)) := ⟨l.take 50, by rw [List.length_take]; omega, ⟨rC2.out 50 (by omega), fun z hz => hw z (List.mem_of_mem_take hz)⟩⟩
  case' inr => obtain ⟨ls, hls, rL⟩ : ∃ ls : List Nat, ls.length = l.length ∧ (Rd w 1 (.slice A l.length c) l.length (nv ls) ∧ (∀ z ∈ ls, z < 18446744073709551616)) := ⟨l.take l.length, by rw [List.length_take]; omega, ⟨rC2.out l.length (by omega), fun z hz => hw z (List.mem_of_mem_take hz)⟩⟩
  all_goals
    have hls50 : ls.length ≤ 50 := by omega
    have rL2 := Lib.hid rL
    clear rL
    go_loopg [5, 22] ls.length (fun g ov i wk => ∃ k : Nat, g + k = ls.length ∧ i = .int .i64 k ∧ New w1 wk ov (all8 (ls.take k)))
    case atStart => exact ⟨0, by omega, rfl, by simpa [all8] using New.nil w1⟩
    case round =>
      obtain ⟨k, hk, rfl, hn⟩ := hrel
      by_cases hlt : k < ls.length
      · obtain ⟨b, o, c2, heq, _, hcell⟩ := (rL2.out.1.kept0 (k1.out.then0 hn.kept)).at_ (by omega)
        have hz := rL2.out.2 ls[k] (List.getElem_mem _)
        have hcl := hcell k (.int .u64 ls[k]) (by simp [nv, hlt])
        have hsc := all8_succ ls k hlt
        have hsl := all8_len (ls.take k)
        rw [List.length_take] at hsl
        cases heq
        generalize hzz : ls[k] = z at *
        have hn2 := Lib.hid hn
        have hsc2 := Lib.hid hsc
        have hsl2 := Lib.hid hsl
        clear hcell hn hsc hsl hzz
        go_wp2_with (go_at_call 10; refine (number_any _ (all8 (ls.take k)) z _ (Rd.of_ow hn2.out.ow) (by have := hsl2.out; omega) hz).mono ?_; rintro e w2 ⟨ov, rfl, hw⟩; have hn3 := Lib.hid (hn2.out.next hw); clear hw)
        go_roundg (ls.length - (k + 1))
        case measure => omega
        case rel => exact ⟨k + 1, by omega, by go_num, by rw [hsc2.out]; exact hn3.out⟩
      · rw [show k = ls.length from by omega, List.take_length] at hn
        obtain ⟨L, hL⟩ : ∃ L, L = (all8 ls).length := ⟨_, rfl⟩
        have hL4 : L ≤ 400 := by rw [hL, all8_len]; omega
        obtain ⟨q, hq, hqL⟩ := modn x L hL4
        obtain ⟨OA, oc, rfl, _⟩ := hn.ow.shape
        rw [← hL] at hn
        have hrd : Rd wr 1 (.slice OA L oc) L (bv (all8 ls)) := by have := Rd.of_ow hn.ow; rwa [← hL] at this
        obtain ⟨X1, dX1, hX1, rX1, _, _⟩ := cut_to bytesT hrd .i64 q hqL
        obtain ⟨X2, dX2, hX2, rX2, _, _⟩ := cut_from bytesT hrd .i64 q hqL
        have hn2 := Lib.hid hn
        have rX3 := Lib.hid rX1
        have rX4 := Lib.hid rX2
        have hL2 := Lib.hid hL
        rw [← hL]
        clear hn hrd rX1 rX2 hL
        go_wp2_with fail
        refine Txt.wp_text (by kernel_rfl) (by kernel_rfl) ?_
        go_wp2_with fail
        have hps : Parts (wr.alloc (.cells #[.slice X1 q dX1, .slice none 0 0, .slice X2 (L - q) dX2] 24)).drew (.slice (some ⟨wr.heap.size, 0, none⟩) 3 3) [(.slice X1 q dX1, (all8 ls).take q), (.slice none 0 0, []), (.slice X2 (L - q) dX2, (all8 ls).drop q)] := by
          refine ⟨Rd.drew (Rd.alloc_at (n := 3) rfl rfl rfl (by omega)), fun y hy => ?_⟩
          have hLL := hL2.out
          simp only [List.mem_cons, List.mem_nil_iff, or_false] at hy
          rcases hy with rfl | rfl | rfl
          · have e : ((all8 ls).take q).length = q := by rw [List.length_take]; omega
            have := (rX3.out.alloc (.cells #[.slice X1 q dX1, .slice none 0 0, .slice X2 (L - q) dX2] 24)).drew
            dsimp only
            rw [e]
            simpa [bv] using this
          · exact Rd.nil _ _
          · have e : ((all8 ls).drop q).length = L - q := by rw [List.length_drop]; omega
            have := (rX4.out.alloc (.cells #[.slice X1 q dX1, .slice none 0 0, .slice X2 (L - q) dX2] 24)).drew
            dsimp only
            rw [e]
            simpa [bv] using this
        have hjn : joined [(Value.slice X1 q dX1, (all8 ls).take q), (.slice none 0 0, []), (.slice X2 (L - q) dX2, (all8 ls).drop q)] = all8 ls := by simp [joined]
        refine (join_any _ _ _ hps (by simp) (by rw [hjn, ← hL2.out]; omega)).mono ?_
        rw [hjn]
        rintro e w2 ⟨jv, rfl, hj⟩
        have hj2 := Lib.hid hj
        clear hj hps hjn hX1 hX2
        go_wp2_with fail
        refine (new_any _ _ _ (Rd.of_ow hj2.out.ow) (by rw [← hL2.out]; omega)).mono ?_
        rintro e w3 ⟨r, rfl, hr, hk3, hle⟩
        have hr2 := Lib.hid hr
        have k3 := Lib.hid ((((hn2.out.kept.alloc _).drew).then0 hj2.out.kept).then0 hk3)
        have hle2 := Lib.hid (Nat.le_trans (((hn2.out.kept.alloc _).drew).then0 hj2.out.kept).size hle)
        clear hr hk3 hle
        go_wp2_with fail
        refine ⟨rfl, by kernel_rfl, ?_⟩
        go_wp2_with fail
        go_loopg [49] ls.length (fun g i wk => ∃ k : Nat, g + k = ls.length ∧ i = .int .i64 k ∧ RdrA wk r (0, all8 (ls.drop k)) ∧ Kept [] w1 wk)
        case atStart => exact ⟨0, by omega, rfl, hr2.out, k3.out⟩
        case round =>
          obtain ⟨k, hk, rfl, hrk, hkk⟩ := hrel
          by_cases hlt2 : k < ls.length
          · obtain ⟨b, o, c2, heq, _, hcell⟩ := (rL2.out.1.kept0 (k1.out.then0 hkk)).at_ (by omega)
            have hz := rL2.out.2 ls[k] (List.getElem_mem _)
            have hcl := hcell k (.int .u64 ls[k]) (by simp [nv, hlt2])
            have hs8 := sNum_be8' ls[k] (all8 (ls.drop (k + 1))) hz
            rw [all8_drop ls k hlt2] at hrk
            cases heq
            generalize hzz : ls[k] = z at *
            have hrk2 := Lib.hid hrk
            have hkk2 := Lib.hid hkk
            have hs82 := Lib.hid hs8
            clear hcell hrk hkk hs8 hzz
            go_wp2_with (go_at_call 15; refine (number_read _ _ _ hrk2.out).mono ?_; rw [hs82.out]; rintro e w4 ⟨rfl, hr5, hk5⟩; have hr6 := Lib.hid hr5; have hk6 := Lib.hid (kfresh hkk2.out hk5 (Nat.le_trans (Nat.le_refl _) hle2.out)); clear hr5 hk5)
            go_roundg (ls.length - (k + 1))
            case measure => omega
            case rel => exact ⟨k + 1, by omega, by go_num, hr6.out, hk6.out⟩
          · rw [show ls.drop k = [] from List.drop_eq_nil_of_le (by omega)] at hrk
            have hL8 : (L : Int) = 8 * (ls.length : Int) := by have := hL2.out; rw [all8_len] at this; omega
            have s1 : sNum (0, []) = (0, (10, [])) := by decide
            have s0 : sDone (0, all8 []) = 0 := rfl
            have s2 : sDone (10, []) = 10 := rfl
            rw [hls] at hL8
            have hrk2 := Lib.hid hrk
            have hkk2 := Lib.hid hkk
            clear hrk hkk
            go_wp2_with fail
            refine (done_any _ _ _ hrk2.out).mono ?_
            rintro e w' ⟨rfl, rfl⟩
            go_wp2_with fail
            refine (number_read _ _ _ hrk2.out).mono ?_
            rw [show sNum (0, all8 []) = (0, (10, [])) from s1]
            rintro e w4 ⟨rfl, hr5, hk5⟩
            have hr6 := Lib.hid hr5
            have hk6 := Lib.hid (kfresh hkk2.out hk5 hle2.out)
            clear hr5 hk5
            go_wp2_with fail
            refine (done_any _ _ _ hr6.out).mono ?_
            rintro e w' ⟨rfl, rfl⟩
            go_wp2_with fail
            go_ret
            exact ⟨rfl, k1.out.then0 hk6.out⟩

end Go.Proofs.Ytbhjhfemicbhaaa
