/-
  The wire: bytes are written.
-/
import Derived.Test.YtbhjhfemicbhaaaRows
import Derived.Test.YtbhjhfemicbhaaaMem5
import Derived.Test.YtbhjhfemicbhaaaText4
import Derived.WalkKit
import Derived.WalkSpells
import Derived.WalkLawsBesides
import Derived.Deep.LoopGhost
import Derived.Deep.DeepCutAuto
import Derived.Deep.CutBlock
namespace Go.Proofs.Ytbhjhfemicbhaaa
open Go.RowKit Go.Mem

theorem bytesT : SliceT Try.prog 24 5 1 1 (.int .u8 0) := ⟨Try.underlying24, by kernel_rfl, rfl, by omega⟩

@[go_sem] theorem eqnilB (A : Option Addr) (n c n' c' : Nat) (w : World) : (binOp .eql 24 (.slice A n c) (.slice none n' c')).run Try.prog w = .ok (.bool A.isNone) w := run_eqnil Try.underlying24 A n c n' c' w

/-- A row of bytes that was not there before. -/
structure New (w w' : World) (v : Value) (xs : List UInt8) : Prop where
  ow : Ow w' 5 1 v xs.length (bv xs)
  kept : Kept [] w w'
  near : Near none w.heap.size v

theorem clone_any (v : Value) (xs : List UInt8) (w : World) (hr : Rd w 1 v xs.length (bv xs)) (hx : xs.length ≤ 140737488355328) :
    Calls Try.prog 28 #[v] w fun e w' => ∃ v', e = .returned v' ∧ New w w' v' xs := by
  obtain ⟨A, c, hv, hl, hc, hcell⟩ := hr
  cases A with
  | none =>
    have h0 : xs = [] := by
      rcases Nat.eq_zero_or_pos xs.length with h | h
      · exact List.eq_nil_of_length_eq_zero h
      · obtain ⟨b, o, h, _⟩ := hcell h; cases h
    subst h0
    subst hv
    go_enter Try.func28, Try.ntmps28
    go_wp2
    go_ret
    exact ⟨_, rfl, Ow.nil _ _ _, Kept.refl _ _, .inl rfl⟩
  | some ad =>
    have hrd : Rd w 1 (.slice (some ad) xs.length c) xs.length (bv xs) := ⟨_, _, rfl, hl, hc, hcell⟩
    have H := Lib.hid hrd
    clear hrd hl hcell
    subst hv
    go_enter Try.func28, Try.ntmps28
    go_wp2_with (at_builtin; refine wpl_app bytesT rfl (.tmp 5) (.tmp 6) rfl rfl (xs := []) (n := 0) (Ow.of_own (own_alloc_at (by simp) rfl rfl (by omega))) rfl (H.out.alloc _) (one_bv _) ?_ ?_ ?_)
    case refine_1 => omega
    case refine_2 => omega
    intro v' w' hown hk hb
    go_wp2
    go_ret
    have hk0 : Kept [] w w' := Kept.fresh ((Kept.refl [] w).alloc _) hk (by simp [Value.ownBlock])
    refine ⟨_, rfl, by simpa using hown, hk0, ?_⟩
    rcases hb with hb | hb
    · exact .inr ⟨_, hb, Nat.le_refl _⟩
    · exact .inr ⟨_, hb, by simp⟩

/-- A number's eight bytes. -/
def be8 (v : Nat) : List UInt8 := (List.range 8).map fun j => UInt8.ofNat (v / 256 ^ (7 - j))

theorem be8_len (v : Nat) : (be8 v).length = 8 := by simp [be8]
theorem be8_take (v j : Nat) (h : j < 8) : (be8 v).take (j + 1) = (be8 v).take j ++ [UInt8.ofNat (v / 256 ^ (7 - j))] := by
  rw [List.take_succ_eq_append_getElem (by rw [be8_len]; exact h)]
  simp [be8]
theorem be8_byte (v j : Nat) (h : j < 8) : Value.int .u8 ((v : Int) / 2 ^ (56 - 8 * j) % 256) = byteV (UInt8.ofNat (v / 256 ^ (7 - j))) := by
  have e : (2 : Nat) ^ (56 - 8 * j) = 256 ^ (7 - j) := by
    have : j = 0 ∨ j = 1 ∨ j = 2 ∨ j = 3 ∨ j = 4 ∨ j = 5 ∨ j = 6 ∨ j = 7 := by omega
    rcases this with rfl | rfl | rfl | rfl | rfl | rfl | rfl | rfl <;> rfl
  unfold byteV
  rw [UInt8.toNat_ofNat', ← e]
  simp

theorem New.step {w w1 w2 : World} {v v' : Value} {xs ys : List UInt8} (h : New w w1 v xs) {S : List Nat} (ho : Ow w2 5 1 v' ys.length (bv ys)) (hk : Kept S w1 w2) (hS : ∀ k ∈ S, w.heap.size ≤ k) (hb : v'.ownBlock = v.ownBlock ∨ ∃ k, v'.ownBlock = some k ∧ w.heap.size ≤ k) : New w w2 v' ys := by
  refine ⟨ho, h.kept.fresh hk hS, ?_⟩
  rcases hb with hb | ⟨k, hb, hk⟩
  · rcases h.near with h | ⟨g, h, hg⟩
    · exact .inl (hb.trans h)
    · exact .inr ⟨g, hb.trans h, hg⟩
  · exact .inr ⟨k, hb, hk⟩
theorem New.old {w w1 : World} {v : Value} {xs : List UInt8} (h : New w w1 v xs) : ∀ k ∈ v.ownBlock.toList, w.heap.size ≤ k := by
  intro k hk
  have hk := mem_own hk
  rcases h.near with h | ⟨g, h, hg⟩
  · rw [hk] at h; cases h
  · rw [hk] at h; have : k = g := by simpa using h
    omega

theorem number_any (b : Value) (bs : List UInt8) (v : Nat) (w : World) (hr : Rd w 1 b bs.length (bv bs)) (hb : bs.length ≤ 140737488355320) (_ : v < 18446744073709551616) :
    Calls Try.prog 10 #[b, .int .u64 v] w fun e w' => ∃ v', e = .returned v' ∧ New w w' v' (bs ++ be8 v) := by
  have hr2 := Lib.hid hr
  obtain ⟨A, c, rfl, _, _, _⟩ := hr
  go_enter Try.func10, Try.ntmps10
  go_wp2_with (go_at_call 28; refine (clone_any _ bs w hr2.out (by omega)).mono ?_; rintro e w1 ⟨ov, rfl, hn⟩)
  go_loopg [5, 6] 8 (fun g ov i wk => ∃ j : Nat, g + j = 8 ∧ i = .int .i64 (56 - 8 * (j : Int)) ∧ New w wk ov (bs ++ (be8 v).take j))
  case atStart => exact ⟨0, rfl, rfl, by simpa using hn⟩
  case round =>
    obtain ⟨j, hj, rfl, hn⟩ := hrel
    by_cases hlt : j < 8
    · have h0 : (0 : Int) ≤ 56 - 8 * (j : Int) := by omega
      have hl : (bs ++ (be8 v).take j).length = bs.length + j := by rw [List.length_append, List.length_take, be8_len]; omega
      obtain ⟨OA, oc, hov, _⟩ := hn.ow.shape
      rw [hl] at hov
      subst hov
      have hn2 := Lib.hid hn
      have hl2 := Lib.hid hl
      clear hn hl
      go_wp2_with (at_builtin; refine wpl_app bytesT rfl (.tmp 13) (.tmp 19) rfl rfl (hn2.out.ow.alloc _) rfl (m := 1) (news := bv [UInt8.ofNat (v / 256 ^ (7 - j))]) (Rd.alloc_at rfl (by simp [be8_byte v j hlt]) rfl (by omega)) (one_bv _) ?_ ?_ ?_)
      case refine_1 => rw [hl2.out]; omega
      case refine_2 => rw [hl2.out]; omega
      intro v' w2 hown hk2 hb2
      have hown2 : Ow w2 5 1 v' (bs ++ (be8 v).take (j + 1)).length (bv (bs ++ (be8 v).take (j + 1))) := by
        have e : bs ++ (be8 v).take (j + 1) = (bs ++ (be8 v).take j) ++ [UInt8.ofNat (v / 256 ^ (7 - j))] := by rw [be8_take v j hlt, List.append_assoc]
        rw [e, List.length_append]
        simpa [bv] using hown
      have hn3 : New w w2 v' (bs ++ (be8 v).take (j + 1)) := hn2.out.step hown2 (((Kept.refl _ wr).alloc _).trans' hk2) (hn2.out.old) (by
        rcases hb2 with h | h
        · exact .inl h
        · exact .inr ⟨_, h, by have := hn2.out.kept.size; simp; omega⟩)
      clear hown hk2 hb2 hown2
      go_wp2_with fail
      go_roundg (8 - (j + 1))
      case measure => omega
      case rel => exact ⟨j + 1, by omega, by go_num, hn3⟩
    · obtain rfl : j = 8 := by omega
      have hn2 := Lib.hid hn
      clear hn
      go_wp2_with fail
      go_ret
      exact ⟨_, rfl, by have := hn2.out; rwa [List.take_of_length_le (by rw [be8_len]; omega)] at this⟩

/-- Bytes in their form. -/
def form (x : List UInt8) : List UInt8 := be8 x.length ++ x

theorem bytes_any (b x : Value) (bs xs : List UInt8) (w : World) (hr : Rd w 1 b bs.length (bv bs)) (hx : Rd w 1 x xs.length (bv xs)) (hb : bs.length + xs.length ≤ 140737488355320) :
    Calls Try.prog 9 #[b, x] w fun e w' => ∃ v', e = .returned v' ∧ New w w' v' (bs ++ form xs) := by
  have hr2 := Lib.hid hr
  have hx2 := Lib.hid hx
  obtain ⟨A, c, rfl, _, _, _⟩ := hx
  have hl : (bs ++ be8 xs.length).length = bs.length + 8 := by rw [List.length_append, be8_len]
  have hl2 := Lib.hid hl
  clear hr hl
  go_enter Try.func9, Try.ntmps9
  go_wp2_with (first
    | (go_at_call 10; refine (number_any _ bs xs.length w hr2.out (by omega) (by omega)).mono ?_; rintro e w1 ⟨ov, rfl, hn⟩; obtain ⟨OA, oc, hov, _⟩ := hn.ow.shape; rw [hl2.out] at hov; subst hov; have hn2 := Lib.hid hn; clear hn)
    | (at_builtin; refine wpl_app bytesT rfl (.tmp 9) (.tmp 10) rfl rfl hn2.out.ow rfl (hx2.out.kept0 hn2.out.kept) (one_bv _) ?_ ?_ ?_))
  case refine_1 => rw [hl2.out]; omega
  case refine_2 => rw [hl2.out]; omega
  intro v' w2 hown hk2 hb2
  have hn3 : New w w2 v' (bs ++ form xs) := hn2.out.step (by
    have e : bs ++ form xs = (bs ++ be8 xs.length) ++ xs := by simp [form]
    rw [e, List.length_append]
    simpa [bv] using hown) hk2 hn2.out.old (by
    rcases hb2 with h | h
    · exact .inl h
    · exact .inr ⟨_, h, hn2.out.kept.size⟩)
  clear hown hk2 hb2
  go_wp2_with fail
  go_ret
  exact ⟨_, rfl, hn3⟩

end Go.Proofs.Ytbhjhfemicbhaaa
