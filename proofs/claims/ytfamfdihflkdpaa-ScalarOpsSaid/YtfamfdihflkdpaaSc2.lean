/-
  Scalars: what the machine's words do: carried sums, borrowed differences; the order.
-/
import Derived.Test.YtfamfdihflkdpaaSc1
import Derived.Test.YtfamfdihflkdpaaArr
import Derived.Test.YtfamfdihflkdpaaText2
import Derived.Laws.Externs
import Derived.Laws.Bits64b
import Derived.Laws.Shifts
import Derived.WalkKit
import Derived.WalkSpells
import Derived.WalkLawsBesides
import Derived.Deep.LoopGhost
import Derived.Deep.DeepCutAuto
import Derived.Deep.CutBlock
namespace Go.Proofs.Ytfamfdihflkdpaa
open Go.RowKit Go.Mem

theorem arrW : ArrT Try.prog 25 24 4 := ⟨Try.underlying25, by kernel_rfl⟩

theorem zeroW : (Try.prog.info? 25).map (·.zero) = some (some (.agg #[.int .u64 0, .int .u64 0, .int .u64 0, .int .u64 0])) := by kernel_rfl

theorem call_add64 (x y c : Nat) (hc : c ≤ 1) (w : World) : (callFunc 22 #[.int .u64 x, .int .u64 y, .int .u64 c]).run Try.prog w =
    .ok (.value (.tuple #[.int .u64 ((x + y + c) % 18446744073709551616 : Nat), .int .u64 ((x + y + c) / 18446744073709551616 : Nat)])) w := by
  rw [run_callFunc_extern (e := add64Entry) Try.func22 (by kernel_rfl) (by kernel_rfl) (by kernel_rfl) (by kernel_rfl)]
  rw [run_add64 _ _ _ (by omega) (by omega) (by omega) (by omega)]
  simp [Result.andThen]

theorem call_sub64 (x y b : Nat) (hb : b ≤ 1) (w : World) : (callFunc 29 #[.int .u64 x, .int .u64 y, .int .u64 b]).run Try.prog w =
    .ok (.value (.tuple #[.int .u64 ((x + 18446744073709551616 - y - b) % 18446744073709551616 : Nat), .int .u64 (if x < y + b then 1 else 0 : Nat)])) w := by
  have he : Extern.find Try.f29 = some (fun args => do
    let (x, y, b) ← Extern.MathBitsCarry.three "Sub64" args
    pure (Extern.MathBitsCarry.pair ((x + Extern.MathBitsCarry.m64 - y - b) % Extern.MathBitsCarry.m64) (if x < y + b then 1 else 0))) := by kernel_rfl
  rw [run_callFunc_extern Try.func29 (by kernel_rfl) (by kernel_rfl) (by kernel_rfl) he]
  have : b = 0 ∨ b = 1 := by omega
  rcases this with rfl | rfl
  · show Result.andThen (.ok (Extern.MathBitsCarry.pair ((x + Extern.MathBitsCarry.m64 - y - 0) % Extern.MathBitsCarry.m64) (if x < y + 0 then 1 else 0)) w) _ = _
    rfl
  · show Result.andThen (.ok (Extern.MathBitsCarry.pair ((x + Extern.MathBitsCarry.m64 - y - 1) % Extern.MathBitsCarry.m64) (if x < y + 1 then 1 else 0)) w) _ = _
    rfl

/-- The four words of x. -/
def ws4 (x : Nat) : List Nat := [wrd x 0, wrd x 1, wrd x 2, wrd x 3]
theorem ws4_len (x : Nat) : (ws4 x).length = 4 := rfl
theorem ws4_get (x k : Nat) (hk : k < 4) : (ws4 x)[k]'(hk) = wrd x k := by
  rcases four hk with rfl | rfl | rfl | rfl <;> rfl
/-- The array of them. -/
abbrev w4 (x : Nat) : Value := .agg (uv (ws4 x)).toArray
theorem ws4_congr {x y : Nat} (h : x % M4 = y % M4) : ws4 x = ws4 y := by
  unfold M4 at h
  unfold ws4
  rw [wrd0, wrd1, wrd2, wrd3, wrd0, wrd1, wrd2, wrd3]
  congr 1
  · omega
  · congr 1
    · omega
    · congr 1
      · omega
      · congr 1; omega

theorem w4_at (x k : Nat) (hk : k < 4) : (uv (ws4 x)).toArray[k]? = some (.int .u64 (wrd x k : Nat)) := by
  rcases four hk with rfl | rfl | rfl | rfl <;> rfl
theorem run_index_w4 (x k : Nat) (hk : k < 4) (w : World) : (Instr.index 25 (w4 x) (.int .i64 k)).run Try.prog w = .ok (.int .u64 (wrd x k : Nat)) w :=
  run_index_arr arrW Try.underlying24 rfl (by kernel_rfl) .i64 k hk (w4_at x k hk) w

abbrev zeroA : List Nat := [0, 0, 0, 0]
/-- The words written so far. -/
def pw (y k : Nat) : List Nat := over zeroA 0 ((ws4 y).take k)
theorem pw_len (y k : Nat) : (pw y k).length = 4 := by unfold pw; rw [over_len _ _ _ (by simp [ws4_len]; omega)]; rfl
theorem pw0 (y : Nat) : pw y 0 = zeroA := rfl
theorem pw4 (y : Nat) : pw y 4 = ws4 y := rfl
theorem pw_step {w : World} {g : Nat} {bt : TypeId} (y k : Nat) (hk : k < 4) (h : Blk w g bt (uv (pw y k)).toArray) : Blk (w.setCell ⟨g, k, none⟩ (.int .u64 (wrd y k : Nat))) g bt (uv (pw y (k + 1))).toArray := by
  have := h.set_ k (.int .u64 (wrd y k : Nat))
  have e := over_stepM (fun z : Nat => Value.int .u64 (z : Int)) zeroA (ws4 y) k hk (Nat.le_refl 4)
  rw [ws4_get y k hk] at e
  unfold pw at this ⊢
  rwa [e] at this
theorem pw_cell {w : World} {g : Nat} {bt : TypeId} (y k : Nat) (hk : k < 4) (h : Blk w g bt (uv (pw y k)).toArray) : ∃ u, w.cell? ⟨g, k, none⟩ = some u :=
  ⟨_, h.uget k (by rw [pw_len]; exact hk)⟩
theorem Blk.w4get {w : World} {g : Nat} {bt : TypeId} {x : Nat} (h : Blk w g bt (uv (ws4 x)).toArray) (k : Nat) (hk : k < 4) : w.cell? ⟨g, k, none⟩ = some (.int .u64 (wrd x k : Nat)) := by
  rw [h.cell]; exact w4_at x k hk

/-- The difference's low words. -/
def dif (x : Nat) : Nat := x + M4 - LL
theorem LL_lt : LL < M4 := by decide +kernel
theorem dif_mod (x : Nat) (h : LL ≤ x) : dif x % M4 = (x - LL) % M4 := by
  unfold dif
  rw [show x + M4 - LL = (x - LL) + M4 from by omega, Nat.add_mod_right]
theorem red_call (x k : Nat) (hk : k < 4) (hx : x < M4) (w : World) : (callFunc 29 #[.int .u64 (wrd x k : Nat), .int .u64 (wrd LL k : Nat), .int .u64 (bor x LL k : Nat)]).run Try.prog w =
    .ok (.value (.tuple #[.int .u64 (wrd (dif x) k : Nat), .int .u64 (bor x LL (k + 1) : Nat)])) w := by
  rw [call_sub64 _ _ _ (bor_le _ _ _), bor_step x LL k hk, sub_word x LL k hk hx (by decide +kernel)]
  rfl

theorem order_any (w : World) : Calls Try.prog 28 #[] w fun e w' => e = .returned (w4 LL) ∧ Kept [] w w' := by
  unfold w4 ws4
  rw [LL0, LL1, LL2, LL3]
  go_enter Try.func28, Try.ntmps28
  go_wp2_with fail
  exact ret_arr arrW rfl rfl (Blk.new _ _ _) rfl rfl ⟨rfl, (Kept.refl [] w).alloc _⟩

/-- Less L, if it is L or more. -/
def red (x : Nat) : Nat := if x < LL then x else x - LL
theorem red_lt {x : Nat} (h : x < LL) : red x = x := if_pos h
theorem red_ge {x : Nat} (h : ¬ x < LL) : red x = x - LL := if_neg h
theorem red_mod {x : Nat} (h : x < 2 * LL) : red x = x % LL := by
  unfold red
  split
  · rw [Nat.mod_eq_of_lt (by assumption)]
  · rw [Nat.mod_eq_sub_mod (by omega), Nat.mod_eq_of_lt (by omega)]

theorem reduced_any (x : Nat) (hx : x < M4) (w : World) : Calls Try.prog 23 #[w4 x] w fun e w' => e = .returned (w4 (red x)) ∧ Kept [] w w' := by
  have hx2 := Lib.hid hx
  clear hx
  go_enter Try.func23, Try.ntmps23
  go_wp2_with (first
    | ((with_reducible refine wpl_box (o := ⟨some 1, _, _, _, _, _⟩) (v := w4 x) rfl (.tmp 0) rfl rfl ?_); intro g1 w1 m1)
    | ((with_reducible refine wpl_new (o := ⟨some 2, _, _, _, _, _⟩) rfl rfl zeroW ?_); intro g2 w2 m2)
    | ((with_reducible refine wpl_new (o := ⟨some 3, _, _, _, _, _⟩) rfl rfl zeroW ?_); intro g3 w3 m3)
    | (go_at_call 28; refine (order_any _).mono ?_; rintro e w5 ⟨rfl, hk4⟩))
  have n13 := m3.ne (m2.kept.lt m1.blk.lt)
  have n23 := m3.ne m2.blk.lt
  have n12 := m2.ne m1.blk.lt
  have b1 := ((m1.blk.kept m2.kept (by simp)).kept m3.kept (by simp)).kept hk4 (by simp)
  have b2 := (m2.blk.kept m3.kept (by simp)).kept hk4 (by simp)
  have b3 := m3.blk.kept hk4 (by simp)
  have kw : Kept [] w w5 := ((m1.kept.then0 m2.kept).then0 m3.kept).then0 hk4
  have B := Lib.hid (And.intro b1 (And.intro b2 b3))
  have N := Lib.hid (And.intro n13 (And.intro n23 n12))
  have M := Lib.hid (And.intro kw (And.intro m1.le (And.intro (Nat.le_trans m1.kept.size m2.le) (Nat.le_trans (m1.kept.then0 m2.kept).size m3.le))))
  clear b1 b2 b3 n13 n23 n12 kw hk4 m1 m2 m3
  go_loopg [8, 4] 4 (fun g i b wk => ∃ k : Nat, k ≤ 4 ∧ g + k = 4 ∧ i = .int .i64 k ∧ b = .int .u64 (bor x LL k : Nat) ∧ Blk wk g3 25 (uv (pw (dif x) k)).toArray ∧ Kept [g3] w5 wk)
  case atStart => exact ⟨0, by omega, rfl, rfl, by rw [bor_zero]; rfl, B.out.2.2, Kept.refl _ _⟩
  case round =>
    obtain ⟨k, hk, hg, rfl, rfl, hb, hkw⟩ := hrel
    by_cases hlt : k < 4
    · have c1 := Blk.w4get (B.out.1.kept hkw (by simpa using N.out.1)) k hlt
      have hi := run_index_w4 LL k hlt
      have hc := red_call x k hlt hx2.out
      have hf := hb.frozen k
      obtain ⟨u3, c3⟩ := pw_cell _ k hlt hb
      have hst2 := Lib.hid (pw_step _ k hlt hb)
      have hk2 := Lib.hid (hkw.setCell (p := ⟨g3, k, none⟩) (.inl (by simp)) (Value.int .u64 (wrd (dif x) k : Nat)))
      clear hb hkw
      go_wp2_with fail
      go_roundg (4 - (k + 1))
      case measure => omega
      case rel => exact ⟨k + 1, by omega, by omega, by go_num, rfl, hst2.out, hk2.out⟩
    · obtain rfl : k = 4 := by omega
      have hb4 := bor_four x LL hx2.out LL_lt
      have hbb := Lib.hid hb
      have hkk := Lib.hid hkw
      clear hb hkw
      by_cases hxl : x < LL
      · rw [if_pos hxl] at hb4
        have hq := Lib.hid (red_lt hxl)
        clear hxl
        go_wp2_with (first
          | (refine wpl_load_arr arrW rfl (.tmp 1) rfl rfl (B.out.1.kept hkk.out (by simpa using N.out.1)) rfl ?_)
          | (refine wpl_store_arr arrW rfl (.tmp 2) (.tmp 26) rfl rfl rfl (B.out.2.1.kept hkk.out (by simpa using N.out.2.1)) rfl rfl (one_uva _) ?_; intro w6 b6 k6))
        exact ret_arr arrW rfl rfl b6 rfl rfl ⟨by rw [hq.out]; rfl, (M.out.1.then1 hkk.out M.out.2.2.2).then1 k6 M.out.2.2.1⟩
      · rw [if_neg hxl] at hb4
        have e : (uv (pw (dif x) 4)).toArray = (uv (ws4 (x - LL))).toArray := by
          rw [pw4, ws4_congr (dif_mod x (by omega))]
        rw [e] at hbb
        have hq := Lib.hid (red_ge hxl)
        clear hxl e
        go_wp2_with (first
          | (refine wpl_load_arr arrW rfl (.tmp 3) rfl rfl hbb.out rfl ?_)
          | (refine wpl_store_arr arrW rfl (.tmp 2) (.tmp 27) rfl rfl rfl (B.out.2.1.kept hkk.out (by simpa using N.out.2.1)) rfl rfl (one_uva _) ?_; intro w6 b6 k6))
        exact ret_arr arrW rfl rfl b6 rfl rfl ⟨by rw [hq.out], (M.out.1.then1 hkk.out M.out.2.2.2).then1 k6 M.out.2.2.1⟩
end Go.Proofs.Ytfamfdihflkdpaa
