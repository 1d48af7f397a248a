/-
  The document's scalars, in a namespace of their own.
-/
import Derived.Test.YtdbngnlpafcogaaSz
import Derived.Test.YtdbngnlpafcogaaFam
import Derived.BigQuiet
import Derived.Deep.QuietTactic


import Derived.Deep.RegionWith
import Derived.IntWalk
namespace Go.Proofs.Ytdbngnlpafcogaa.Z
open Go.RowKit Go.Mem
theorem ret_bool {a b : Bool} (h : a = b) : Ending.returned (.bool a) = .returned (.bool b) := by rw [h]

/-- Bit i of x. -/
def bitB (x : Nat) (i : Int) : Bool := decide (0 ≤ i ∧ i < 256 ∧ x / 2 ^ i.toNat % 2 = 1)
theorem bitB_no (x : Nat) (i : Int) (h : ¬ (0 ≤ i ∧ i < 256)) : bitB x i = false := by
  unfold bitB; exact decide_eq_false fun hh => h ⟨hh.1, hh.2.1⟩
theorem bitB_nat (x k : Nat) (h : k < 256) : bitB x (k : Int) = decide (x / 2 ^ k % 2 = 1) := by
  unfold bitB
  rw [decide_eq_decide]
  simp; omega
theorem wrd_bit (x k : Nat) : wrd x (k / 64) / 2 ^ (k % 64) % 2 = x / 2 ^ k % 2 := by
  unfold wrd
  have e : k = 64 * (k / 64) + k % 64 := by omega
  conv => rhs; rw [e, Nat.pow_add, ← Nat.div_div_eq_div_mul]
  generalize x / 2 ^ (64 * (k / 64)) = V
  have h : k % 64 < 64 := by omega
  generalize k % 64 = r at *
  have e : 18446744073709551616 = 2 ^ r * 2 ^ (64 - r) := by rw [← Nat.pow_add, show r + (64 - r) = 64 from by omega]
  rw [e, Nat.mod_mul_right_div_self, show 64 - r = 1 + (63 - r) from by omega, Nat.pow_add, Nat.pow_one, Nat.mod_mul_right_mod]

/-- A number that is below L, else nought. -/
def nw (x : Nat) : Nat := if x < LL then x else 0
def okB (x : Nat) : Bool := decide (x < LL)
theorem red_eq {x : Nat} (hx : x < M4) : (ws4 (red x) == ws4 x) = okB x := by
  unfold okB
  rw [Bool.eq_iff_iff, beq_iff_eq, decide_eq_true_iff]
  constructor
  · intro h
    have h2 := congrArg val h
    rw [← wds4, ← wds4, val_wds, val_wds] at h2
    have e : 2 ^ (64 * 4) = M4 := rfl
    have hr : red x ≤ x := by unfold red; split <;> omega
    rw [e, Nat.mod_eq_of_lt hx, Nat.mod_eq_of_lt (by omega)] at h2
    unfold red at h2
    split at h2
    · assumption
    · have := LL_pos
      omega
  · intro h
    rw [red_lt h]

theorem zero_sc : Try.prog.built 99 [] = some (uv (ws4 0)).toArray := by kernel_rfl

theorem array_at (g : Nat) (W : World) : (Instr.arrayAt 97 (.slice (some ⟨g, 0, none⟩) 4 4)).run Try.prog W = .ok (.pointer (some ⟨g, 0, none⟩)) W := by kernel_rfl

set_option maxRecDepth 100000 in
set_option maxHeartbeats 800000 in
theorem new_any (bs : List UInt8) (hl : bs.length = 32) (w : World) : Calls Try.prog 43 #[ab bs] w fun e w' => e = .returned (.tuple #[w4 (nw (leV bs)), .bool (okB (leV bs))]) ∧ Kept [] w w' := by
  have hl2 := Lib.hid hl
  have hlen := Lib.hid (show (bv bs).length = 32 by simp [hl])
  have hx := Lib.hid (show leV bs < M4 by have := leV_lt2 bs; rw [hl] at this; exact this)
  clear hl
  go_enter Try.func43, Try.ntmps43
  go_wp2_with (first
    | ((with_reducible refine wpl_box (o := ⟨some 1, _, _, _, _, _⟩) (v := ab bs) rfl (.tmp 0) rfl rfl ?_); intro g1 w1 m1)
    | ((with_reducible refine wpl_new (o := ⟨some 2, _, _, _, _, _⟩) rfl rfl zeroSc ?_); intro g2 w2 m2))
  have hrd : Rd w2 1 (.slice (some ⟨g1, 0, none⟩) 32 32) 32 (bv bs) := Blk.rd (m1.blk.kept m2.kept (by simp)) hlen.out (Nat.le_refl _)
  refine (words_at _ bs 32 4 _ hl2.out hrd rfl (by omega)).mono ?_
  rintro e w3 ⟨g3, rfl, b3, k3, l3⟩
  rw [wds4] at b3
  have B3 := Lib.hid b3
  have K := Lib.hid (And.intro m1 (And.intro m2 k3))
  clear hrd b3 m1 m2 k3 l3
  have hat := array_at g3
  go_wp2_with (first
    | (refine wpl_load_arr arrW rfl (.tmp 7) rfl rfl B3.out rfl ?_)
    | ((with_reducible refine wpl_new (o := ⟨some 4, _, _, _, _, _⟩) rfl rfl zeroW ?_); intro g4 w4 m4)
    | (refine wpl_store_row arrW.row rfl (.tmp 4) (.tmp 8) rfl rfl rfl m4.blk rfl rfl (one_uva _) ?_; intro w5 b5 k5))
  obtain ⟨m1, m2, k3⟩ := K.out
  have kw : Kept [] w w5 := (((m1.kept.then0 m2.kept).then0 k3).then0 m4.kept).then1 k5 (Nat.le_trans ((m1.kept.then0 m2.kept).then0 k3).size m4.le)
  have b2 : Blk w5 g2 _ _ := ((m2.blk.kept k3 (by simp)).kept m4.kept (by simp)).kept k5 (by have := m4.ne (k3.lt m2.blk.lt); simpa using this)
  have B2 := Lib.hid b2
  have KW := Lib.hid (And.intro kw (Nat.le_trans m1.kept.size m2.le))
  clear m1 m2 k3 kw b2 m4 k5
  have hS : Blk w5.drew g4 97 (uv (ws4 (leV bs))).toArray := b5
  refine Txt.wp_textF [2, 3] (fun u => Blk u g4 97 (uv (ws4 (leV bs))).toArray) [[_, _], [_, _]] (by kernel_rfl) (by kernel_rfl) rfl hS (Txt.segs_cons ?_)
  have B5 := Lib.hid hS
  clear hS b5
  go_wp2_with (refine wpl_load_arr arrW rfl (.tmp 4) rfl rfl B5.out rfl ?_)
  refine (reduced_any (leV bs) hx.out _).mono ?_
  rintro e w6 ⟨rfl, k6⟩
  have B6 := Lib.hid (B5.out.kept k6 (by simp))
  have k7 := Lib.hid k6.from_drew
  clear k6
  go_wp2_with fail
  refine ⟨rfl, B6.out, Txt.segs_cons ?_⟩
  have he := run_eqIn_uv arrW Try.underlying80 (by kernel_rfl) (ws4 (red (leV bs))) (ws4 (leV bs)) rfl rfl w6
  rw [red_eq hx.out] at he
  go_wp2_with (refine wpl_load_arr arrW rfl (.tmp 4) rfl rfl B6.out rfl ?_)
  refine ⟨rfl, B6.out, Txt.segs_nil ⟨⟨by kernel_rfl, ?_⟩, ?_⟩⟩
  · intro j hj o ho _
    have hj2 : j = 2 ∨ j = 3 := by simpa using hj
    rcases hj2 with rfl | rfl
    · cases ho
      exact ⟨11, rfl, fun u hu => by
        have := run_loadVar_row (P := Try.prog) u g4 97 97 (uv (ws4 (leV bs))).toArray (0, 0) _ hu Try.underlying97 rfl (by kernel_rfl)
        simp [execOp, Act.eval, Instr.loadAt, Instr.sureAddr, this]⟩
    · cases ho
      exact ⟨12, rfl, fun u _ => by
        have he := run_eqIn_uv arrW Try.underlying80 (by kernel_rfl) (ws4 (red (leV bs))) (ws4 (leV bs)) rfl rfl u
        rw [red_eq hx.out] at he
        have hg := run_eqGuard_agg (P := Try.prog) u .neq 97 (.tmp 10) (.tmp 11) (uv (ws4 (red (leV bs)))).toArray (uv (ws4 (leV bs))).toArray (by kernel_rfl)
        simp [execOp, Act.eval, binOp, Op.equal, Op.maxDepth, he, hg]⟩
  have b2' := B2.out.kept k7.out (by simp)
  by_cases hlt : leV bs < LL
  · have ho : okB (leV bs) = true := decide_eq_true hlt
    have hq := Lib.hid (And.intro ho (show nw (leV bs) = leV bs from if_pos hlt))
    rw [ho]
    clear hlt ho
    go_wp2_with (first
      | (refine wpl_load_arr arrW rfl (.tmp 4) rfl rfl B6.out rfl ?_)
      | (refine wpl_build1 rfl 0 (.tmp 14) rfl rfl (built_sc _) ?_)
      | (refine wpl_store_row structSc rfl (.tmp 2) (.tmp 15) rfl rfl rfl b2' rfl rfl (one_uva _) ?_; intro w7 b8 k8))
    refine ret_row2 structSc rfl rfl b8 rfl rfl ⟨?_, (KW.out.1.then0 k7.out).then1 k8 KW.out.2⟩
    rw [hq.out.1, hq.out.2]
    rfl
  · have ho : okB (leV bs) = false := decide_eq_false hlt
    have hq := Lib.hid (And.intro ho (show nw (leV bs) = 0 from if_neg hlt))
    rw [ho]
    clear hlt ho
    go_wp2_with (first
      | (refine wpl_build0 rfl rfl zero_sc ?_)
      | (refine wpl_store_row structSc rfl (.tmp 2) (.tmp 13) rfl rfl rfl b2' rfl rfl (one_uva _) ?_; intro w7 b8 k8))
    refine ret_row2 structSc rfl rfl b8 rfl rfl ⟨?_, (KW.out.1.then0 k7.out).then1 k8 KW.out.2⟩
    rw [hq.out.1, hq.out.2]
    rfl
end Go.Proofs.Ytdbngnlpafcogaa.Z

namespace Go.Proofs.Ytdbngnlpafcogaa.Z
open Go.RowKit Go.Mem

theorem bytesT : SliceT Try.prog 23 5 1 1 (.int .u8 0) := ⟨Try.underlying23, by kernel_rfl, rfl, by omega⟩
theorem arrL : ArrT Try.prog 24 5 64 := ⟨Try.underlying24, by kernel_rfl⟩
theorem zeroL : (Try.prog.info? 24).map (·.zero) = some (some (ab (noughts 64))) := by kernel_rfl
theorem leV_noughts : ∀ n, leV (noughts n) = 0
  | 0 => rfl
  | n + 1 => by
    show leV (0 :: noughts n) = 0
    rw [leV, leV_noughts n]; rfl
theorem leV_append : ∀ (a b : List UInt8), leV (a ++ b) = leV a + 256 ^ a.length * leV b
  | [], b => by simp [leV]
  | x :: a, b => by
    rw [List.cons_append, leV, leV, leV_append a b, List.length_cons, Nat.pow_succ, Nat.mul_add, Nat.mul_comm (256 ^ a.length) 256, ← Nat.mul_assoc, Nat.add_assoc]

theorem modulo_any (bs : List UInt8) (hl : bs.length = 32) (w : World) : Calls Try.prog 90 #[ab bs] w fun e w' => e = .returned (w4 (leV bs % LL)) ∧ Kept [] w w' := by
  have hl2 := Lib.hid hl
  have hlen := Lib.hid (show (bv bs).length = 32 by simp [hl])
  have ho := Lib.hid (show (over (noughts 64) 0 bs).length = 64 by rw [over_len _ _ _ (by simp [hl])]; simp)
  have hv := Lib.hid (show leV (over (noughts 64) 0 bs) = leV bs by
    rw [over0, leV_append, hl]
    have : (noughts 64).drop 32 = noughts 32 := rfl
    rw [this, leV_noughts, Nat.mul_zero, Nat.add_zero])
  clear hl
  go_enter Try.func90, Try.ntmps90
  go_wp2_with (first
    | ((with_reducible refine wpl_box (o := ⟨some 1, _, _, _, _, _⟩) (v := ab bs) rfl (.tmp 0) rfl rfl ?_); intro g1 w1 m1)
    | ((with_reducible refine wpl_new (o := ⟨some 2, _, _, _, _, _⟩) rfl rfl zeroSc ?_); intro g2 w2 m2)
    | ((with_reducible refine wpl_new (o := ⟨some 3, _, _, _, _, _⟩) rfl rfl zeroL ?_); intro g3 w3 m3))
  refine Txt.wp_text (by kernel_rfl) (by kernel_rfl) ?_
  have hrd : Rd w3.drew 1 (.slice (some ⟨g1, 0, none⟩) 32 32) 32 (bv bs) := Blk.rd ((m1.blk.kept m2.kept (by simp)).kept m3.kept (by simp)).drew hlen.out (Nat.le_refl _)
  have b3 := m3.blk.drew
  have n23 := m3.ne m2.blk.lt
  have M := Lib.hid (And.intro m1 (And.intro m2 (And.intro m3 n23)))
  have R := Lib.hid hrd
  clear hrd m1 m2 m3 n23
  go_wp2_with (refine wpl_cpy bytesT rfl (.tmp 4) (.tmp 5) rfl rfl b3 (Nat.le_of_eq rfl) rfl R.out (one_bv _) ?_; intro w4 b4 k4; clear b3)
  have e1 : (over (ab (noughts 64)).cells.toList 0 (List.take 64 (bv bs))).toArray = (bv (over (noughts 64) 0 bs)).toArray := by
    rw [List.take_of_length_le (by rw [hlen.out]; omega)]
    exact congrArg _ (over_bv (noughts 64) _ 0)
  rw [e1] at b4
  refine ⟨rfl, by kernel_rfl, ?_⟩
  have b5 := Lib.hid b4.drew
  have k5 := Lib.hid k4.from_drew
  clear b4 k4 e1
  go_wp2_with (first
    | (refine wpl_load_arr arrL rfl (.tmp 3) rfl rfl b5.out (by simpa using ho.out) ?_)
    | (go_at_call 85; refine (wide_any _ ho.out _).mono ?_; rintro e w6 ⟨rfl, k6⟩; have k7 := Lib.hid k6; clear k6)
    | (refine wpl_store_row structSc rfl (.tmp 2) (.tmp 8) rfl rfl rfl (((M.out.2.1.blk.kept M.out.2.2.1.kept (by simp)).kept k5.out (by have := M.out.2.2.2; simpa using this)).kept k7.out (by simp)) rfl rfl (one_uva _) ?_; intro w7 b8 k8))
  refine ret_row structSc rfl rfl b8 rfl rfl ⟨by rw [hv.out], ?_⟩
  have m := M.out
  exact (((((m.1.kept.then0 m.2.1.kept).then0 m.2.2.1.kept).then1 k5.out (Nat.le_trans (m.1.kept.then0 m.2.1.kept).size m.2.2.1.le)).then0 k7.out).then1 k8 (Nat.le_trans m.1.kept.size m.2.1.le))
end Go.Proofs.Ytdbngnlpafcogaa.Z
