/-
  Scalars: sums, numbers of bytes, bits.
-/
import Derived.Test.YtfamfdihflkdpaaSc5
import Derived.Test.YtfamfdihflkdpaaText4
import Derived.BigQuiet
import Derived.Deep.QuietTactic
namespace Go.Proofs.Ytfamfdihflkdpaa
open Go.RowKit Go.Mem

theorem addw_call (x y k : Nat) (hk : k < 4) (w : World) : (callFunc 22 #[.int .u64 (wrd x k : Nat), .int .u64 (wrd y k : Nat), .int .u64 (car x y 0 k : Nat)]).run Try.prog w =
    .ok (.value (.tuple #[.int .u64 (wrd (x + y) k : Nat), .int .u64 (car x y 0 (k + 1) : Nat)])) w := by
  obtain ⟨h1, h2⟩ := add_word x y 0 k hk (by omega)
  rw [call_add64 _ _ _ (car_le x y 0 k (by omega) (by omega)), h1, h2]
  rfl

theorem sum_lt {x y : Nat} (h : x < LL) (h2 : y < LL) : x + y < M4 := by
  have : 2 * LL < M4 := by decide +kernel
  omega

set_option maxHeartbeats 800000 in
theorem add_any (x y : Nat) (hx : x < LL) (hy : y < LL) (w : World) : Calls Try.prog 12 #[w4 x, w4 y] w fun e w' => e = .returned (w4 ((x + y) % LL)) ∧ Kept [] w w' := by
  have hs := Lib.hid (And.intro hx hy)
  clear hx hy
  go_enter Try.func12, Try.ntmps12
  go_wp2_with (first
    | ((with_reducible refine wpl_box (o := ⟨some 2, _, _, _, _, _⟩) (v := w4 x) rfl (.tmp 0) rfl rfl ?_); intro g1 w1 m1)
    | ((with_reducible refine wpl_box (o := ⟨some 3, _, _, _, _, _⟩) (v := w4 y) rfl (.tmp 1) rfl rfl ?_); intro g2 w2 m2)
    | ((with_reducible refine wpl_new (o := ⟨some 4, _, _, _, _, _⟩) rfl rfl zeroSc ?_); intro g3 w3 m3))
  have N := Lib.hid (And.intro (m2.ne m1.blk.lt) (And.intro (m3.ne (m2.kept.lt m1.blk.lt)) (m3.ne m2.blk.lt)))
  have b1 := Lib.hid ((m1.blk.kept m2.kept (by simp)).kept m3.kept (by simp))
  have b2 := Lib.hid (m2.blk.kept m3.kept (by simp))
  have b3 := Lib.hid m3.blk
  have M := Lib.hid (And.intro ((m1.kept.then0 m2.kept).then0 m3.kept) (And.intro m1.le (Nat.le_trans (m1.kept.then0 m2.kept).size m3.le)))
  clear m1 m2 m3
  go_loopg [7, 5] 4 (fun f i c wk => ∃ k : Nat, k ≤ 4 ∧ f + k = 4 ∧ i = .int .i64 k ∧ c = .int .u64 (car x y 0 k : Nat) ∧ Blk wk g1 27 (uv (qw x (x + y) k)).toArray ∧ Kept [g1] w3 wk)
  case atStart => exact ⟨0, Nat.zero_le _, rfl, rfl, by rw [car_zero]; rfl, b1.out, Kept.refl _ _⟩
  case round =>
    obtain ⟨k, hk, hf, rfl, rfl, hb, hkw⟩ := hrel
    by_cases hlt : k < 4
    · have c1 := qw_cell x (x + y) k hlt hb
      have hb2 : Blk wr g2 27 (uv (ws4 y)).toArray := b2.out.kept hkw (by have := N.out.1; simpa using Ne.symm this)
      have c2 := Blk.w4get hb2 k hlt
      have hfz := hb.frozen k
      have hc := addw_call x y k hlt
      have hst2 := Lib.hid (qw_step x (x + y) k hlt hb)
      have hk2 := Lib.hid (hkw.setCell (p := ⟨g1, k, none⟩) (.inl (by simp)) (Value.int .u64 (wrd (x + y) k : Nat)))
      clear hb hkw hb2
      go_wp2_with fail
      refine Txt.wp_text (by kernel_rfl) (by kernel_rfl) ?_
      go_wp2_with fail
      refine ⟨rfl, by kernel_rfl, ?_⟩
      go_wp2_with fail
      go_roundg (4 - (k + 1))
      case measure => omega
      case rel => exact ⟨k + 1, by omega, by omega, by go_num, rfl, hst2.out.drew, hk2.out.drew⟩
    · obtain rfl : k = 4 := by omega
      have hb2 := Lib.hid hb
      have hk2 := Lib.hid hkw
      clear hb hkw
      rw [qw4] at hb2
      go_wp2_with (first
        | (refine wpl_load_arr arrW rfl (.tmp 27) rfl rfl hb2.out rfl ?_)
        | (go_at_call 23; refine (reduced_any (x + y) (sum_lt hs.out.1 hs.out.2) _).mono ?_; rintro e w4 ⟨rfl, k4⟩; have k5 := Lib.hid k4; clear k4)
        | (refine wpl_build1 rfl 0 (.tmp 29) rfl rfl (built_sc _) ?_)
        | (refine wpl_store_row structSc rfl (.tmp 4) (.tmp 30) rfl rfl rfl ((b3.out.kept hk2.out (by have := N.out.2.1; simpa using Ne.symm this)).kept k5.out (by simp)) rfl rfl (one_uva _) ?_; intro w7 b8 k8))
      refine ret_row structSc rfl rfl b8 rfl rfl ⟨?_, ((M.out.1.then1 hk2.out M.out.2.1).then0 k5.out).then1 k8 M.out.2.2⟩
      rw [red_mod (by have := hs.out; omega)]

theorem ret_bool {a b : Bool} (h : a = b) : Ending.returned (.bool a) = .returned (.bool b) := by rw [h]

/-- Bit i of x. -/
def bitB (x : Nat) (i : Int) : Bool := decide (0 ≤ i ∧ i < 256 ∧ x / 2 ^ i.toNat % 2 = 1)
theorem bitB_no (x : Nat) (i : Int) (h : ¬ (0 ≤ i ∧ i < 256)) : bitB x i = false := by
  unfold bitB; exact decide_eq_false fun hh => h ⟨hh.1, hh.2.1⟩
theorem bitB_nat (x k : Nat) (h : k < 256) : bitB x (k : Int) = decide (x / 2 ^ k % 2 = 1) := by
  unfold bitB
  rw [decide_eq_decide]
  simp; omega
theorem wrd_bit (x k : Nat) : wrd x (k / 64) / 2 ^ (k % 64) % 2 = x / 2 ^ k % 2 := by
  unfold wrd
  have e : k = 64 * (k / 64) + k % 64 := by omega
  conv => rhs; rw [e, Nat.pow_add, ← Nat.div_div_eq_div_mul]
  generalize x / 2 ^ (64 * (k / 64)) = V
  have h : k % 64 < 64 := by omega
  generalize k % 64 = r at *
  have e : 18446744073709551616 = 2 ^ r * 2 ^ (64 - r) := by rw [← Nat.pow_add, show r + (64 - r) = 64 from by omega]
  rw [e, Nat.mod_mul_right_div_self, show 64 - r = 1 + (63 - r) from by omega, Nat.pow_add, Nat.pow_one, Nat.mod_mul_right_mod]

set_option maxRecDepth 100000 in
theorem bit_any (x : Nat) (i : Int) (w : World) : Calls Try.prog 18 #[w4 x, .int .i64 i] w fun e w' => e = .returned (.bool (bitB x i)) ∧ Kept [] w w' := by
  by_cases h0 : 0 ≤ i
  · by_cases h1 : i < 256
    · obtain ⟨k, rfl⟩ : ∃ k : Nat, i = k := ⟨i.toNat, by omega⟩
      have hk : k < 256 := by omega
      have hand := and_bit (wrd x (k / 64)) (k % 64) (wrd_lt _ _)
      rw [wrd_bit] at hand
      have hz : x / 2 ^ k % 2 = 0 ∨ x / 2 ^ k % 2 = 1 := by omega
      clear h0 h1
      rcases hz with hz | hz
      · rw [bitB_nat x k hk, decide_eq_false (by omega)]
        rw [hz] at hand
        clear hz
        go_enter Try.func18, Try.ntmps18
        go_wp2_with ((with_reducible refine wpl_box (o := ⟨some 2, _, _, _, _, _⟩) (v := w4 x) rfl (.tmp 0) rfl rfl ?_); intro g1 w1 m1; have c1 := Blk.w4get (x := x) m1.blk (k / 64) (by omega); have M := Lib.hid m1.kept; clear m1)
        go_ret
        exact ⟨rfl, M.out⟩
      · rw [bitB_nat x k hk, decide_eq_true hz]
        rw [hz] at hand
        clear hz
        go_enter Try.func18, Try.ntmps18
        go_wp2_with ((with_reducible refine wpl_box (o := ⟨some 2, _, _, _, _, _⟩) (v := w4 x) rfl (.tmp 0) rfl rfl ?_); intro g1 w1 m1; have c1 := Blk.w4get (x := x) m1.blk (k / 64) (by omega); have M := Lib.hid m1.kept; clear m1)
        go_ret
        exact ⟨rfl, M.out⟩
    · rw [bitB_no _ _ (by omega)]
      go_enter Try.func18, Try.ntmps18
      go_wp2_with ((with_reducible refine wpl_box (o := ⟨some 2, _, _, _, _, _⟩) (v := w4 x) rfl (.tmp 0) rfl rfl ?_); intro g1 w1 m1)
      go_ret
      exact ⟨rfl, m1.kept⟩
  · rw [bitB_no _ _ (by omega)]
    go_enter Try.func18, Try.ntmps18
    go_wp2_with ((with_reducible refine wpl_box (o := ⟨some 2, _, _, _, _, _⟩) (v := w4 x) rfl (.tmp 0) rfl rfl ?_); intro g1 w1 m1)
    go_ret
    exact ⟨rfl, m1.kept⟩

/-- A number that is below L, else nought. -/
def nw (x : Nat) : Nat := if x < LL then x else 0
def okB (x : Nat) : Bool := decide (x < LL)
theorem red_eq {x : Nat} (hx : x < M4) : (ws4 (red x) == ws4 x) = okB x := by
  unfold okB
  rw [Bool.eq_iff_iff, beq_iff_eq, decide_eq_true_iff]
  constructor
  · intro h
    have h2 := congrArg val h
    rw [← wds4, ← wds4, val_wds, val_wds] at h2
    have e : 2 ^ (64 * 4) = M4 := rfl
    have hr : red x ≤ x := by unfold red; split <;> omega
    rw [e, Nat.mod_eq_of_lt hx, Nat.mod_eq_of_lt (by omega)] at h2
    unfold red at h2
    split at h2
    · assumption
    · have := LL_pos
      omega
  · intro h
    rw [red_lt h]

theorem zero_sc : Try.prog.built 27 [] = some (uv (ws4 0)).toArray := by kernel_rfl

theorem array_at (g : Nat) (W : World) : (Instr.arrayAt 25 (.slice (some ⟨g, 0, none⟩) 4 4)).run Try.prog W = .ok (.pointer (some ⟨g, 0, none⟩)) W := by kernel_rfl

set_option maxHeartbeats 800000 in
theorem new_any (bs : List UInt8) (hl : bs.length = 32) (w : World) : Calls Try.prog 16 #[ab bs] w fun e w' => e = .returned (.tuple #[w4 (nw (leV bs)), .bool (okB (leV bs))]) ∧ Kept [] w w' := by
  have hl2 := Lib.hid hl
  have hlen := Lib.hid (show (bv bs).length = 32 by simp [hl])
  have hx := Lib.hid (show leV bs < M4 by have := leV_lt2 bs; rw [hl] at this; exact this)
  clear hl
  go_enter Try.func16, Try.ntmps16
  go_wp2_with (first
    | ((with_reducible refine wpl_box (o := ⟨some 1, _, _, _, _, _⟩) (v := ab bs) rfl (.tmp 0) rfl rfl ?_); intro g1 w1 m1)
    | ((with_reducible refine wpl_new (o := ⟨some 2, _, _, _, _, _⟩) rfl rfl zeroSc ?_); intro g2 w2 m2))
  have hrd : Rd w2 1 (.slice (some ⟨g1, 0, none⟩) 32 32) 32 (bv bs) := Blk.rd (m1.blk.kept m2.kept (by simp)) hlen.out (Nat.le_refl _)
  refine (words_at _ bs 32 4 _ hl2.out hrd rfl (by omega)).mono ?_
  rintro e w3 ⟨g3, rfl, b3, k3, l3⟩
  rw [wds4] at b3
  have B3 := Lib.hid b3
  have K := Lib.hid (And.intro m1 (And.intro m2 k3))
  clear hrd b3 m1 m2 k3 l3
  have hat := array_at g3
  go_wp2_with (first
    | (refine wpl_load_arr arrW rfl (.tmp 7) rfl rfl B3.out rfl ?_)
    | ((with_reducible refine wpl_new (o := ⟨some 4, _, _, _, _, _⟩) rfl rfl zeroW ?_); intro g4 w4 m4)
    | (refine wpl_store_row arrW.row rfl (.tmp 4) (.tmp 8) rfl rfl rfl m4.blk rfl rfl (one_uva _) ?_; intro w5 b5 k5))
  obtain ⟨m1, m2, k3⟩ := K.out
  have kw : Kept [] w w5 := (((m1.kept.then0 m2.kept).then0 k3).then0 m4.kept).then1 k5 (Nat.le_trans ((m1.kept.then0 m2.kept).then0 k3).size m4.le)
  have b2 : Blk w5 g2 _ _ := ((m2.blk.kept k3 (by simp)).kept m4.kept (by simp)).kept k5 (by have := m4.ne (k3.lt m2.blk.lt); simpa using this)
  have B2 := Lib.hid b2
  have KW := Lib.hid (And.intro kw (Nat.le_trans m1.kept.size m2.le))
  clear m1 m2 k3 kw b2 m4 k5
  have hS : Blk w5.drew g4 25 (uv (ws4 (leV bs))).toArray := b5
  refine Txt.wp_textF [2, 3] (fun u => Blk u g4 25 (uv (ws4 (leV bs))).toArray) [[_, _], [_, _]] (by kernel_rfl) (by kernel_rfl) rfl hS (Txt.segs_cons ?_)
  have B5 := Lib.hid hS
  clear hS b5
  go_wp2_with (refine wpl_load_arr arrW rfl (.tmp 4) rfl rfl B5.out rfl ?_)
  refine (reduced_any (leV bs) hx.out _).mono ?_
  rintro e w6 ⟨rfl, k6⟩
  have B6 := Lib.hid (B5.out.kept k6 (by simp))
  have k7 := Lib.hid k6.from_drew
  clear k6
  go_wp2_with fail
  refine ⟨rfl, B6.out, Txt.segs_cons ?_⟩
  have he := run_eqIn_uv arrW Try.underlying24 (by kernel_rfl) (ws4 (red (leV bs))) (ws4 (leV bs)) rfl rfl w6
  rw [red_eq hx.out] at he
  go_wp2_with (refine wpl_load_arr arrW rfl (.tmp 4) rfl rfl B6.out rfl ?_)
  refine ⟨rfl, B6.out, Txt.segs_nil ⟨⟨by kernel_rfl, ?_⟩, ?_⟩⟩
  · intro j hj o ho _
    have hj2 : j = 2 ∨ j = 3 := by simpa using hj
    rcases hj2 with rfl | rfl
    · cases ho
      exact ⟨11, rfl, fun u hu => by
        have := run_loadVar_row (P := Try.prog) u g4 25 25 (uv (ws4 (leV bs))).toArray (0, 0) _ hu Try.underlying25 rfl (by kernel_rfl)
        simp [execOp, Act.eval, Instr.loadAt, Instr.sureAddr, this]⟩
    · cases ho
      exact ⟨12, rfl, fun u _ => by
        have he := run_eqIn_uv arrW Try.underlying24 (by kernel_rfl) (ws4 (red (leV bs))) (ws4 (leV bs)) rfl rfl u
        rw [red_eq hx.out] at he
        have hg := run_eqGuard_agg (P := Try.prog) u .neq 25 (.tmp 10) (.tmp 11) (uv (ws4 (red (leV bs)))).toArray (uv (ws4 (leV bs))).toArray (by kernel_rfl)
        simp [execOp, Act.eval, binOp, Op.equal, Op.maxDepth, he, hg]⟩
  have b2' := B2.out.kept k7.out (by simp)
  by_cases hlt : leV bs < LL
  · have ho : okB (leV bs) = true := decide_eq_true hlt
    have hq := Lib.hid (And.intro ho (show nw (leV bs) = leV bs from if_pos hlt))
    rw [ho]
    clear hlt ho
    go_wp2_with (first
      | (refine wpl_load_arr arrW rfl (.tmp 4) rfl rfl B6.out rfl ?_)
      | (refine wpl_build1 rfl 0 (.tmp 14) rfl rfl (built_sc _) ?_)
      | (refine wpl_store_row structSc rfl (.tmp 2) (.tmp 15) rfl rfl rfl b2' rfl rfl (one_uva _) ?_; intro w7 b8 k8))
    refine ret_row2 structSc rfl rfl b8 rfl rfl ⟨?_, (KW.out.1.then0 k7.out).then1 k8 KW.out.2⟩
    rw [hq.out.1, hq.out.2]
    rfl
  · have ho : okB (leV bs) = false := decide_eq_false hlt
    have hq := Lib.hid (And.intro ho (show nw (leV bs) = 0 from if_neg hlt))
    rw [ho]
    clear hlt ho
    go_wp2_with (first
      | (refine wpl_build0 rfl rfl zero_sc ?_)
      | (refine wpl_store_row structSc rfl (.tmp 2) (.tmp 13) rfl rfl rfl b2' rfl rfl (one_uva _) ?_; intro w7 b8 k8))
    refine ret_row2 structSc rfl rfl b8 rfl rfl ⟨?_, (KW.out.1.then0 k7.out).then1 k8 KW.out.2⟩
    rw [hq.out.1, hq.out.2]
    rfl
end Go.Proofs.Ytfamfdihflkdpaa
