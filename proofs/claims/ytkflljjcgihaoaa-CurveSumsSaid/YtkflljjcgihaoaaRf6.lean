/-
  The document's field: small numbers, sums, differences, which bytes are numbers.
-/
import Derived.Test.YtkflljjcgihaoaaRf5
namespace Go.Proofs.Ytkflljjcgihaoaa
open Go.RowKit Go.Mem Go.Txt

theorem dgN_high (v i : Nat) (hv : v < 18446744073709551616) (h : 4 ≤ i) : dgN v i = 0 := by
  unfold dgN
  rw [Nat.div_eq_of_lt (Nat.lt_of_lt_of_le hv (Nat.le_trans (show 18446744073709551616 ≤ 65536 ^ 4 by decide) (Nat.pow_le_pow_right (by omega) h)))]
  rfl
set_option maxRecDepth 100000 in
set_option maxHeartbeats 1600000 in
theorem of_any (v : Nat) (hv : v < 18446744073709551616) (w : World) :
    Calls Try.prog 48 #[.int .u64 v] w fun e w' => e = .returned (nu (dgN v)) ∧ Kept [] w w' := by
  have hvh := Lib.hid hv
  clear hv
  go_enter Try.func48, Try.ntmps48
  go_wp2_with (first
    | ((with_reducible refine wpl_new (o := ⟨some 2, _, _, _, _, _⟩) rfl rfl zeroN ?_); intro g2 w2 m2)
    | ((with_reducible refine wpl_new (o := ⟨some 3, _, _, _, _, _⟩) rfl rfl zeroN ?_); intro g3 w3 m3))
  have B2 := Lib.hid (m2.blk.kept m3.kept (by simp))
  have H3 := Lib.hid (show Nb w3 g3 (mix zd (dgN v) 0) from by unfold Nb; rw [mix_zero]; exact m3.blk)
  have D := Lib.hid (show w.heap.size ≤ g2 ∧ w.heap.size ≤ g3 ∧ g2 ≠ g3 ∧ Kept [] w w3 from ⟨m2.le, Nat.le_trans m2.kept.size m3.le, m3.ne m2.blk.lt, m2.kept.then0 m3.kept⟩)
  clear m2 m3
  go_loopg [4, 0] 4 (fun f i x wk => ∃ k : Nat, k ≤ 4 ∧ f + k = 4 ∧ i = .int .i64 k ∧ x = .int .u64 ((v / 65536 ^ k : Nat) : Int) ∧ Nb wk g3 (mix zd (dgN v) k) ∧ Kept [g3] w3 wk)
  case atStart => exact ⟨0, Nat.zero_le _, rfl, rfl, by rw [Nat.pow_zero, Nat.div_one], H3.out, Kept.refl _ _⟩
  case round =>
    obtain ⟨k, hk, hf, rfl, rfl, hb, hkw⟩ := hrel
    have H := Lib.hid hb
    have HK := Lib.hid hkw
    clear hb hkw
    by_cases hlt : k < 4
    · have hd : dgN v k = ((v / 65536 ^ k % 65536 : Nat) : Int) := rfl
      have hn : v / 65536 ^ (k + 1) = v / 65536 ^ k / 65536 := by rw [Nat.pow_succ, Nat.div_div_eq_div_mul]
      have hb : v / 65536 ^ k < 18446744073709551616 := Nat.lt_of_le_of_lt (Nat.div_le_self _ _) hvh.out
      have e0 := H.out.get k (by omega)
      have z0 := Blk.frozen H.out k
      have F := Lib.hid (show Nb (wr.setCell ⟨g3, k, none⟩ (.int .i64 (dgN v k))) g3 (mix zd (dgN v) (k + 1)) from Blk.fstep (v := fun z : Int => Value.int .i64 z) H.out)
      have FK := Lib.hid (HK.out.setCell (p := ⟨g3, k, none⟩) (.inl (by simp)) (Value.int .i64 (dgN v k)))
      rw [hd, Int.natCast_emod] at F FK
      generalize v / 65536 ^ k = x at *
      replace hn := Lib.hid hn
      clear hd
      go_wp2_with fail
      go_roundg (4 - (k + 1))
      case measure => omega
      case rel => exact ⟨k + 1, by omega, by omega, by go_num, by rw [hn.out]; simp, F.out, FK.out⟩
    · obtain rfl : k = 4 := by omega
      have F := Lib.hid (show Nb wr g3 (dgN v) from H.out.same fun i _ => by
        unfold mix
        split
        · rfl
        · exact (dgN_high v i hvh.out (by omega)).symm)
      go_wp2_with (first
        | (with_reducible refine wpl_load_row (o := ⟨some 16, _, _, _, _, _⟩) arrN.row rfl (.tmp 3) rfl rfl F.out rfl ?_)
        | ((with_reducible refine wpl_store_row (o := ⟨none, .store 34 (.tmp 2) (.tmp 16), _, _, _, _⟩) arrN.row rfl (.tmp 2) (.tmp 16) rfl rfl rfl (B2.out.kept HK.out (by simpa using D.out.2.2.1)) rfl rfl (one_nu _) ?_); intro v2 b2 k2))
      exact ret_row arrN.row rfl rfl b2 rfl rfl ⟨rfl, (D.out.2.2.2.then1 HK.out D.out.2.1).then1 k2 D.out.1⟩

def aN (a b : Nat → Int) (i : Nat) : Int := a i + b i
def sN (a b : Nat → Int) (i : Nat) : Int := a i - b i
theorem dv_add (a b : Nat → Int) : ∀ n, dv (aN a b) n = dv a n + dv b n
  | 0 => rfl
  | n + 1 => by rw [dv, dv, dv, dv_add a b n]; unfold aN; grind
set_option maxRecDepth 100000 in
set_option maxHeartbeats 1600000 in
theorem radd_big (a b : Nat → Int) (ha : Sm 280000 a) (hb : Sm 280000 b) (w : World) :
    Calls Try.prog 61 #[nu a, nu b] w fun e w' => e = .returned (nu (aN a b)) ∧ Kept [] w w' := by
  have sa := Lib.hid ha
  have sb := Lib.hid hb
  clear ha hb
  go_enter Try.func61, Try.ntmps61
  go_wp2_with (first
    | ((with_reducible refine wpl_box (o := ⟨some 2, _, _, _, _, _⟩) (v := nu a) rfl (.tmp 0) rfl rfl ?_); intro g2 w2 m2)
    | ((with_reducible refine wpl_box (o := ⟨some 3, _, _, _, _, _⟩) (v := nu b) rfl (.tmp 1) rfl rfl ?_); intro g3 w3 m3)
    | ((with_reducible refine wpl_new (o := ⟨some 4, _, _, _, _, _⟩) rfl rfl zeroN ?_); intro g4 w4 m4)
    | ((with_reducible refine wpl_new (o := ⟨some 5, _, _, _, _, _⟩) rfl rfl zeroN ?_); intro g5 w5 m5))
  have B2 := Lib.hid (((m2.blk.kept m3.kept (by simp)).kept m4.kept (by simp)).kept m5.kept (by simp))
  have B3 := Lib.hid ((m3.blk.kept m4.kept (by simp)).kept m5.kept (by simp))
  have B4 := Lib.hid (m4.blk.kept m5.kept (by simp))
  have H5 := Lib.hid (show Nb w5 g5 (mix zd (aN a b) 0) from by unfold Nb; rw [mix_zero]; exact m5.blk)
  have K3 := (m2.kept.then0 m3.kept)
  have D := Lib.hid (show w.heap.size ≤ g4 ∧ w.heap.size ≤ g5 ∧ g2 ≠ g5 ∧ g3 ≠ g5 ∧ g4 ≠ g5 ∧ Kept [] w w5 from ⟨Nat.le_trans K3.size m4.le, Nat.le_trans (K3.then0 m4.kept).size m5.le, m5.ne (((m2.blk.kept m3.kept (by simp)).kept m4.kept (by simp)).lt), m5.ne ((m3.blk.kept m4.kept (by simp)).lt), m5.ne m4.blk.lt, (K3.then0 m4.kept).then0 m5.kept⟩)
  clear m2 m3 m4 m5 K3
  go_loopg [7] 16 (fun f i wk => ∃ k : Nat, k ≤ 16 ∧ f + k = 16 ∧ i = .int .i64 k ∧ Nb wk g5 (mix zd (aN a b) k) ∧ Kept [g5] w5 wk)
  case atStart => exact ⟨0, Nat.zero_le _, rfl, rfl, H5.out, Kept.refl _ _⟩
  case round =>
    obtain ⟨k, hk, hf, rfl, hb, hkw⟩ := hrel
    have H := Lib.hid hb
    have HK := Lib.hid hkw
    clear hb hkw
    by_cases hlt : k < 16
    · have c1 := Nb.get (d := a) (B2.out.kept HK.out (by simpa using D.out.2.2.1)) k hlt
      have c2 := Nb.get (d := b) (B3.out.kept HK.out (by simpa using D.out.2.2.2.1)) k hlt
      have e0 := H.out.get k hlt
      have z0 := Blk.frozen H.out k
      have b1 := sa.out k hlt
      have b2 := sb.out k hlt
      have F := Lib.hid (show Nb (wr.setCell ⟨g5, k, none⟩ (.int .i64 (a k + b k))) g5 (mix zd (aN a b) (k + 1)) from Blk.fstep (v := fun z : Int => Value.int .i64 z) H.out)
      have FK := Lib.hid (HK.out.setCell (p := ⟨g5, k, none⟩) (.inl (by simp)) (Value.int .i64 (a k + b k)))
      generalize a k = x at *
      generalize b k = y at *
      obtain ⟨b11, b12⟩ := b1
      obtain ⟨b21, b22⟩ := b2
      go_wp2_with fail
      refine Txt.wp_text (by kernel_rfl) (by kernel_rfl) ?_
      go_wp2_with fail
      refine ⟨rfl, by kernel_rfl, ?_⟩
      go_wp2_with fail
      go_roundg (16 - (k + 1))
      case measure => omega
      case rel => exact ⟨k + 1, by omega, by omega, by go_num, Blk.drew F.out, FK.out.drew⟩
    · obtain rfl : k = 16 := by omega
      have F := Lib.hid (show Nb wr g5 (aN a b) from by have := H.out; unfold Nb at this; rwa [mix_full] at this)
      go_wp2_with (first
        | (with_reducible refine wpl_load_row (o := ⟨some 20, _, _, _, _, _⟩) arrN.row rfl (.tmp 5) rfl rfl F.out rfl ?_)
        | ((with_reducible refine wpl_store_row (o := ⟨none, .store 34 (.tmp 4) (.tmp 20), _, _, _, _⟩) arrN.row rfl (.tmp 4) (.tmp 20) rfl rfl rfl (B4.out.kept HK.out (by simpa using D.out.2.2.2.2.1)) rfl rfl (one_nu _) ?_); intro v2 b2 k2))
      exact ret_row arrN.row rfl rfl b2 rfl rfl ⟨rfl, (D.out.2.2.2.2.2.then1 HK.out D.out.2.1).then1 k2 D.out.1⟩
set_option maxRecDepth 100000 in
set_option maxHeartbeats 1600000 in
theorem rsub_big (a b : Nat → Int) (ha : Sm 280000 a) (hb : Sm 280000 b) (w : World) :
    Calls Try.prog 47 #[nu a, nu b] w fun e w' => e = .returned (nu (sN a b)) ∧ Kept [] w w' := by
  have sa := Lib.hid ha
  have sb := Lib.hid hb
  clear ha hb
  go_enter Try.func47, Try.ntmps47
  go_wp2_with (first
    | ((with_reducible refine wpl_box (o := ⟨some 2, _, _, _, _, _⟩) (v := nu a) rfl (.tmp 0) rfl rfl ?_); intro g2 w2 m2)
    | ((with_reducible refine wpl_box (o := ⟨some 3, _, _, _, _, _⟩) (v := nu b) rfl (.tmp 1) rfl rfl ?_); intro g3 w3 m3)
    | ((with_reducible refine wpl_new (o := ⟨some 4, _, _, _, _, _⟩) rfl rfl zeroN ?_); intro g4 w4 m4)
    | ((with_reducible refine wpl_new (o := ⟨some 5, _, _, _, _, _⟩) rfl rfl zeroN ?_); intro g5 w5 m5))
  have B2 := Lib.hid (((m2.blk.kept m3.kept (by simp)).kept m4.kept (by simp)).kept m5.kept (by simp))
  have B3 := Lib.hid ((m3.blk.kept m4.kept (by simp)).kept m5.kept (by simp))
  have B4 := Lib.hid (m4.blk.kept m5.kept (by simp))
  have H5 := Lib.hid (show Nb w5 g5 (mix zd (sN a b) 0) from by unfold Nb; rw [mix_zero]; exact m5.blk)
  have K3 := (m2.kept.then0 m3.kept)
  have D := Lib.hid (show w.heap.size ≤ g4 ∧ w.heap.size ≤ g5 ∧ g2 ≠ g5 ∧ g3 ≠ g5 ∧ g4 ≠ g5 ∧ Kept [] w w5 from ⟨Nat.le_trans K3.size m4.le, Nat.le_trans (K3.then0 m4.kept).size m5.le, m5.ne (((m2.blk.kept m3.kept (by simp)).kept m4.kept (by simp)).lt), m5.ne ((m3.blk.kept m4.kept (by simp)).lt), m5.ne m4.blk.lt, (K3.then0 m4.kept).then0 m5.kept⟩)
  clear m2 m3 m4 m5 K3
  go_loopg [7] 16 (fun f i wk => ∃ k : Nat, k ≤ 16 ∧ f + k = 16 ∧ i = .int .i64 k ∧ Nb wk g5 (mix zd (sN a b) k) ∧ Kept [g5] w5 wk)
  case atStart => exact ⟨0, Nat.zero_le _, rfl, rfl, H5.out, Kept.refl _ _⟩
  case round =>
    obtain ⟨k, hk, hf, rfl, hb, hkw⟩ := hrel
    have H := Lib.hid hb
    have HK := Lib.hid hkw
    clear hb hkw
    by_cases hlt : k < 16
    · have c1 := Nb.get (d := a) (B2.out.kept HK.out (by simpa using D.out.2.2.1)) k hlt
      have c2 := Nb.get (d := b) (B3.out.kept HK.out (by simpa using D.out.2.2.2.1)) k hlt
      have e0 := H.out.get k hlt
      have z0 := Blk.frozen H.out k
      have b1 := sa.out k hlt
      have b2 := sb.out k hlt
      have F := Lib.hid (show Nb (wr.setCell ⟨g5, k, none⟩ (.int .i64 (a k - b k))) g5 (mix zd (sN a b) (k + 1)) from Blk.fstep (v := fun z : Int => Value.int .i64 z) H.out)
      have FK := Lib.hid (HK.out.setCell (p := ⟨g5, k, none⟩) (.inl (by simp)) (Value.int .i64 (a k - b k)))
      generalize a k = x at *
      generalize b k = y at *
      obtain ⟨b11, b12⟩ := b1
      obtain ⟨b21, b22⟩ := b2
      go_wp2_with fail
      refine Txt.wp_text (by kernel_rfl) (by kernel_rfl) ?_
      go_wp2_with fail
      refine ⟨rfl, by kernel_rfl, ?_⟩
      go_wp2_with fail
      go_roundg (16 - (k + 1))
      case measure => omega
      case rel => exact ⟨k + 1, by omega, by omega, by go_num, Blk.drew F.out, FK.out.drew⟩
    · obtain rfl : k = 16 := by omega
      have F := Lib.hid (show Nb wr g5 (sN a b) from by have := H.out; unfold Nb at this; rwa [mix_full] at this)
      go_wp2_with (first
        | (with_reducible refine wpl_load_row (o := ⟨some 20, _, _, _, _, _⟩) arrN.row rfl (.tmp 5) rfl rfl F.out rfl ?_)
        | ((with_reducible refine wpl_store_row (o := ⟨none, .store 34 (.tmp 4) (.tmp 20), _, _, _, _⟩) arrN.row rfl (.tmp 4) (.tmp 20) rfl rfl rfl (B4.out.kept HK.out (by simpa using D.out.2.2.2.2.1)) rfl rfl (one_nu _) ?_); intro v2 b2 k2))
      exact ret_row arrN.row rfl rfl b2 rfl rfl ⟨rfl, (D.out.2.2.2.2.2.then1 HK.out D.out.2.1).then1 k2 D.out.1⟩
theorem radd_any (a b : Nat → Int) (ha : Sm 70000 a) (hb : Sm 70000 b) (w : World) :
    Calls Try.prog 61 #[nu a, nu b] w fun e w' => e = .returned (nu (aN a b)) ∧ Kept [] w w' := radd_big a b (ha.le (by omega)) (hb.le (by omega)) w
theorem rsub_any (a b : Nat → Int) (ha : Sm 70000 a) (hb : Sm 70000 b) (w : World) :
    Calls Try.prog 47 #[nu a, nu b] w fun e w' => e = .returned (nu (sN a b)) ∧ Kept [] w w' := rsub_big a b (ha.le (by omega)) (hb.le (by omega)) w
end Go.Proofs.Ytkflljjcgihaoaa
