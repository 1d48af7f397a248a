/-
  The wire: where the bounds lie (WireBounds).
-/
import Derived.Test.YtbhjhfemicbhaaaWire3
import Derived.Test.YtbhjhfemicbhaaaMem6
namespace Go.Proofs.Ytbhjhfemicbhaaa
open Go.RowKit Go.Mem

theorem beV_be8 (n : Nat) (h : n < 18446744073709551616) : beV (be8 n) = n := by
  have e : be8 n = [UInt8.ofNat (n / 256 ^ 7), UInt8.ofNat (n / 256 ^ 6), UInt8.ofNat (n / 256 ^ 5), UInt8.ofNat (n / 256 ^ 4), UInt8.ofNat (n / 256 ^ 3), UInt8.ofNat (n / 256 ^ 2), UInt8.ofNat (n / 256 ^ 1), UInt8.ofNat (n / 256 ^ 0)] := rfl
  rw [e]
  simp only [beV, List.foldl_cons, List.foldl_nil, UInt8.toNat_ofNat']
  omega

theorem sNum_be8 (n : Nat) (r : List UInt8) (h : n < 18446744073709551616) : sNum (0, be8 n ++ r) = (n, (0, r)) := by
  have h1 : sTake 8 (0, be8 n ++ r) = (be8 n, (0, r)) := by
    unfold sTake
    rw [if_pos rfl, if_pos (by simp [be8_len])]
    simp only
    rw [List.take_left' (by rw [be8_len]), List.drop_left' (by rw [be8_len])]
  unfold sNum
  rw [h1, beV_be8 n h]
theorem sBnd_be8 (most n : Nat) (r : List UInt8) (h : n < 18446744073709551616) : sBnd most (0, be8 n ++ r) = if most < n then (0, (12, r)) else (n, (0, r)) := by
  unfold sBnd
  rw [sNum_be8 n r h]

theorem mod40 (x : Int) : ∃ k : Nat, (IntKind.u64.wrap x).tmod 40 = k ∧ k < 40 := by
  rw [IntKind.wrap_u64]
  have h0 : 0 ≤ x % 18446744073709551616 := Int.emod_nonneg _ (by omega)
  rw [Int.tmod_eq_emod_of_nonneg h0]
  exact ⟨(x % 18446744073709551616 % 40).toNat, by omega, by omega⟩

set_option maxRecDepth 100000 in
set_option maxHeartbeats 2000000 in
theorem bounds_walk (n : Nat) (x : Int) (w : World) (hn : n < 18446744073709551616) :
    Calls Try.prog 4 #[.int .u64 n, .int .i64 x] w fun e w' => e = .returned (.bool true) ∧ Kept [] w w' := by
  obtain ⟨k, hk, hk40⟩ := mod40 x
  have e1 := sBnd_be8 1048576 n (List.replicate k 0) hn
  have e2 := sBnd_be8 65536 n [] hn
  obtain ⟨xs, t1, h1⟩ : ∃ xs t1, sBytes (0, be8 n ++ List.replicate k 0) = (xs, t1) := ⟨_, _, rfl⟩
  obtain ⟨c, t2, h2⟩ : ∃ c t2, sBnd 65536 (0, be8 n ++ []) = (c, t2) := ⟨_, _, rfl⟩
  rw [h2] at e2
  have hc : (1048576 < n ∧ xs = [] ∧ sDone t1 = 12) ∨ (n ≤ 1048576 ∧ k < n ∧ xs = [] ∧ sDone t1 = 10) ∨ (n < k ∧ n = 0 ∧ xs = [] ∧ sDone t1 = 11) ∨ (n < k ∧ 0 < n ∧ xs.length = n ∧ sDone t1 = 11) ∨ (n = k ∧ xs.length = n ∧ sDone t1 = 0) := by
    unfold sBytes at h1
    rw [e1] at h1
    by_cases hb : 1048576 < n
    · rw [if_pos hb] at h1
      simp [sTake] at h1
      obtain ⟨rfl, rfl⟩ := h1
      exact .inl ⟨hb, rfl, by simp [sDone]⟩
    · rw [if_neg hb] at h1
      simp only [sTake, if_true, List.length_replicate] at h1
      by_cases hl : n ≤ k
      · rw [if_pos hl] at h1
        simp at h1
        obtain ⟨rfl, rfl⟩ := h1
        rcases Nat.lt_trichotomy n k with h | h | h
        · by_cases h0 : n = 0
          · exact .inr (.inr (.inl ⟨h, h0, by rw [h0]; simp, by simp [sDone]; omega⟩))
          · exact .inr (.inr (.inr (.inl ⟨h, by omega, by simp; omega, by simp [sDone]; omega⟩)))
        · exact .inr (.inr (.inr (.inr ⟨h, by simp; omega, by simp [sDone]; omega⟩)))
        · omega
      · rw [if_neg hl] at h1
        simp at h1
        obtain ⟨rfl, rfl⟩ := h1
        exact .inr (.inl ⟨by omega, by omega, rfl, by simp [sDone]⟩)
  have hd : (65536 < n ∧ c = 0 ∧ sDone t2 = 12) ∨ (n ≤ 65536 ∧ c = n ∧ sDone t2 = 0) := by
    by_cases hb : 65536 < n
    · rw [if_pos hb] at e2
      simp at e2
      obtain ⟨rfl, rfl⟩ := e2
      exact .inl ⟨hb, rfl, by simp [sDone]⟩
    · rw [if_neg hb] at e2
      simp at e2
      obtain ⟨rfl, rfl⟩ := e2
      exact .inr ⟨by omega, rfl, by simp [sDone]⟩
  clear e1 e2
  have hh1 := Lib.hid h1
  have hh2 := Lib.hid h2
  have hc2 := Lib.hid hc
  have hd2 := Lib.hid hd
  clear h1 h2 hc hd
  go_enter Try.func4, Try.ntmps4
  go_wp2_with (first
    | (go_at_call 8; refine (first_true _).mono ?_; rintro e w1 ⟨rfl, hk⟩; have k1 := Lib.hid hk; clear hk)
    | (go_at_call 10; refine (number_any _ [] n _ (Rd.nil _ _) (by simp) hn).mono ?_; rintro e w2 ⟨ov, rfl, hw⟩; have n2 := Lib.hid hw; clear hw)
    | (at_builtin; refine wpl_app_made bytesT rfl rfl Try.underlying3 rfl (.tmp 20) (.tmp 21) rfl rfl n2.out.ow k rfl ?_ ?_ ?_))
  case refine_1 => simp [be8_len]; omega
  case refine_2 => simp [be8_len]; omega
  intro bv3 w3 ho hk3 hb3
  have hrd : Rd w3 1 bv3 (be8 n ++ List.replicate k 0).length (bv (be8 n ++ List.replicate k 0)) := by
    have := Rd.of_ow ho
    simpa [bv, byteV] using this
  have hk4 : Kept [] w1 w3 := n2.out.kept.fresh hk3 n2.out.old
  have hrd2 := Lib.hid hrd
  have k3 := Lib.hid (k1.out.then0 hk4)
  clear hrd ho hk3 hb3 hk4
  go_wp2_with (go_at_call 11; refine (new_any _ _ _ hrd2.out (by simp [be8_len]; omega)).mono ?_; rintro e w4 ⟨r1, rfl, hr, hk, hle⟩; have hr4 := Lib.hid hr; have k4 := Lib.hid (k3.out.then0 hk); have l4 := Lib.hid (Nat.le_trans k3.out.size hle); clear hr hk hle)
  refine (number_any _ [] n _ (Rd.nil _ _) (by simp) hn).mono ?_
  rintro e w5 ⟨ov5, rfl, hw⟩
  have n5 := Lib.hid hw
  clear hw
  go_wp2_with fail
  refine (new_any _ _ _ (Rd.of_ow n5.out.ow) (by simp [be8_len])).mono ?_
  rintro e w6 ⟨r2, rfl, hr, hk, hle⟩
  have hr6 := Lib.hid hr
  have hr61 := Lib.hid ((hr4.out.kept0 n5.out.kept).kept0 hk)
  have k6 := Lib.hid ((k4.out.then0 n5.out.kept).then0 hk)
  have l6 := Lib.hid (Nat.le_trans (k4.out.then0 n5.out.kept).size hle)
  have hne0 : r2 ≠ r1 := by
    have := (hr4.out.kept0 n5.out.kept).lt
    omega
  have hne := Lib.hid hne0
  clear hr hk hle hne0
  go_wp2_with fail
  refine (bytes_read _ _ _ hr61.out).mono ?_
  rintro e w7 ⟨xv, rfl, ho, _, hr, hk⟩
  rw [hh1.out] at ho hr
  obtain ⟨XA, xc, rfl, _⟩ := ho.shape
  have hr7 := Lib.hid hr
  have hr72 := Lib.hid (hr6.out.other hr61.out hk hne.out)
  have k7 := Lib.hid (kfresh k6.out hk l4.out)
  clear ho hr hk
  go_wp2_with fail
  refine (count_any _ _ _ hr72.out).mono ?_
  rw [show ([] ++ be8 n : List UInt8) = be8 n ++ [] from by simp, hh2.out]
  rintro e w8 ⟨rfl, hr, hk⟩
  have hr8 := Lib.hid hr
  have hr81 := Lib.hid (hr7.out.other hr72.out hk (Ne.symm hne.out))
  have k8 := Lib.hid (kfresh k7.out hk l6.out)
  clear hr hk
  dsimp only at hr8 hr81
  have hc3 := hc2.out
  have hd3 := hd2.out
  rcases hd3 with ⟨d1, rfl, d3⟩ | ⟨d1, rfl, d3⟩ <;> rcases hc3 with ⟨c1, rfl, c3⟩ | ⟨c1, c2, rfl, c3⟩ | ⟨c1, rfl, rfl, c3⟩ | ⟨c1, c2, c4, c3⟩ | ⟨rfl, c4, c3⟩ <;> (first
    | (exfalso; omega)
    | (go_wp2_with (first
        | (go_at_call 14; with_reducible refine (done_any _ _ _ hr81.out).mono ?_; rintro e w' ⟨rfl, rfl⟩)
        | (go_at_call 14; with_reducible refine (done_any _ _ _ hr8.out).mono ?_; rintro e w' ⟨rfl, rfl⟩))
       all_goals (go_ret; exact ⟨rfl, k8.out⟩)))

theorem wf_u64 {z : Int} (h : (Lit.int .u64 z).wf = true) : 0 ≤ z ∧ z ≤ 18446744073709551615 := by
  simp [Lit.wf, IntKind.min, IntKind.max, IntKind.signed, IntKind.bits] at h
  omega
theorem bounds_law (n x : Int) (w : World) (hn : (Lit.int .u64 n).wf = true) (_ : (Lit.int .i64 x).wf = true) :
    Calls Try.prog 4 #[.int .u64 n, .int .i64 x] w fun e w' => e = .returned (.bool true) ∧ Kept [] w w' := by
  have h := wf_u64 hn
  obtain ⟨m, rfl⟩ : ∃ m : Nat, n = m := ⟨n.toNat, by omega⟩
  exact bounds_walk m x w (by omega)

end Go.Proofs.Ytbhjhfemicbhaaa
