/-
  Scalars: bytes out of words; wide numbers; sums; bits.
-/
import Derived.Test.YtfamfdihflkdpaaSc4
namespace Go.Proofs.Ytfamfdihflkdpaa
open Go.RowKit Go.Mem

theorem arrB : ArrT Try.prog 22 5 32 := ⟨Try.underlying22, by kernel_rfl⟩
theorem zeroB : (Try.prog.info? 22).map (·.zero) = some (some (ab (noughts 32))) := by kernel_rfl

/-- The first n bytes of x. -/
def le (x n : Nat) : List UInt8 := (List.range n).map fun i => UInt8.ofNat (x / 2 ^ (8 * i) % 256)
theorem le_len (x n : Nat) : (le x n).length = n := by simp [le]
theorem le_get (x n i : Nat) (h : i < n) : (le x n)[i]'(by rw [le_len]; exact h) = UInt8.ofNat (x / 2 ^ (8 * i) % 256) := by simp [le]
theorem leV_le : ∀ (n x : Nat), leV (le x n) = x % 2 ^ (8 * n)
  | 0, x => by simp [le, leV, Nat.mod_one]
  | n + 1, x => by
    have h := leV_le n (x / 256)
    have e : le x (n + 1) = UInt8.ofNat (x % 256) :: le (x / 256) n := by
      unfold le
      rw [List.range_succ_eq_map, List.map_cons, List.map_map]
      congr 1
      · simp
      apply List.map_congr_left
      intro i _
      simp only [Function.comp_apply]
      rw [show 8 * (i.succ) = 8 + 8 * i from by omega, Nat.pow_add, ← Nat.div_div_eq_div_mul]
    have hm : (UInt8.ofNat (x % 256)).toNat = x % 256 := by rw [UInt8.toNat_ofNat']; omega
    rw [e, leV, h, hm, show 8 * (n + 1) = 8 + 8 * n from by omega, Nat.pow_add]
    show _ = x % (256 * _)
    rw [Nat.mod_mul]
theorem le_leV : ∀ l : List UInt8, le (leV l) l.length = l
  | [] => rfl
  | a :: l => by
    have h := le_leV l
    have ha := a.toNat_lt
    unfold le
    rw [List.length_cons, List.range_succ_eq_map, List.map_cons, List.map_map]
    congr 1
    · have : leV (a :: l) / 2 ^ (8 * 0) % 256 = a.toNat := by simp only [leV, Nat.mul_zero, Nat.pow_zero, Nat.div_one]; omega
      rw [this]; simp
    · conv => rhs; rw [← h]
      unfold le
      apply List.map_congr_left
      intro i _
      simp only [Function.comp_apply]
      rw [show 8 * (i.succ) = 8 + 8 * i from by omega, Nat.pow_add, ← Nat.div_div_eq_div_mul]
      congr 3
      show (a.toNat + 256 * leV l) / 256 = leV l
      omega
theorem le_inj {x y n : Nat} (hx : x < 2 ^ (8 * n)) (hy : y < 2 ^ (8 * n)) : (le x n == le y n) = decide (x = y) := by
  rw [Bool.eq_iff_iff, beq_iff_eq, decide_eq_true_iff]
  constructor
  · intro h
    have := congrArg leV h
    rwa [leV_le, leV_le, Nat.mod_eq_of_lt hx, Nat.mod_eq_of_lt hy] at this
  · rintro rfl; rfl

theorem byte_word (x i : Nat) : wrd x (i / 8) / 2 ^ (8 * (i % 8)) % 256 = x / 2 ^ (8 * i) % 256 := by
  unfold wrd
  have e : 8 * i = 64 * (i / 8) + 8 * (i % 8) := by omega
  rw [e, Nat.pow_add, ← Nat.div_div_eq_div_mul]
  generalize x / 2 ^ (64 * (i / 8)) = U
  have hr : i % 8 = 0 ∨ i % 8 = 1 ∨ i % 8 = 2 ∨ i % 8 = 3 ∨ i % 8 = 4 ∨ i % 8 = 5 ∨ i % 8 = 6 ∨ i % 8 = 7 := by omega
  rcases hr with h | h | h | h | h | h | h | h <;> rw [h] <;> simp only [Nat.reduceMul, Nat.reducePow] <;> omega

theorem byte_of (x i : Nat) (h : i < 32) : (((wrd x (i / 8) : Nat) : Int) / 2 ^ (8 * (i % 8)) % 256) = (((le x 32)[i]'(by rw [le_len]; exact h)).toNat : Int) := by
  rw [le_get x 32 i h, UInt8.toNat_ofNat', ← byte_word]
  have : ((wrd x (i / 8) : Nat) : Int) / 2 ^ (8 * (i % 8)) = ((wrd x (i / 8) / 2 ^ (8 * (i % 8)) : Nat) : Int) := by simp
  rw [this]
  omega

set_option maxHeartbeats 800000 in
theorem hash_any (x : Nat) (w : World) : Calls Try.prog 10 #[w4 x] w fun e w' => e = .returned (ab (le x 32)) ∧ Kept [] w w' := by
  go_enter Try.func10, Try.ntmps10
  go_wp2_with (first
    | ((with_reducible refine wpl_box (o := ⟨some 1, _, _, _, _, _⟩) (v := w4 x) rfl (.tmp 0) rfl rfl ?_); intro g1 w1 m1)
    | ((with_reducible refine wpl_new (o := ⟨some 2, _, _, _, _, _⟩) rfl rfl zeroB ?_); intro g2 w2 m2)
    | ((with_reducible refine wpl_new (o := ⟨some 3, _, _, _, _, _⟩) rfl rfl zeroB ?_); intro g3 w3 m3))
  have N := Lib.hid (And.intro (m3.ne (m2.kept.lt m1.blk.lt)) (m3.ne m2.blk.lt))
  have b1 := Lib.hid ((m1.blk.kept m2.kept (by simp)).kept m3.kept (by simp))
  have b2 := Lib.hid (m2.blk.kept m3.kept (by simp))
  have b3 := Lib.hid m3.blk
  have M := Lib.hid (And.intro ((m1.kept.then0 m2.kept).then0 m3.kept) (And.intro (Nat.le_trans m1.kept.size m2.le) (Nat.le_trans (m1.kept.then0 m2.kept).size m3.le)))
  clear m1 m2 m3
  go_loopg [5] 32 (fun f i wk => ∃ k : Nat, k ≤ 32 ∧ f + k = 32 ∧ i = .int .i64 k ∧ Blk wk g3 22 (bv (over (noughts 32) 0 ((le x 32).take k))).toArray ∧ Kept [g3] w3 wk)
  case atStart => exact ⟨0, Nat.zero_le _, rfl, rfl, b3.out, Kept.refl _ _⟩
  case round =>
    obtain ⟨k, hk, hf, rfl, hb, hkw⟩ := hrel
    by_cases hlt : k < 32
    · have hb1 : Blk wr g1 27 (uv (ws4 x)).toArray := b1.out.kept hkw (by simpa using N.out.1)
      have c1 := Blk.w4get hb1 (k / 8) (by omega)
      have hfz := hb.frozen k
      have c3 := hb.bget k (by rw [over_len _ _ _ (by simp [le_len]; omega)]; simpa using hlt)
      have hby := byte_of x k hlt
      have hst := hb.set_ k (byteV ((le x 32)[k]'(by rw [le_len]; exact hlt)))
      rw [over_stepB (noughts 32) (le x 32) k (by rw [le_len]; exact hlt) (by simp [le_len])] at hst
      have hst2 := Lib.hid hst
      have hk2 := Lib.hid (hkw.setCell (p := ⟨g3, k, none⟩) (.inl (by simp)) (byteV ((le x 32)[k]'(by rw [le_len]; exact hlt))))
      unfold byteV at hst2 hk2
      clear hst hb hkw hb1
      go_wp2_with fail
      go_roundg (32 - (k + 1))
      case measure => omega
      case rel => exact ⟨k + 1, by omega, by omega, by go_num, hst2.out, hk2.out⟩
    · obtain rfl : k = 32 := by omega
      have hb2 := Lib.hid hb
      have hk2 := Lib.hid hkw
      clear hb hkw
      rw [List.take_of_length_le (by rw [le_len]; exact Nat.le_refl _), over_all _ _ (by rw [le_len]; rfl)] at hb2
      go_wp2_with (first
        | (refine wpl_load_arr arrB rfl (.tmp 3) rfl rfl hb2.out (by simp [le_len]) ?_)
        | (refine wpl_store_arr arrB rfl (.tmp 2) (.tmp 22) rfl rfl rfl (b2.out.kept hk2.out (by simpa using N.out.2)) rfl (by simp [le_len]) (one_ab _) ?_; intro w5 b6 k6))
      exact ret_arr arrB rfl rfl b6 (by simp [le_len]) rfl ⟨rfl, (M.out.1.then1 hk2.out M.out.2.2).then1 k6 M.out.2.1⟩

theorem leV_lt2 (l : List UInt8) : leV l < 2 ^ (8 * l.length) := by
  have := leV_lt l
  rwa [show (256 : Nat) = 2 ^ 8 from rfl, ← Nat.pow_mul] at this
theorem val_leV (bs : List UInt8) (m : Nat) (h : bs.length = 8 * m) : val (wds (leV bs) m) = leV bs := by
  rw [val_wds]
  have := leV_lt2 bs
  rw [h, show 8 * (8 * m) = 64 * m from by omega] at this
  exact Nat.mod_eq_of_lt this

theorem words_at (v : Value) (bs : List UInt8) (n m : Nat) (w : World) (hl : bs.length = n) (hr : Rd w 1 v n (bv bs)) (hm : n = 8 * m) (hm8 : m ≤ 8) :
    Calls Try.prog 26 #[v] w fun e w' => ∃ g, e = .returned (.slice (some ⟨g, 0, none⟩) m m) ∧ Blk w' g 24 (uv (wds (leV bs) m)).toArray ∧ Kept [] w w' ∧ w.heap.size ≤ g := by
  subst hl
  exact words_any v bs m w hr hm hm8

theorem wide_any (bs : List UInt8) (hl : bs.length = 64) (w : World) : Calls Try.prog 19 #[ab bs] w fun e w' => e = .returned (w4 (leV bs % LL)) ∧ Kept [] w w' := by
  have hl2 := Lib.hid hl
  have hlen := Lib.hid (show (bv bs).length = 64 by simp [hl])
  clear hl
  go_enter Try.func19, Try.ntmps19
  go_wp2_with (first
    | ((with_reducible refine wpl_box (o := ⟨some 1, _, _, _, _, _⟩) (v := ab bs) rfl (.tmp 0) rfl rfl ?_); intro g1 w1 m1)
    | ((with_reducible refine wpl_new (o := ⟨some 2, _, _, _, _, _⟩) rfl rfl zeroSc ?_); intro g2 w2 m2))
  have hrd : Rd w2 1 (.slice (some ⟨g1, 0, none⟩) 64 64) 64 (bv bs) := Blk.rd (m1.blk.kept m2.kept (by simp)) hlen.out (Nat.le_refl _)
  refine (words_at _ bs 64 8 _ hl2.out hrd rfl (by omega)).mono ?_
  rintro e w3 ⟨g3, rfl, b3, k3, l3⟩
  have hrd3 : Rd w3 1 (.slice (some ⟨g3, 0, none⟩) 8 8) (wds (leV bs) 8).length (uv (wds (leV bs) 8)) := Blk.rd b3 (by simp [wds_len]) (Nat.le_refl _)
  have H := Lib.hid hrd3
  have K := Lib.hid (And.intro m1 (And.intro m2 k3))
  clear hrd hrd3 b3 m1 m2 k3 l3
  go_wp2_with (first
    | (go_at_call 25; refine (long_at _ _ 8 _ (wds_len _ _) H.out (wds_lt _ _) (by omega)).mono ?_; rintro e w4 ⟨rfl, k4⟩; have b2 := (K.out.2.1.blk.kept K.out.2.2 (by simp)).kept k4 (by simp); have k5 := Lib.hid k4; clear k4)
    | (refine wpl_store_row structSc rfl (.tmp 2) (.tmp 5) rfl rfl rfl b2 rfl rfl (one_uva _) ?_; intro w7 b8 k8))
  refine ret_row structSc rfl rfl b8 rfl rfl ⟨?_, ?_⟩
  · have e : val (wds (leV bs) 8) = leV bs := val_leV bs 8 hl2.out
    rw [e]
  · exact (((K.out.1.kept.then0 K.out.2.1.kept).then0 K.out.2.2).then0 k5.out).then1 k8 (Nat.le_trans K.out.1.kept.size K.out.2.1.le)
end Go.Proofs.Ytfamfdihflkdpaa
