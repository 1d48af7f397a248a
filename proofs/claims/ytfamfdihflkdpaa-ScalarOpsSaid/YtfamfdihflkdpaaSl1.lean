/-
  Scalars' laws: what is asked first; numbers of any bytes.
-/
import Derived.Test.YtfamfdihflkdpaaSc7
import Derived.Test.YtfamfdihflkdpaaFloat
namespace Go.Proofs.Ytfamfdihflkdpaa
open Go.RowKit Go.Mem

theorem bytesT : SliceT Try.prog 31 5 1 1 (.int .u8 0) := ⟨Try.underlying31, by kernel_rfl, rfl, by omega⟩
theorem arrL : ArrT Try.prog 35 5 64 := ⟨Try.underlying35, by kernel_rfl⟩
theorem zeroL : (Try.prog.info? 35).map (·.zero) = some (some (ab (noughts 64))) := by kernel_rfl
theorem leV_noughts : ∀ n, leV (noughts n) = 0
  | 0 => rfl
  | n + 1 => by
    show leV (0 :: noughts n) = 0
    rw [leV, leV_noughts n]; rfl
theorem leV_append : ∀ (a b : List UInt8), leV (a ++ b) = leV a + 256 ^ a.length * leV b
  | [], b => by simp [leV]
  | x :: a, b => by
    rw [List.cons_append, leV, leV, leV_append a b, List.length_cons, Nat.pow_succ, Nat.mul_add, Nat.mul_comm (256 ^ a.length) 256, ← Nat.mul_assoc, Nat.add_assoc]

theorem in_any (bs : List UInt8) (hl : bs.length = 32) (w : World) : Calls Try.prog 9 #[ab bs] w fun e w' => e = .returned (w4 (leV bs % LL)) ∧ Kept [] w w' := by
  have hl2 := Lib.hid hl
  have hlen := Lib.hid (show (bv bs).length = 32 by simp [hl])
  have ho := Lib.hid (show (over (noughts 64) 0 bs).length = 64 by rw [over_len _ _ _ (by simp [hl])]; simp)
  have hv := Lib.hid (show leV (over (noughts 64) 0 bs) = leV bs by
    rw [over0, leV_append, hl]
    have : (noughts 64).drop 32 = noughts 32 := rfl
    rw [this, leV_noughts, Nat.mul_zero, Nat.add_zero])
  clear hl
  go_enter Try.func9, Try.ntmps9
  go_wp2_with (first
    | ((with_reducible refine wpl_box (o := ⟨some 1, _, _, _, _, _⟩) (v := ab bs) rfl (.tmp 0) rfl rfl ?_); intro g1 w1 m1)
    | ((with_reducible refine wpl_new (o := ⟨some 2, _, _, _, _, _⟩) rfl rfl zeroSc ?_); intro g2 w2 m2)
    | ((with_reducible refine wpl_new (o := ⟨some 3, _, _, _, _, _⟩) rfl rfl zeroL ?_); intro g3 w3 m3))
  refine Txt.wp_text (by kernel_rfl) (by kernel_rfl) ?_
  have hrd : Rd w3.drew 1 (.slice (some ⟨g1, 0, none⟩) 32 32) 32 (bv bs) := Blk.rd ((m1.blk.kept m2.kept (by simp)).kept m3.kept (by simp)).drew hlen.out (Nat.le_refl _)
  have b3 := m3.blk.drew
  have n23 := m3.ne m2.blk.lt
  have M := Lib.hid (And.intro m1 (And.intro m2 (And.intro m3 n23)))
  have R := Lib.hid hrd
  clear hrd m1 m2 m3 n23
  go_wp2_with (refine wpl_cpy bytesT rfl (.tmp 4) (.tmp 5) rfl rfl b3 (Nat.le_of_eq rfl) rfl R.out (one_bv _) ?_; intro w4 b4 k4; clear b3)
  have e1 : (over (ab (noughts 64)).cells.toList 0 (List.take 64 (bv bs))).toArray = (bv (over (noughts 64) 0 bs)).toArray := by
    rw [List.take_of_length_le (by rw [hlen.out]; omega)]
    exact congrArg _ (over_bv (noughts 64) _ 0)
  rw [e1] at b4
  refine ⟨rfl, by kernel_rfl, ?_⟩
  have b5 := Lib.hid b4.drew
  have k5 := Lib.hid k4.from_drew
  clear b4 k4 e1
  go_wp2_with (first
    | (refine wpl_load_arr arrL rfl (.tmp 3) rfl rfl b5.out (by simpa using ho.out) ?_)
    | (go_at_call 19; refine (wide_any _ ho.out _).mono ?_; rintro e w6 ⟨rfl, k6⟩; have k7 := Lib.hid k6; clear k6)
    | (refine wpl_store_row structSc rfl (.tmp 2) (.tmp 8) rfl rfl rfl (((M.out.2.1.blk.kept M.out.2.2.1.kept (by simp)).kept k5.out (by have := M.out.2.2.2; simpa using this)).kept k7.out (by simp)) rfl rfl (one_uva _) ?_; intro w7 b8 k8))
  refine ret_row structSc rfl rfl b8 rfl rfl ⟨by rw [hv.out], ?_⟩
  have m := M.out
  exact (((((m.1.kept.then0 m.2.1.kept).then0 m.2.2.1.kept).then1 k5.out (Nat.le_trans (m.1.kept.then0 m.2.1.kept).size m.2.2.1.le)).then0 k7.out).then1 k8 (Nat.le_trans m.1.kept.size m.2.1.le))
end Go.Proofs.Ytfamfdihflkdpaa
