/-
  Field: a root of minus one; odd numbers.
-/
import Derived.Test.YthmpdhegodmjjaaFe17
namespace Go.Proofs.Ythmpdhegodmjjaa
open Go.RowKit Go.Mem Go.Txt

def m1F (i : Nat) : Nat := if i = 0 then 1718705420411056 else if i = 1 then 234908883556509 else if i = 2 then 2233514472574048 else if i = 3 then 2117202627021982 else 765476049583133
def M1 : Nat := 19681161376707505956807079304988542015446066515923890162744021073123829784752
theorem m1_lim : Lim m1F := by
  intro i _
  unfold m1F
  repeat' split
  all_goals decide
theorem m1_val : fv m1F = M1 := by decide +kernel
theorem rep_m1 : Rep m1F M1 := ⟨m1_lim, by rw [m1_val]⟩

set_option maxHeartbeats 800000 in
theorem minusOne_any (w : World) : Calls Try.prog 40 #[] w fun e w' => e = .returned (el m1F) ∧ Kept [] w w' := by
  go_enter Try.func40, Try.ntmps40
  go_wp2_with (first
    | ((with_reducible refine wpl_new (o := ⟨some 0, _, _, _, _, _⟩) rfl rfl zeroEl ?_); intro g1 w1 m1)
    | (refine wpl_store_row (cs := (uv (fam 5 m1F)).toArray) structEl rfl (.tmp 0) (.tmp 2) rfl rfl (by rfl) m1.blk rfl rfl (one_el _) ?_; intro w8 b8 k8))
  exact ret_row structEl rfl rfl b8 rfl rfl ⟨rfl, m1.kept.then1 k8 m1.le⟩

theorem byte0 (x : Nat) : (bv (le x 32)).toArray[0]? = some (.int .u8 ((x % 256 : Nat) : Int)) := by
  have h := le_get x 32 0 (by omega)
  have e : (le x 32)[0]? = some (UInt8.ofNat (x % 256)) := by
    rw [List.getElem?_eq_getElem (by rw [le_len]; omega), h]
    simp
  simp only [bv, List.getElem?_toArray, List.getElem?_map, e, Option.map_some]
  show some (Value.int .u8 (((UInt8.ofNat (x % 256)).toNat : Nat) : Int)) = _
  rw [UInt8.toNat_ofNat', show x % 256 % 2 ^ 8 = x % 256 from by omega]

set_option maxHeartbeats 800000 in
theorem odd_any (F : Nat → Nat) (w : World) (hF : Lim F) : Calls Try.prog 17 #[el F] w fun e w' => e = .returned (.bool (decide (fv F % PP % 2 = 1))) ∧ Kept [] w w' := by
  have hh := Lib.hid (fun W => fhash_any F W hF)
  obtain ⟨X, hX⟩ : ∃ X, X = fv F % PP := ⟨_, rfl⟩
  rw [← hX] at hh ⊢
  obtain ⟨b, hb⟩ : ∃ b, b = X % 256 := ⟨_, rfl⟩
  have hi : ∀ W, (Instr.index 29 (ab (le X 32)) (.int .i64 0)).run Try.prog W = .ok (.int .u8 ((b : Nat) : Int)) W := fun W => by
    have := run_index_arr arrB Try.underlying5 rfl (by kernel_rfl) .i64 0 (by omega) (byte0 X) W
    rw [← hb] at this
    exact this
  have hlt : b < 256 := by omega
  have hm : bits .and .u8 ((b : Nat) : Int) 1 = ((b : Nat) : Int) % 2 := bits_mask .u8 8 (by decide) wraps_u8 1 (by decide) _ (by omega) (by omega)
  rcases Nat.mod_two_eq_zero_or_one X with h | h
  · have hm2 : bits .and .u8 ((b : Nat) : Int) 1 = 0 := by rw [hm]; omega
    have hd : decide (X % 2 = 1) = false := by simp [h]
    rw [hd]
    clear hd hm h hb hX hF
    go_enter Try.func17, Try.ntmps17
    go_wp2_with (first
      | ((with_reducible refine wpl_box (o := ⟨some 1, _, _, _, _, _⟩) (v := el F) rfl (.tmp 0) rfl rfl ?_); intro g1 w1 m1)
      | (with_reducible refine wpl_load_row (o := ⟨some 3, _, _, _, _, _⟩) structEl rfl (.tmp 1) rfl rfl m1.blk rfl ?_)
      | (go_at_call 14; refine (hh.out _).mono ?_; rintro e u1 ⟨rfl, kk⟩; have H := Lib.hid (m1.kept.then0 kk); clear kk m1))
    go_ret
    exact ⟨rfl, H.out⟩
  · have hm2 : bits .and .u8 ((b : Nat) : Int) 1 = 1 := by rw [hm]; omega
    have hd : decide (X % 2 = 1) = true := by simp [h]
    rw [hd]
    clear hd hm h hb hX hF
    go_enter Try.func17, Try.ntmps17
    go_wp2_with (first
      | ((with_reducible refine wpl_box (o := ⟨some 1, _, _, _, _, _⟩) (v := el F) rfl (.tmp 0) rfl rfl ?_); intro g1 w1 m1)
      | (with_reducible refine wpl_load_row (o := ⟨some 3, _, _, _, _, _⟩) structEl rfl (.tmp 1) rfl rfl m1.blk rfl ?_)
      | (go_at_call 14; refine (hh.out _).mono ?_; rintro e u1 ⟨rfl, kk⟩; have H := Lib.hid (m1.kept.then0 kk); clear kk m1))
    go_ret
    exact ⟨rfl, H.out⟩
end Go.Proofs.Ythmpdhegodmjjaa
