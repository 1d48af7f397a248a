/-
  The document's number: its eight bytes.
-/
import Derived.Test.YtdbngnlpafcogaaWb0
import Derived.Test.YtdbngnlpafcogaaFam
namespace Go.Proofs.Ytdbngnlpafcogaa
open Go.RowKit Go.Mem Go.Txt

/-- The last bytes of a number's eight, from m on. -/
def tl8 (v m i : Nat) : UInt8 := if m ≤ i then UInt8.ofNat (v / 256 ^ (7 - i)) else 0
theorem tl8_all (v : Nat) : fam 8 (tl8 v 0) = be8 v := by
  unfold fam be8
  apply List.map_congr_left
  intro i _
  unfold tl8
  rw [if_pos (Nat.zero_le _)]
theorem tl8_none (v : Nat) : fam 8 (tl8 v 8) = noughts 8 := rfl
theorem mkb (n : Nat) (h : n ≤ 1000) : ∃ Z : Array Value, Z = (bv (noughts n)).toArray ∧ ∀ W : World, (Instr.makeSlice 23 (.int .i64 n) (.int .i64 n)).run Try.prog W = .ok (.slice (some ⟨W.heap.size, 0, none⟩) n n) (W.alloc (.cells Z 5)) := by
  refine ⟨madeCells #[.int .u8 0] n, Array.toList_inj.1 (made_zero n), fun W => ?_⟩
  exact run_mk bytesT n (by omega) (by omega) W
theorem new_of_blk {w w' : World} {g : Nat} {xs : List UInt8} (h : Blk w' g 5 (bv xs).toArray) (hk : Kept [] w w') (hg : w.heap.size ≤ g) (hl : xs.length ≤ 1000) : New w w' (.slice (some ⟨g, 0, none⟩) xs.length xs.length) xs := by
  refine ⟨Ow.of_own ⟨by simp, .inr ⟨g, xs.length, (bv xs).toArray, rfl, Nat.zero_le _, h, Nat.le_refl _, by simp only [maxLen]; omega, by simp, by rw [Nat.mul_one]; exact List.take_of_length_le (by simp)⟩⟩, hk, .inr ⟨g, rfl, hg⟩⟩

set_option maxHeartbeats 1600000 in
theorem rnumber_any (v : Nat) (w : World) (hv : v < 18446744073709551616) :
    Calls Try.prog 58 #[.int .u64 v] w fun e w' => ∃ v', e = .returned v' ∧ New w w' v' (be8 v) := by
  obtain ⟨Z, hZ, hmk⟩ := mkb 8 (by omega)
  have hmk8 : ∀ W : World, (Instr.makeSlice 23 (.int .i64 8) (.int .i64 8)).run Try.prog W = .ok (.slice (some ⟨W.heap.size, 0, none⟩) 8 8) (W.alloc (.cells Z 5)) := hmk
  have H0 := Lib.hid (show Blk (w.alloc (.cells Z 5)) w.heap.size 5 (bv (fam 8 (tl8 v 8))).toArray from by rw [tl8_none, ← hZ]; exact Blk.new _ _ _)
  have K0 := Lib.hid ((Kept.refl [] w).alloc (.cells Z 5))
  have hvh := Lib.hid hv
  clear hZ hmk hv
  go_enter Try.func58, Try.ntmps58
  go_wp2_with fail
  generalize w.alloc (.cells Z 5) = wa at *
  obtain ⟨g, hg⟩ : ∃ g, g = w.heap.size := ⟨_, rfl⟩
  rw [← hg] at H0 ⊢
  replace hg := Lib.hid hg
  go_loopg [4, 0] 8 (fun f i x wk => ∃ m : Nat, f = m ∧ m ≤ 8 ∧ i = .int .i64 ((m : Int) - 1) ∧ x = .int .u64 ((v / 256 ^ (8 - m) : Nat) : Int) ∧ Blk wk g 5 (bv (fam 8 (tl8 v m))).toArray ∧ Kept [g] wa wk)
  case atStart => exact ⟨8, rfl, Nat.le_refl _, rfl, by simp, H0.out, Kept.refl _ _⟩
  case round =>
    obtain ⟨m, hf, hm, rfl, rfl, hb, hkw⟩ := hrel
    have H := Lib.hid hb
    have HK := Lib.hid hkw
    clear hb hkw
    by_cases hm0 : 0 < m
    · have hi0 : (0 : Int) ≤ (m : Int) - 1 := by omega
      have hi1 : (1 : Int) ≤ (m : Int) := by omega
      have e0 := Blk.fget (v := byteV) H.out (m - 1) (by omega)
      have z0 := Blk.frozen H.out (m - 1)
      have hx : v / 256 ^ (8 - m) < 18446744073709551616 := Nat.lt_of_le_of_lt (Nat.div_le_self _ _) hvh.out
      have hn : v / 256 ^ (8 - (m - 1)) = v / 256 ^ (8 - m) / 256 := by rw [show 8 - (m - 1) = (8 - m) + 1 from by omega, Nat.pow_succ, Nat.div_div_eq_div_mul]
      have hs := Blk.fset (v := byteV) H.out (m - 1) (UInt8.ofNat (v / 256 ^ (8 - m)))
      have he : fam 8 (fun j => if j = m - 1 then UInt8.ofNat (v / 256 ^ (8 - m)) else tl8 v m j) = fam 8 (tl8 v (m - 1)) := fam_ext 8 fun i hi => by
        unfold tl8
        by_cases h : i = m - 1
        · rw [if_pos h, if_pos (by omega), show 7 - i = 8 - m from by omega]
        · rw [if_neg h]
          by_cases h2 : m ≤ i
          · rw [if_pos h2, if_pos (by omega)]
          · rw [if_neg h2, if_neg (by omega)]
      rw [he] at hs
      have F := Lib.hid hs
      have FK := Lib.hid (HK.out.setCell (p := ⟨g, m - 1, none⟩) (.inl (by simp)) (byteV (UInt8.ofNat (v / 256 ^ (8 - m)))))
      unfold byteV at F FK
      rw [UInt8.toNat_ofNat', show (((v / 256 ^ (8 - m) % 2 ^ 8 : Nat)) : Int) = ((v / 256 ^ (8 - m) : Nat) : Int) % 256 from by omega] at F FK
      replace hn := Lib.hid hn
      generalize v / 256 ^ (8 - m) = x at *
      clear hs he
      go_wp2_with fail
      go_roundg (m - 1)
      case measure => omega
      case rel => exact ⟨m - 1, rfl, by omega, by go_num, by rw [hn.out]; simp, F.out, FK.out⟩
    · obtain rfl : m = 0 := by omega
      have hb := H.out
      rw [tl8_all] at hb
      go_wp2_with fail
      go_ret
      refine ⟨_, rfl, ?_⟩
      have := new_of_blk hb (K0.out.then1 HK.out (by rw [hg.out]; exact Nat.le_refl _)) (by rw [hg.out]; exact Nat.le_refl _) (by rw [be8_len]; omega)
      rwa [be8_len] at this
end Go.Proofs.Ytdbngnlpafcogaa
