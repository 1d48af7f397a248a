/-
  The log: which rows every bytes on a disk say (WalReads): the walk.
-/
import Derived.Test.YtjdfnhfankcodaaWl12
import Derived.Test.YtjdfnhfankcodaaDg8
namespace Go.Proofs.Ytjdfnhfankcodaa
open Go.RowKit Go.Mem Go.Txt

theorem DcM.parts {w0 u : World} {rv : Value} {rs : List (Value × List UInt8)} (h : DcM w0 rv rs u) : Parts u rv rs := ⟨Rd.of_ow h.own, fun x hx => Rd.of_ow (h.inner x hx)⟩
theorem mem_rsz : ∀ (l : List (List UInt8)) (x : List UInt8), x ∈ l → x.length ≤ rsz l
  | y :: l, x, h => by
    simp only [rsz]
    rcases List.mem_cons.1 h with rfl | h
    · omega
    · have := mem_rsz l x h; omega
set_option maxRecDepth 100000 in
set_option maxHeartbeats 4000000 in
theorem reads_walk (av : Value) (bs : List UInt8) (w : World) (ha : Rd w 1 av bs.length (bv bs)) (na : bs.length ≤ 9223372036854775807) :
    Calls Try.prog 3 #[av] w fun e w' => e = .returned (.bool true) ∧ Kept [] w w' := by
  have cf := Lib.hid first_any
  obtain ⟨m, hm1, hm2, hmin⟩ : ∃ m : Nat, m ≤ 5000 ∧ m ≤ bs.length ∧ (m : Int) = if (5000 : Int) < (bs.length : Int) then 5000 else (bs.length : Int) :=
    ⟨min 5000 bs.length, by omega, by omega, by split <;> omega⟩
  replace hmin := Lib.hid hmin
  obtain ⟨B, d, hB, hRB, _, hd⟩ := cut_to bytesT ha .i64 m hm2
  obtain ⟨A, c, rfl, _⟩ := ha
  rw [Nat.mul_one, ← List.map_take] at hRB
  have hxl : (bs.take m).length = m := by rw [List.length_take]; omega
  generalize bs.take m = xs at *
  subst hxl
  have R := Lib.hid (show Rd w 1 (.slice B xs.length d) xs.length (bv xs) from hRB)
  clear hRB
  obtain ⟨at_, hat⟩ : ∃ x, x = rsz (says xs) := ⟨_, rfl⟩
  have hatl : at_ ≤ xs.length := by rw [hat]; exact rsz_says xs
  replace hat := Lib.hid hat
  go_enter Try.func3, Try.ntmps3
  go_wp2_with (first
    | (go_at_call 7; (with_reducible refine (cf.out _).mono ?_); rintro e w1 ⟨rfl, k1⟩; have K1 := Lib.hid k1; clear k1)
    | ((with_reducible refine wpl_at 15 ?_); refine wpl_min (o := ⟨some 15, _, _, _, _, _⟩) rfl (.tmp 14) (.const (.int .i64 5000)) rfl rfl rfl hmin.out ?_)
    | (go_at_call 8; (with_reducible refine (dnew_any xs.length w1 (by omega)).mono ?_); rintro e w2 ⟨b, rfl, d1⟩
       have D1 := Lib.hid (show Dw w w2 b xs.length 0 (.slice none 0 0) [] from ⟨d1.disk, Nat.le_trans K1.out.size d1.lb, by simp [Value.ownBlock], K1.out.then0 d1.k⟩)
       have PP := Lib.hid (parts_one (w0 := w2) (g := w2.heap.size) (t := 22) (S := b :: (Value.slice none 0 0).ownBlock.toList) (Blk.new w2 _ _) ((R.out.kept0 D1.out.k).alloc (.cells #[.slice B xs.length d] 22)) (by have := D1.out.disk.blk.lt; simpa [Value.ownBlock] using this) (Nat.le_refl _) (by
         intro hn k hk hm
         obtain ⟨g', hg', hlt'⟩ := R.out.lt (by decide) hn
         rw [hk] at hg'; cases hg'
         have := D1.out.lb
         simp [Value.ownBlock] at hm
         omega))
       clear d1 K1)
    | (go_at_call 9; (with_reducible refine (dapp_any (D1.out.kept0 ((Kept.refl [] _).alloc (.cells #[.slice B xs.length d] 22))) PP.out (by omega) (by simp) (by simp [Dk.total]) (by simp [Dk.total]; omega)).mono ?_); rintro e w3 ⟨rfl, dv3, d3, k3⟩
       have D3 := Lib.hid (show Dw w w3 b xs.length 0 dv3 xs from by simpa [Dk.joined] using d3)
       clear d3 k3 D1 PP)
    | (go_at_call 10; (with_reducible refine (wopen_any D3.out (by omega)).mono ?_); rintro e w4 ⟨l, rv, rs, dv', rfl, h1, h2, h3, h4⟩
       have W4 := Lib.hid h2
       have hrs := Lib.hid h1
       clear h1 h2 h3 h4 D3)
    | (go_at_call 11; (with_reducible refine (rsays_any _ xs w4 (R.out.kept0 W4.out.k) (by omega)).mono ?_); rintro e w5 ⟨rv2, rs2, rfl, h1, h2⟩
       have M5 := Lib.hid h2
       have hrs2 := Lib.hid h1
       replace W4 := Lib.hid (W4.out.kept0 h2.k)
       clear h1 h2))
  have hsame := Lib.hid (show rs.map (·.2) = rs2.map (·.2) from by rw [hrs.out, hrs2.out])
  have hlen : rs.length ≤ 5000 := by
    have h1 := rsz_len (says xs)
    have h2 := rsz_says xs
    rw [← hrs.out, List.length_map] at h1
    rw [hrs.out] at h1
    omega
  have hsm := Lib.hid (show ∀ x ∈ rs, x.2.length ≤ 140737488355328 from fun x hx => by
    have h1 := mem_rsz (rs.map (·.2)) x.2 (List.mem_map.2 ⟨x, hx, rfl⟩)
    rw [hrs.out] at h1
    have h2 := rsz_says xs
    omega)
  obtain ⟨X, dX, hX, rX, _, _⟩ := cut_to bytesT (R.out.kept0 (W4.out.k)) .i64 at_ hatl
  rw [Nat.mul_one, bv, ← List.map_take] at rX
  have hYl : (xs.take at_).length = at_ := by rw [List.length_take]; omega
  have rX2 := Lib.hid (show Rd w5 1 (.slice X at_ dX) (xs.take at_).length (bv (xs.take at_)) from by rw [hYl]; exact rX)
  have hat2 := hat.out.symm
  simp only [hat2] at W4 ⊢
  generalize hY : xs.take at_ = Y at *
  have eY : (Y == Y) = true := by simp
  have hYb : Y.length ≤ 5000 := by rw [← hY, List.length_take]; omega
  clear rX hat2 hY
  replace hYl := Lib.hid hYl
  replace rX2 := Lib.hid rX2.out.drew
  replace W4 := Lib.hid (W4.out.kept0 (Kept.refl [] _).drew)
  replace M5 := Lib.hid (M5.out.kept0 (Kept.refl [] _).drew)
  obtain ⟨A2, c2, rfl, _⟩ := M5.out.own.shape
  refine Txt.wp_textG [19] (fun u => Rd u 1 (.slice X at_ dX) Y.length (bv Y)) [[_, _, _, _, _, _, _, _, _], [_, _], [_, _, _, _], [_, _, _, _, _, _, _, _, _, _], [_, _, _]] (by kernel_rfl) (by kernel_rfl) rfl rX2.out (Txt.segs_cons ?_)
  go_wp2_with (first
    | (go_at_call 13; (with_reducible refine (rows_any b l rv rs false _ W4.out.lg (by omega) hsm.out).mono ?_); rintro e w6 ⟨v6, ps6, rfl, hp6, m6⟩
       obtain ⟨A6, c6, rfl, _⟩ := m6.ow.shape
       have P6 := Lib.hid m6.parts
       have hp6H := Lib.hid (hp6.trans hsame.out)
       have hpl := Lib.hid (show ps6.length ≤ 9223372036854775807 from by have := congrArg List.length hp6; simp only [List.length_map] at this; omega)
       replace W4 := Lib.hid (W4.out.kept0 m6.k)
       replace M5 := Lib.hid (M5.out.kept0 m6.k)
       replace rX2 := Lib.hid (rX2.out.kept0 m6.k)
       clear m6 hp6))
  refine ⟨rfl, rX2.out, Txt.segs_cons ?_⟩
  go_wp2_with (first
    | (go_at_call 12; (with_reducible refine (same_true _ _ ps6 rs2 _ P6.out M5.out.parts hp6H.out hpl.out).mono ?_); rintro e w7 ⟨rfl, k7⟩
       replace W4 := Lib.hid (W4.out.kept0 k7)
       replace rX2 := Lib.hid (rX2.out.kept0 k7)
       clear k7 P6 M5))
  refine ⟨rfl, rX2.out, Txt.segs_cons ?_⟩
  go_wp2_with (first
    | (go_at_call 14; (with_reducible refine (dbytes_any W4.out.dw (by omega)).mono ?_); rintro e w8 ⟨A8, c8, rfl, r8, k8⟩
       replace W4 := Lib.hid (W4.out.kept0 k8)
       replace rX2 := Lib.hid (rX2.out.kept0 k8)
       have s8 := run_toS (P := Try.prog) (s := 22) (d := 9) (e := 5) rfl rfl rfl r8
       clear k8 r8))
  refine ⟨rfl, rX2.out, Txt.segs_cons ?_⟩
  have sY := run_toS (P := Try.prog) (s := 22) (d := 9) (e := 5) rfl rfl rfl rX2.out
  go_wp2_with (first
    | (go_at_call 15; (with_reducible refine (ldown_any W4.out.lg).mono ?_); rintro e w9 ⟨rfl, k9⟩
       replace W4 := Lib.hid (W4.out.kept0 k9)
       replace rX2 := Lib.hid (rX2.out.kept0 k9)
       clear k9))
  refine ⟨rfl, rX2.out, Txt.segs_cons ?_⟩
  go_wp2_with fail
  refine ⟨rfl, rX2.out, Txt.segs_nil ⟨⟨by kernel_rfl, ?_⟩, ?_⟩⟩
  · intro j hj o ho hw
    obtain rfl : j = 19 := by simpa using hj
    cases ho
    exact ⟨_, rfl, fun u hu => ex_conv (.tmp 55) rfl rfl hu⟩
  go_wp2_with fail
  go_ret
  exact ⟨rfl, W4.out.k⟩
end Go.Proofs.Ytjdfnhfankcodaa
