/-
  Field's laws: which bytes are numbers (FieldNews).
-/
import Derived.Test.YthmpdhegodmjjaaRf9
import Derived.Test.YthmpdhegodmjjaaFl1
namespace Go.Proofs.Ythmpdhegodmjjaa
open Go.RowKit Go.Mem Go.Txt

theorem flat8 (w : World) : (isAgg 5).run Try.prog w = .ok false w := by kernel_rfl
theorem top_byte (bs : List UInt8) (h : bs.length = 32) : (bs[31]'(by omega)).toNat = leV bs / 2 ^ 248 % 256 := byte_at bs 31 (by omega)

set_option maxRecDepth 100000 in
set_option maxHeartbeats 1600000 in
theorem good_any (bs : List UInt8) (hlen : bs.length = 32) (w : World) :
    Calls Try.prog 19 #[ab bs] w fun e w' => e = .returned (.bool (newB bs)) ∧ Kept [] w w' := by
  have hV := leV_lt bs
  rw [hlen] at hV
  have htop := top_byte bs hlen
  have cD := Lib.hid (load_any bs hlen)
  have hD := dr_dgN (leV bs % T255) (Nat.lt_trans (Nat.mod_lt _ (by decide +kernel)) (by decide +kernel))
  obtain ⟨y, hy⟩ : ∃ y, y = leV bs % T255 % PP := ⟨_, rfl⟩
  have cP := Lib.hid (dr_pk hD hy.symm)
  generalize dgN (leV bs % T255) = D at *
  have hlh := Lib.hid hlen
  have hl := Lib.hid (show (bv bs).length = 32 by simp [hlen])
  obtain ⟨x, hx⟩ : ∃ x, x = (bs[31]'(by omega)).toNat := ⟨_, rfl⟩
  rw [← hx] at htop
  replace hx := Lib.hid hx.symm
  obtain ⟨r, hr⟩ : ∃ r, r = newB bs := ⟨_, rfl⟩
  rw [← hr]
  have hle := le_leV bs
  rw [hlen] at hle
  clear hD
  by_cases hb : x < 128
  · have hQ := Lib.hid (show (le y 32 == bs) = r from by
      have hlow : leV bs % T255 = leV bs := by
        apply Nat.mod_eq_of_lt
        unfold T255
        have : (256 : Nat) ^ 32 = 115792089237316195423570985008687907853269984665640564039457584007913129639936 := by decide +kernel
        omega
      rw [hlow] at hy
      rw [← hle, le_beq2 _ _ (Nat.lt_trans (hy ▸ Nat.mod_lt _ PP_pos) (by decide +kernel)) (by simpa using hV), hr, newB, hy]
      rw [decide_eq_decide]
      have := Nat.mod_lt (leV bs) PP_pos
      exact ⟨fun h => by omega, fun h => Nat.mod_eq_of_lt h⟩)
    have hbi : ((x : Nat) : Int) < 128 := by omega
    clear hV htop hy hle
    replace hr := Lib.hid hr
    go_enter Try.func19, Try.ntmps19
    go_wp2_with ((with_reducible refine wpl_box (o := ⟨some 1, _, _, _, _, _⟩) (v := ab bs) rfl (.tmp 0) rfl rfl ?_); intro g1 w1 m1)
    have t := Lib.hid (show Mm w [(g1, bs)] [] [] w1 from (((Mm.none w).kept m1.kept).bcons m1.blk))
    clear m1
    have k0 : ∀ W, Calls Try.prog 25 #[ab bs] W fun e w' => e = .returned (nu D) ∧ Kept [] W w' := cD.out
    replace k0 := Lib.hid k0
    have k1 : PkC D y := cP.out
    replace k1 := Lib.hid k1
    have Q11 : ((le y 32) == bs) = r := hQ.out
    have q11 := eql_run Q11 (le_len _ _) hlh.out
    replace Q11 := Lib.hid Q11
    refine Txt.wp_textG [1, 4, 7, 8] (Mm w [(g1, bs)] [] []) [[_, _, _, _, _, _], [_], [_, _, _, _]] (by kernel_rfl) (by kernel_rfl) rfl t.out.drew (Txt.segs_cons ?_)
    replace t := Lib.hid t.out.drew
    have cc := (t.out.b (g1, bs) (by simp)).bget 31 (by rw [hlh.out]; omega)
    rw [hx.out] at cc
    go_wp2_with (first
      | (refine wpl_load_arr (o := ⟨some 7, _, _, _, _, _⟩) arrB rfl (.tmp 1) rfl rfl (t.out.b (g1, bs) (by simp)) hl.out ?_)
      | (go_at_call 25; (with_reducible refine (k0.out _).mono ?_); rintro e v ⟨rfl, kk⟩; have t := Lib.hid (t.out.kept kk); clear kk))
    refine ⟨rfl, t.out, Txt.segs_cons ?_⟩
    go_wp2_with (first
      | (go_at_call 20; (with_reducible refine (k1.out _).mono ?_); rintro e v ⟨rfl, kk⟩; have t := Lib.hid (t.out.kept kk); clear kk))
    refine ⟨rfl, t.out, Txt.segs_cons ?_⟩
    go_wp2_with (first
      | (refine wpl_load_arr (o := ⟨some 10, _, _, _, _, _⟩) arrB rfl (.tmp 1) rfl rfl (t.out.b (g1, bs) (by simp)) hl.out ?_))
    refine ⟨rfl, t.out, Txt.segs_nil ⟨⟨by kernel_rfl, ?_⟩, ?_⟩⟩
    · intro j hj o ho hw
      have hj2 : j = 1 ∨ j = 4 ∨ j = 7 ∨ j = 8 := by simpa using hj
      rcases hj2 with rfl | rfl | rfl | rfl <;> cases ho
      · exact ⟨4, rfl, fun u hu => exec_cell (.tmp 3) rfl flat8 rfl (by have := (hu.b (g1, bs) (by simp)).bget 31 (by rw [hlh.out]; omega); rw [hx.out] at this; exact this)⟩
      · exact ⟨7, rfl, fun u hu => exec_load arrB.row (.tmp 1) rfl rfl (hu.b (g1, bs) (by simp)) hl.out⟩
      · exact ⟨10, rfl, fun u hu => exec_load arrB.row (.tmp 1) rfl rfl (hu.b (g1, bs) (by simp)) hl.out⟩
      · exact ⟨11, rfl, fun u _ => exec_eqb (.tmp 9) (.tmp 10) rfl rfl rfl Q11.out (le_len _ _) hlh.out⟩
    go_wp2_with fail
    go_ret
    exact ⟨rfl, t.out.k⟩
  · have hrf : r = false := by
      rw [hr, newB, decide_eq_false]
      unfold PP
      omega
    subst hrf
    have hbi : ¬ ((x : Nat) : Int) < 128 := by omega
    clear hV htop hy hle hr
    go_enter Try.func19, Try.ntmps19
    go_wp2_with ((with_reducible refine wpl_box (o := ⟨some 1, _, _, _, _, _⟩) (v := ab bs) rfl (.tmp 0) rfl rfl ?_); intro g1 w1 m1)
    have t := Lib.hid (show Mm w [(g1, bs)] [] [] w1 from (((Mm.none w).kept m1.kept).bcons m1.blk))
    clear m1


    refine Txt.wp_textG [1, 4, 7, 8] (Mm w [(g1, bs)] [] []) [[_, _, _, _, _, _], [_], [_, _, _, _]] (by kernel_rfl) (by kernel_rfl) rfl t.out.drew (Txt.segs_cons ?_)
    replace t := Lib.hid t.out.drew
    have cc := (t.out.b (g1, bs) (by simp)).bget 31 (by rw [hlh.out]; omega)
    rw [hx.out] at cc
    go_wp2_with fail
    refine ⟨rfl, t.out, Txt.segs_cons ?_⟩
    go_wp2_with fail
    refine ⟨rfl, t.out, Txt.segs_cons ?_⟩
    go_wp2_with fail
    refine ⟨rfl, t.out, Txt.segs_nil ⟨⟨by kernel_rfl, ?_⟩, ?_⟩⟩
    · intro j hj o ho hw
      have hj2 : j = 1 ∨ j = 4 ∨ j = 7 ∨ j = 8 := by simpa using hj
      rcases hj2 with rfl | rfl | rfl | rfl <;> cases ho
      · exact ⟨4, rfl, fun u hu => exec_cell (.tmp 3) rfl flat8 rfl (by have := (hu.b (g1, bs) (by simp)).bget 31 (by rw [hlh.out]; omega); rw [hx.out] at this; exact this)⟩
      · exact absurd hw (by rw [show Region.wanted _ _ = false from by kernel_rfl]; simp)
      · exact absurd hw (by rw [show Region.wanted _ _ = false from by kernel_rfl]; simp)
      · exact absurd hw (by rw [show Region.wanted _ _ = false from by kernel_rfl]; simp)
    go_wp2_with fail
    go_ret
    exact ⟨rfl, t.out.k⟩

set_option maxRecDepth 100000 in
set_option maxHeartbeats 1600000 in
theorem news_walkN (bs : List UInt8) (v : Nat) (w : World) (hlen : bs.length = 32) (hv : v < 18446744073709551616) :
    Calls Try.prog 4 #[ab bs, .int .u64 (v : Int)] w fun e w' => e = .returned (.bool true) ∧ Kept [] w w' := by
  obtain ⟨l0, hl0, z0, u0⟩ := lit_zero
  replace z0 := Lib.hid z0
  replace u0 := Lib.hid u0
  have rS := Rep.small v hv
  have cS := Lib.hid (small_c v hv)
  have cH := Lib.hid (hb_c rS)
  have hO := dr_dgN v (Nat.lt_trans hv (by decide +kernel))
  have cO := Lib.hid (fun W => of_any v hv W)
  obtain ⟨y, hy⟩ : ∃ y, y = v % PP := ⟨_, rfl⟩
  have cPk := Lib.hid (dr_pk hO hy.symm)
  have Q43 : (hb (smL v) == le y 32) = true := hb_le_eq rS hy.symm
  have q43 := eql_run Q43 (hb_len _) (le_len _ _)
  generalize smL v = S at *
  generalize dgN v = O at *
  clear rS hO Q43 hy hv
  have cN := Lib.hid (fun W => new_any bs hlen W)
  have cG := Lib.hid (fun W => good_any bs hlen W)
  have hlh := Lib.hid hlen
  have hl := Lib.hid (show (bv bs).length = 32 by simp [hlen])
  have hle := le_leV bs
  rw [hlen] at hle
  clear hlen
  cases hok : newB bs with
  | true =>
    have rF : Rep (newF bs) (leV bs) := ⟨newF_lim bs, by rw [new_val bs hok]⟩
    have hlt : leV bs < PP := of_decide_eq_true hok
    have hQ := Lib.hid (show (hb (newF bs) == bs) = true by rw [hb_le rF, Nat.mod_eq_of_lt hlt, hle]; exact beq_self_eq_true _)
    rw [hok] at cN cG
    generalize newF bs = F at *
    replace rF := Lib.hid rF
    clear hok hlt hle
    go_enter Try.func4, Try.ntmps4
    go_wp2_with (first
      | ((with_reducible refine wpl_box (o := ⟨some 2, _, _, _, _, _⟩) (v := ab bs) rfl (.tmp 0) rfl rfl ?_); intro g2 w1 m1)
      | (go_at_call 11; refine (first_true _).mono ?_; rintro e w5 ⟨rfl, kk4⟩; have t := Lib.hid (show Mm w [(g2, bs)] [] [] w5 from (((Mm.none w).kept m1.kept).bcons m1.blk).kept kk4); clear m1 kk4)
      | (refine wpl_load_arr (o := ⟨some 10, _, _, _, _, _⟩) arrB rfl (.tmp 2) rfl rfl (t.out.b (g2, bs) (by simp)) hl.out ?_)
      | (go_at_call 18; (with_reducible refine (cN.out _).mono ?_); rintro e w6 ⟨rfl, kk⟩; have t := Lib.hid (t.out.kept kk); clear kk)
      | ((with_reducible refine wpl_new (o := ⟨some 5, _, _, _, _, _⟩) rfl rfl zeroEl ?_); intro g5 x5 m5)
      | ((with_reducible refine wpl_store_row (o := ⟨none, .store 27 (.tmp 5) (.tmp 12), _, _, _, _⟩) structEl rfl (.tmp 5) (.tmp 12) rfl rfl rfl m5.blk rfl rfl (one_el _) ?_); intro v5 b5 k5; have t9 := Lib.hid (show Mm w [(g2, bs)] [(g5, F)] [] v5 from Mm.econs ⟨fun p hp => ((t.out.kept m5.kept).b p hp).kept k5 (by simpa using m5.ne (t.out.b p hp).lt), fun _ h => absurd h (by simp), fun _ h => absurd h (by simp), (t.out.kept m5.kept).k.then1 k5 (Nat.le_trans t.out.k.size m5.le)⟩ b5); clear t m5 b5 k5; have t := t9; clear t9))
    have k0 : ∀ W, Calls Try.prog 19 #[ab bs] W fun e w' => e = .returned (.bool true) ∧ Kept [] W w' := cG.out
    replace k0 := Lib.hid k0
    have k1 : HbC F := hb_c rF.out
    replace k1 := Lib.hid k1
    have Q24 : ((hb F) == bs) = true := hQ.out
    have q24 := eql_run Q24 (hb_len _) hlh.out
    replace Q24 := Lib.hid Q24
    refine Txt.wp_textG [1, 7, 9, 10, 17, 19, 20] (Mm w [(g2, bs)] [(g5, F)] []) [[_, _, _], [_, _, _, _, _, _], [_, _, _, _, _, _, _, _, _, _], [_], [_, _, _]] (by kernel_rfl) (by kernel_rfl) rfl t.out.drew (Txt.segs_cons ?_)
    replace t := Lib.hid t.out.drew
    go_wp2_with (first
      | (refine wpl_load_arr (o := ⟨some 15, _, _, _, _, _⟩) arrB rfl (.tmp 2) rfl rfl (t.out.b (g2, bs) (by simp)) hl.out ?_)
      | (go_at_call 19; (with_reducible refine (k0.out _).mono ?_); rintro e v ⟨rfl, kk⟩; have t := Lib.hid (t.out.kept kk); clear kk))
    refine ⟨rfl, t.out, Txt.segs_cons ?_⟩
    go_wp2_with (first
      | (with_reducible refine wpl_load_row (o := ⟨some 21, _, _, _, _, _⟩) structEl rfl (.tmp 5) rfl rfl (t.out.e (g5, F) (by simp)) rfl ?_)
      | (go_at_call 14; (with_reducible refine (k1.out _).mono ?_); rintro e v ⟨rfl, kk⟩; have t := Lib.hid (t.out.kept kk); clear kk))
    refine ⟨rfl, t.out, Txt.segs_cons ?_⟩
    go_wp2_with (first
      | (refine wpl_load_arr (o := ⟨some 23, _, _, _, _, _⟩) arrB rfl (.tmp 2) rfl rfl (t.out.b (g2, bs) (by simp)) hl.out ?_))
    refine ⟨rfl, t.out, Txt.segs_cons ?_⟩
    go_wp2_with fail
    refine ⟨rfl, t.out, Txt.segs_cons ?_⟩
    go_wp2_with fail
    refine ⟨rfl, t.out, Txt.segs_nil ⟨⟨by kernel_rfl, ?_⟩, ?_⟩⟩
    · intro j hj o ho hw
      have hj2 : j = 1 ∨ j = 7 ∨ j = 9 ∨ j = 10 ∨ j = 17 ∨ j = 19 ∨ j = 20 := by simpa using hj
      rcases hj2 with rfl | rfl | rfl | rfl | rfl | rfl | rfl <;> cases ho
      · exact ⟨15, rfl, fun u hu => exec_load arrB.row (.tmp 2) rfl rfl (hu.b (g2, bs) (by simp)) hl.out⟩
      · exact ⟨21, rfl, fun u hu => exec_load structEl (.tmp 5) rfl rfl (hu.e (g5, F) (by simp)) rfl⟩
      · exact ⟨23, rfl, fun u hu => exec_load arrB.row (.tmp 2) rfl rfl (hu.b (g2, bs) (by simp)) hl.out⟩
      · exact ⟨24, rfl, fun u _ => exec_neb (.tmp 22) (.tmp 23) rfl rfl rfl Q24.out (hb_len _) hlh.out⟩
      · exact absurd hw (by rw [show Region.wanted _ _ = false from by kernel_rfl]; simp)
      · exact absurd hw (by rw [show Region.wanted _ _ = false from by kernel_rfl]; simp)
      · exact absurd hw (by rw [show Region.wanted _ _ = false from by kernel_rfl]; simp)
    go_wp2_with (first
      | (go_at_call 12; (with_reducible refine (cS.out _).mono ?_); rintro e w7 ⟨rfl, kk⟩; have t := Lib.hid (t.out.kept kk); clear kk)
      | (go_at_call 14; (with_reducible refine (cH.out _).mono ?_); rintro e w7 ⟨rfl, kk⟩; have t := Lib.hid (t.out.kept kk); clear kk)
      | (go_at_call 21; (with_reducible refine (cO.out _).mono ?_); rintro e w7 ⟨rfl, kk⟩; have t := Lib.hid (t.out.kept kk); clear kk)
      | (go_at_call 20; (with_reducible refine (cPk.out _).mono ?_); rintro e w7 ⟨rfl, kk⟩; have t := Lib.hid (t.out.kept kk); clear kk))
    go_ret
    exact ⟨rfl, t.out.k⟩
  | false =>
    have rF0 : Rep nought 0 := ⟨nought_lim, by unfold fv nought; simp⟩
    rw [hok, show newF bs = nought from by unfold newF; rw [hok]; rfl] at cN
    rw [hok] at cG
    generalize nought = F at cN rF0
    have rF := Lib.hid rF0
    clear hok hle rF0
    go_enter Try.func4, Try.ntmps4
    go_wp2_with (first
      | ((with_reducible refine wpl_box (o := ⟨some 2, _, _, _, _, _⟩) (v := ab bs) rfl (.tmp 0) rfl rfl ?_); intro g2 w1 m1)
      | (go_at_call 11; refine (first_true _).mono ?_; rintro e w5 ⟨rfl, kk4⟩; have t := Lib.hid (show Mm w [(g2, bs)] [] [] w5 from (((Mm.none w).kept m1.kept).bcons m1.blk).kept kk4); clear m1 kk4)
      | (refine wpl_load_arr (o := ⟨some 10, _, _, _, _, _⟩) arrB rfl (.tmp 2) rfl rfl (t.out.b (g2, bs) (by simp)) hl.out ?_)
      | (go_at_call 18; (with_reducible refine (cN.out _).mono ?_); rintro e w6 ⟨rfl, kk⟩; have t := Lib.hid (t.out.kept kk); clear kk)
      | ((with_reducible refine wpl_new (o := ⟨some 5, _, _, _, _, _⟩) rfl rfl zeroEl ?_); intro g5 x5 m5)
      | ((with_reducible refine wpl_store_row (o := ⟨none, .store 27 (.tmp 5) (.tmp 12), _, _, _, _⟩) structEl rfl (.tmp 5) (.tmp 12) rfl rfl rfl m5.blk rfl rfl (one_el _) ?_); intro v5 b5 k5; have t9 := Lib.hid (show Mm w [(g2, bs)] [(g5, F)] [] v5 from Mm.econs ⟨fun p hp => ((t.out.kept m5.kept).b p hp).kept k5 (by simpa using m5.ne (t.out.b p hp).lt), fun _ h => absurd h (by simp), fun _ h => absurd h (by simp), (t.out.kept m5.kept).k.then1 k5 (Nat.le_trans t.out.k.size m5.le)⟩ b5); clear t m5 b5 k5; have t := t9; clear t9))
    have k0 : ∀ W, Calls Try.prog 19 #[ab bs] W fun e w' => e = .returned (.bool false) ∧ Kept [] W w' := cG.out
    replace k0 := Lib.hid k0
    have k1 : HbC F := hb_c rF.out
    replace k1 := Lib.hid k1
    have Q34 : ((hb F) == l0) = true := (z0.out _ _ rF.out).trans (decide_eq_true (Nat.zero_mod _))
    have q34 := eql_run Q34 (hb_len _) hl0
    replace Q34 := Lib.hid Q34
    refine Txt.wp_textG [1, 7, 9, 10, 17, 19, 20] (Mm w [(g2, bs)] [(g5, F)] []) [[_, _, _], [_, _, _, _, _, _], [_, _, _, _, _, _, _, _, _, _], [_], [_, _, _]] (by kernel_rfl) (by kernel_rfl) rfl t.out.drew (Txt.segs_cons ?_)
    replace t := Lib.hid t.out.drew
    go_wp2_with (first
      | (refine wpl_load_arr (o := ⟨some 15, _, _, _, _, _⟩) arrB rfl (.tmp 2) rfl rfl (t.out.b (g2, bs) (by simp)) hl.out ?_)
      | (go_at_call 19; (with_reducible refine (k0.out _).mono ?_); rintro e v ⟨rfl, kk⟩; have t := Lib.hid (t.out.kept kk); clear kk))
    refine ⟨rfl, t.out, Txt.segs_cons ?_⟩
    go_wp2_with fail
    refine ⟨rfl, t.out, Txt.segs_cons ?_⟩
    go_wp2_with (first
      | (with_reducible refine wpl_load_row (o := ⟨some 31, _, _, _, _, _⟩) structEl rfl (.tmp 5) rfl rfl (t.out.e (g5, F) (by simp)) rfl ?_)
      | (go_at_call 14; (with_reducible refine (k1.out _).mono ?_); rintro e v ⟨rfl, kk⟩; have t := Lib.hid (t.out.kept kk); clear kk))
    refine ⟨rfl, t.out, Txt.segs_cons ?_⟩
    go_wp2_with (first
      | (with_reducible refine wpl_build0 (o := ⟨some 33, _, _, _, _, _⟩) rfl rfl u0.out ?_))
    refine ⟨rfl, t.out, Txt.segs_cons ?_⟩
    go_wp2_with fail
    refine ⟨rfl, t.out, Txt.segs_nil ⟨⟨by kernel_rfl, ?_⟩, ?_⟩⟩
    · intro j hj o ho hw
      have hj2 : j = 1 ∨ j = 7 ∨ j = 9 ∨ j = 10 ∨ j = 17 ∨ j = 19 ∨ j = 20 := by simpa using hj
      rcases hj2 with rfl | rfl | rfl | rfl | rfl | rfl | rfl <;> cases ho
      · exact ⟨15, rfl, fun u hu => exec_load arrB.row (.tmp 2) rfl rfl (hu.b (g2, bs) (by simp)) hl.out⟩
      · exact absurd hw (by rw [show Region.wanted _ _ = false from by kernel_rfl]; simp)
      · exact absurd hw (by rw [show Region.wanted _ _ = false from by kernel_rfl]; simp)
      · exact absurd hw (by rw [show Region.wanted _ _ = false from by kernel_rfl]; simp)
      · exact ⟨31, rfl, fun u hu => exec_load structEl (.tmp 5) rfl rfl (hu.e (g5, F) (by simp)) rfl⟩
      · exact ⟨33, rfl, fun u _ => exec_build0 rfl u0.out⟩
      · exact ⟨34, rfl, fun u _ => exec_neb (.tmp 32) (.tmp 33) rfl rfl rfl Q34.out (hb_len _) hl0⟩
    go_wp2_with (first
      | (go_at_call 12; (with_reducible refine (cS.out _).mono ?_); rintro e w7 ⟨rfl, kk⟩; have t := Lib.hid (t.out.kept kk); clear kk)
      | (go_at_call 14; (with_reducible refine (cH.out _).mono ?_); rintro e w7 ⟨rfl, kk⟩; have t := Lib.hid (t.out.kept kk); clear kk)
      | (go_at_call 21; (with_reducible refine (cO.out _).mono ?_); rintro e w7 ⟨rfl, kk⟩; have t := Lib.hid (t.out.kept kk); clear kk)
      | (go_at_call 20; (with_reducible refine (cPk.out _).mono ?_); rintro e w7 ⟨rfl, kk⟩; have t := Lib.hid (t.out.kept kk); clear kk))
    go_ret
    exact ⟨rfl, t.out.k⟩
theorem news_walk (bs : List UInt8) (v : Int) (w : World) (hlen : bs.length = 32) (hv : (Lit.int .u64 v).wf = true) :
    Calls Try.prog 4 #[ab bs, .int .u64 v] w fun e w' => e = .returned (.bool true) ∧ Kept [] w w' := by
  have h1 : 0 ≤ v ∧ v ≤ 18446744073709551615 := by simpa [Lit.wf, IntKind.min, IntKind.max, IntKind.signed, IntKind.bits] using hv
  obtain ⟨m, rfl⟩ : ∃ m : Nat, v = m := ⟨v.toNat, by omega⟩
  exact news_walkN bs m w hlen (by omega)
end Go.Proofs.Ythmpdhegodmjjaa
