/-
  The document's curve: its functions.
-/
import Derived.Test.YtkflljjcgihaoaaRr5
namespace Go.Proofs.Ytkflljjcgihaoaa
open Go.RowKit Go.Mem Go.Txt

theorem flat8 (w : World) : (isAgg 5).run Try.prog w = .ok false w := by kernel_rfl
theorem top_byte (bs : List UInt8) (h : bs.length = 32) : (bs[31]'(by omega)).toNat = leV bs / 2 ^ 248 % 256 := byte_at bs 31 (by omega)

set_option maxRecDepth 100000 in
set_option maxHeartbeats 1600000 in
theorem rgood_any (bs : List UInt8) (hlen : bs.length = 32) (w : World) :
    Calls Try.prog 42 #[ab bs] w fun e w' => e = .returned (.bool (newB bs)) ∧ Kept [] w w' := by
  have hV := leV_lt bs
  rw [hlen] at hV
  have htop := top_byte bs hlen
  have cD := Lib.hid (load_any bs hlen)
  have hD := dr_dgN (leV bs % T255) (Nat.lt_trans (Nat.mod_lt _ (by decide +kernel)) (by decide +kernel))
  obtain ⟨y, hy⟩ : ∃ y, y = leV bs % T255 % PP := ⟨_, rfl⟩
  have cP := Lib.hid (dr_pk hD hy.symm)
  generalize dgN (leV bs % T255) = D at *
  have hlh := Lib.hid hlen
  have hl := Lib.hid (show (bv bs).length = 32 by simp [hlen])
  obtain ⟨x, hx⟩ : ∃ x, x = (bs[31]'(by omega)).toNat := ⟨_, rfl⟩
  rw [← hx] at htop
  replace hx := Lib.hid hx.symm
  obtain ⟨r, hr⟩ : ∃ r, r = newB bs := ⟨_, rfl⟩
  rw [← hr]
  have hle := le_leV bs
  rw [hlen] at hle
  clear hD
  by_cases hb : x < 128
  · have hQ := Lib.hid (show (le y 32 == bs) = r from by
      have hlow : leV bs % T255 = leV bs := by
        apply Nat.mod_eq_of_lt
        unfold T255
        have : (256 : Nat) ^ 32 = 115792089237316195423570985008687907853269984665640564039457584007913129639936 := by decide +kernel
        omega
      rw [hlow] at hy
      rw [← hle, le_beq2 _ _ (Nat.lt_trans (hy ▸ Nat.mod_lt _ PP_pos) (by decide +kernel)) (by simpa using hV), hr, newB, hy]
      rw [decide_eq_decide]
      have := Nat.mod_lt (leV bs) PP_pos
      exact ⟨fun h => by omega, fun h => Nat.mod_eq_of_lt h⟩)
    have hbi : ((x : Nat) : Int) < 128 := by omega
    clear hV htop hy hle
    replace hr := Lib.hid hr
    go_enter Try.func42, Try.ntmps42
    go_wp2_with ((with_reducible refine wpl_box (o := ⟨some 1, _, _, _, _, _⟩) (v := ab bs) rfl (.tmp 0) rfl rfl ?_); intro g1 w1 m1)
    have t := Lib.hid (show Pm w [(g1, 22, (bv bs).toArray)] w1 from (((Pm.none w).kept m1.kept).cons m1.blk))
    clear m1
    have k0 : ∀ W, Calls Try.prog 43 #[ab bs] W fun e w' => e = .returned (nu D) ∧ Kept [] W w' := cD.out
    replace k0 := Lib.hid k0
    have k1 : PkC D y := cP.out
    replace k1 := Lib.hid k1
    have Q11 : ((le y 32) == bs) = r := hQ.out
    have q11 := eql_run Q11 (le_len _ _) hlh.out
    replace Q11 := Lib.hid Q11
    refine Txt.wp_textG [1, 4, 7, 8] (Pm w [(g1, 22, (bv bs).toArray)]) [[_, _, _, _, _, _], [_], [_, _, _, _]] (by kernel_rfl) (by kernel_rfl) rfl t.out.drew (Txt.segs_cons ?_)
    replace t := Lib.hid t.out.drew
    have cc := (t.out.s (g1, 22, (bv bs).toArray) (by simp)).bget 31 (by rw [hlh.out]; omega)
    rw [hx.out] at cc
    go_wp2_with (first
      | (refine wpl_load_arr (o := ⟨some 7, _, _, _, _, _⟩) arrB rfl (.tmp 1) rfl rfl (t.out.s (g1, 22, (bv bs).toArray) (by simp)) hl.out ?_)
      | (go_at_call 43; (with_reducible refine (k0.out _).mono ?_); rintro e v ⟨rfl, kk⟩; have t := Lib.hid (t.out.kept kk); clear kk))
    refine ⟨rfl, t.out, Txt.segs_cons ?_⟩
    go_wp2_with (first
      | (go_at_call 45; (with_reducible refine (k1.out _).mono ?_); rintro e v ⟨rfl, kk⟩; have t := Lib.hid (t.out.kept kk); clear kk))
    refine ⟨rfl, t.out, Txt.segs_cons ?_⟩
    go_wp2_with (first
      | (refine wpl_load_arr (o := ⟨some 10, _, _, _, _, _⟩) arrB rfl (.tmp 1) rfl rfl (t.out.s (g1, 22, (bv bs).toArray) (by simp)) hl.out ?_))
    refine ⟨rfl, t.out, Txt.segs_nil ⟨⟨by kernel_rfl, ?_⟩, ?_⟩⟩
    · intro j hj o ho hw
      have hj2 : j = 1 ∨ j = 4 ∨ j = 7 ∨ j = 8 := by simpa using hj
      rcases hj2 with rfl | rfl | rfl | rfl <;> cases ho
      · exact ⟨4, rfl, fun u hu => exec_cell (.tmp 3) rfl flat8 rfl (by have := (hu.s (g1, 22, (bv bs).toArray) (by simp)).bget 31 (by rw [hlh.out]; omega); rw [hx.out] at this; exact this)⟩
      · exact ⟨7, rfl, fun u hu => exec_load arrB.row (.tmp 1) rfl rfl (hu.s (g1, 22, (bv bs).toArray) (by simp)) hl.out⟩
      · exact ⟨10, rfl, fun u hu => exec_load arrB.row (.tmp 1) rfl rfl (hu.s (g1, 22, (bv bs).toArray) (by simp)) hl.out⟩
      · exact ⟨11, rfl, fun u _ => exec_eqb (.tmp 9) (.tmp 10) rfl rfl rfl Q11.out (le_len _ _) hlh.out⟩
    go_wp2_with fail
    go_ret
    exact ⟨rfl, t.out.k⟩
  · have hrf : r = false := by
      rw [hr, newB, decide_eq_false]
      unfold PP
      omega
    subst hrf
    have hbi : ¬ ((x : Nat) : Int) < 128 := by omega
    clear hV htop hy hle hr
    go_enter Try.func42, Try.ntmps42
    go_wp2_with ((with_reducible refine wpl_box (o := ⟨some 1, _, _, _, _, _⟩) (v := ab bs) rfl (.tmp 0) rfl rfl ?_); intro g1 w1 m1)
    have t := Lib.hid (show Pm w [(g1, 22, (bv bs).toArray)] w1 from (((Pm.none w).kept m1.kept).cons m1.blk))
    clear m1


    refine Txt.wp_textG [1, 4, 7, 8] (Pm w [(g1, 22, (bv bs).toArray)]) [[_, _, _, _, _, _], [_], [_, _, _, _]] (by kernel_rfl) (by kernel_rfl) rfl t.out.drew (Txt.segs_cons ?_)
    replace t := Lib.hid t.out.drew
    have cc := (t.out.s (g1, 22, (bv bs).toArray) (by simp)).bget 31 (by rw [hlh.out]; omega)
    rw [hx.out] at cc
    go_wp2_with fail
    refine ⟨rfl, t.out, Txt.segs_cons ?_⟩
    go_wp2_with fail
    refine ⟨rfl, t.out, Txt.segs_cons ?_⟩
    go_wp2_with fail
    refine ⟨rfl, t.out, Txt.segs_nil ⟨⟨by kernel_rfl, ?_⟩, ?_⟩⟩
    · intro j hj o ho hw
      have hj2 : j = 1 ∨ j = 4 ∨ j = 7 ∨ j = 8 := by simpa using hj
      rcases hj2 with rfl | rfl | rfl | rfl <;> cases ho
      · exact ⟨4, rfl, fun u hu => exec_cell (.tmp 3) rfl flat8 rfl (by have := (hu.s (g1, 22, (bv bs).toArray) (by simp)).bget 31 (by rw [hlh.out]; omega); rw [hx.out] at this; exact this)⟩
      · exact absurd hw (by rw [show Region.wanted _ _ = false from by kernel_rfl]; simp)
      · exact absurd hw (by rw [show Region.wanted _ _ = false from by kernel_rfl]; simp)
      · exact absurd hw (by rw [show Region.wanted _ _ = false from by kernel_rfl]; simp)
    go_wp2_with fail
    go_ret
    exact ⟨rfl, t.out.k⟩


theorem neg_form (x : Ed.Fq) : (Ed.mk 0 - x) * Ed.mk 1 = -x := by
  show (0 - x) * 1 = -x
  grind
theorem neg_sq_ (x : Ed.Fq) : -x * -x = x * x := by grind
theorem neg_even {x : Ed.Fq} (h : x.v % 2 = 1) : (-x).v % 2 = 0 := by
  have hl := v_lt x
  have hp := P_odd
  rw [neg_v]
  split <;> omega
def HasR (y x : Ed.Fq) : Prop := x * x * (y * y * Ed.D + Ed.mk 1) = y * y - Ed.mk 1
theorem root_r {dc dy : Nat → Int} {y : Ed.Fq} (hD : Dq 70000 dc Ed.D) (hy : Dq 70000 dy y) : (∃ x r, RtC dc dy r true ∧ Dq 70000 r x ∧ HasR y x ∧ x.v % 2 = 0) ∨ (RtC dc dy zd false ∧ ∀ x, ¬ HasR y x) := by
  by_cases hs0 : (rX0 y * rX0 y).v = (rW y).v
  · have hr := rW_root (Ed.Fq.ext hs0)
    left
    by_cases ho : (rX0 y).v % 2 = 1
    · obtain ⟨r, c, h⟩ := root_A_o hD hy hs0 ho
      rw [neg_form] at h
      exact ⟨_, r, c, h, by unfold HasR; rw [neg_sq_]; exact hr, neg_even ho⟩
    · obtain ⟨r, c, h⟩ := root_A_e hD hy hs0 ho
      exact ⟨_, r, c, h, hr, by omega⟩
  · by_cases hs1 : (rX1 y * rX1 y).v = (rW y).v
    · have hr := rW_root (Ed.Fq.ext hs1)
      left
      by_cases ho : (rX1 y).v % 2 = 1
      · obtain ⟨r, c, h⟩ := root_B_o hD hy hs0 hs1 ho
        rw [neg_form] at h
        exact ⟨_, r, c, h, by unfold HasR; rw [neg_sq_]; exact hr, neg_even ho⟩
      · obtain ⟨r, c, h⟩ := root_B_e hD hy hs0 hs1 ho
        exact ⟨_, r, c, h, hr, by omega⟩
    · right
      exact ⟨root_C hD hy hs0 hs1, fun x h => (rX_two (root_rW h)).elim (fun e => hs0 (by rw [e])) fun e => hs1 (by rw [e])⟩
theorem Pm.sub2 {w0 : World} {L L' : List (Nat × TypeId × Array Value)} {u : World} (h : Pm w0 L u) (hs : ∀ p ∈ L', p ∈ L) : Pm w0 L' u := ⟨fun p hp => h.s p (hs p hp), h.k⟩
theorem enters_rtm (xs : Array Value) (w : World) : (callFunc 44 xs).run Try.prog w = .ok (.enter 44 xs) w := enters_of (c := _) Try.func44 (by kernel_rfl) rfl xs w
abbrev RdC (d : Nat → Int) (l : List UInt8) (r : R4) (b : Bool) : Prop := ∀ W, Calls Try.prog 13 #[nu d, ab l] W fun e w' => e = .returned (.tuple #[r.v, .bool b]) ∧ Kept [] W w'
theorem mask_rem (X : Nat) : ((c31 X : Nat) : Int).tmod 128 = ((c31 (X % T255) : Nat) : Int) := by
  rw [(c31_T255 X).1, Int.tmod_eq_emod_of_nonneg (by omega)]
  rfl
theorem load_yOf {X : Nat} {l : List UInt8} (e : l = le (X % T255) 32) : Ed.mk (leV l % T255) = yOf X := by
  rw [e, le_mod255, Nat.mod_mod]; rfl
theorem hasR_pt {y x : Ed.Fq} (h : HasR y x) : Ed.onC Ed.D x y := pt_on h
theorem pt_hasR (P : Ed.Pt) : HasR P.y P.x := by
  unfold HasR
  have h := on_x P
  show P.x * P.x * (P.y * P.y * Ed.D + 1) = P.y * P.y - 1
  rw [← h]
  generalize Ed.D = D
  clear h
  grind
theorem hasR_two {y x z : Ed.Fq} (h : HasR y x) (h2 : HasR y z) : x = z ∨ x = -z := by
  apply sq_two
  rw [root_rW h, root_rW h2]
set_option maxRecDepth 100000 in
set_option maxHeartbeats 4000000 in
theorem rdec_Go {dc : Nat → Int} (_ : Dq 70000 dc Ed.D) {X : Nat} (ho : 128 ≤ c31 X) (hg : RgC (le (X % T255) 32) false) : RdC dc (le X 32) rz false := by
  obtain ⟨lx, elx, nlx⟩ : ∃ l, l = le X 32 ∧ l.length = 32 := ⟨_, rfl, le_len _ _⟩
  obtain ⟨lm, elm, nlm⟩ : ∃ l, l = le (X % T255) 32 ∧ l.length = 32 := ⟨_, rfl, le_len _ _⟩
  rw [← elm] at hg
  rw [← elx]
  obtain ⟨lz, elz, nlz, uz⟩ : ∃ l : List UInt8, l = le 0 32 ∧ l.length = 32 ∧ Try.prog.built 22 [] = some (bv l).toArray := ⟨_, rfl, le_len _ _, lit_b0⟩
  obtain ⟨kc, hkc⟩ : ∃ c, c = c31 X := ⟨_, rfl⟩
  obtain ⟨kd, hkd⟩ : ∃ c, c = c31 (X % T255) := ⟨_, rfl⟩
  have gK : GetK lx kc := by rw [elx, hkc]; exact getK
  have sK : SetK lx lm ((kd : Nat) : Int) := by rw [elx, elm, hkd]; exact setK (c31_T255 X).2
  have hrem := mask_rem X
  rw [← hkc, ← hkd] at hrem
  have hge : (128 : Int) ≤ (kc : Int) := by omega
  have c1 : RgC lm false := hg
  intro w
  replace c1 := Lib.hid c1
  replace gK := Lib.hid gK
  replace sK := Lib.hid sK
  replace nlx := Lib.hid nlx
  replace nlm := Lib.hid nlm
  replace nlz := Lib.hid nlz
  replace uz := Lib.hid uz
  clear ho hg elx elm elz hkc hkd
  go_enter Try.func13, Try.ntmps13
  have t := Lib.hid (Pm.none w)
  go_wp2_with (first
    | ((with_reducible refine wpl_box (o := ⟨some 2, _, _, _, _, _⟩) (v := nu dc) rfl (.tmp 0) rfl rfl ?_); intro g2 w2 m2; have N2 := Lib.hid (fun p hp => m2.ne (t.out.s p hp).lt); have L2 := Lib.hid (Nat.le_trans t.out.k.size m2.le); replace t := Lib.hid ((t.out.kept m2.kept).cons (show Blk w2 g2 36 (iv (fam 16 dc)).toArray from m2.blk)); clear m2)
    | ((with_reducible refine wpl_box (o := ⟨some 3, _, _, _, _, _⟩) (v := ab lx) rfl (.tmp 1) rfl rfl ?_); intro g3 w3 m3; have N3 := Lib.hid (fun p hp => m3.ne (t.out.s p hp).lt); have L3 := Lib.hid (Nat.le_trans t.out.k.size m3.le); replace t := Lib.hid ((t.out.kept m3.kept).cons (show Blk w3 g3 22 (bv lx).toArray from m3.blk)); clear m3)
    | ((with_reducible refine wpl_new (o := ⟨some 4, _, _, _, _, _⟩) rfl rfl zeroRt ?_); intro g4 w4 m4; have N4 := Lib.hid (fun p hp => m4.ne (t.out.s p hp).lt); have L4 := Lib.hid (Nat.le_trans t.out.k.size m4.le); replace t := Lib.hid ((t.out.kept m4.kept).cons (show Blk w4 g4 39 rz.c.toArray from m4.blk)); clear m4; have b3 := Lib.hid (t.out.s (g3, 22, (bv lx).toArray) (by simp)); have q1 := gK.out _ _ _ b3.out; have q2 := b3.out.frozen 31; have KC := Lib.hid ((Kept.refl [g3] w4).setCell (p := ⟨g3, 31, none⟩) (.inl (by simp)) (.int .u8 ((kd : Nat) : Int))); have tn := Lib.hid (((show Pm w [(g3, 22, (bv lx).toArray), (g4, 39, rz.c.toArray), (g2, 36, (iv (fam 16 dc)).toArray)] w4 from t.out.sub2 (by simp)).again L3.out (by intro p hp; simp only [List.mem_cons, List.not_mem_nil, or_false] at hp; rcases hp with rfl | rfl; (exact fun e => N4.out (g3, 22, (bv lx).toArray) (by simp) e.symm); (exact N3.out (g2, 36, (iv (fam 16 dc)).toArray) (by simp))) (sK.out _ _ _ b3.out) KC.out)); clear t; have t := Lib.hid (show Pm w [(g4, 39, rz.c.toArray), (g3, 22, (bv lm).toArray), (g2, 36, (iv (fam 16 dc)).toArray)] _ from tn.out.sub2 (by simp)); clear b3 tn KC)
    | (with_reducible refine wpl_load_row (o := ⟨some 17, _, _, _, _, _⟩) arrB.row rfl (.tmp 3) rfl rfl (t.out.s (g3, 22, (bv lm).toArray) (by simp)) (bsize nlm.out) ?_)
    | (go_at_call 42; (with_reducible refine (c1.out _).mono ?_); rintro e v ⟨rfl, kk⟩; replace t := Lib.hid (t.out.kept kk); clear kk)
    | (refine wpl_build0 (o := ⟨some 20, _, _, _, _, _⟩) rfl rfl built_r0 ?_)
    | ((refine wpl_store_row (o := ⟨none, .store 39 (.tmp 4) (.tmp 20), _, _, _, _⟩) structRt rfl (.tmp 4) (.tmp 20) rfl rfl rfl (t.out.s (g4, 39, rz.c.toArray) (by simp)) (R4.size rz) (R4.size rz) (R4.one rz) ?_); intro v4 b4 k4; have bR := Lib.hid b4; have kR := Lib.hid k4; clear b4 k4))
  exact ret_row2 structRt rfl rfl bR.out (R4.size _) rfl ⟨rfl, t.out.k.then1 kR.out L4.out⟩
set_option maxRecDepth 100000 in
set_option maxHeartbeats 4000000 in
theorem rdec_Ge {dc : Nat → Int} (_ : Dq 70000 dc Ed.D) {X : Nat} (ho : ¬ 128 ≤ c31 X) (hg : RgC (le (X % T255) 32) false) : RdC dc (le X 32) rz false := by
  obtain ⟨lx, elx, nlx⟩ : ∃ l, l = le X 32 ∧ l.length = 32 := ⟨_, rfl, le_len _ _⟩
  obtain ⟨lm, elm, nlm⟩ : ∃ l, l = le (X % T255) 32 ∧ l.length = 32 := ⟨_, rfl, le_len _ _⟩
  rw [← elm] at hg
  rw [← elx]
  obtain ⟨lz, elz, nlz, uz⟩ : ∃ l : List UInt8, l = le 0 32 ∧ l.length = 32 ∧ Try.prog.built 22 [] = some (bv l).toArray := ⟨_, rfl, le_len _ _, lit_b0⟩
  obtain ⟨kc, hkc⟩ : ∃ c, c = c31 X := ⟨_, rfl⟩
  obtain ⟨kd, hkd⟩ : ∃ c, c = c31 (X % T255) := ⟨_, rfl⟩
  have gK : GetK lx kc := by rw [elx, hkc]; exact getK
  have sK : SetK lx lm ((kd : Nat) : Int) := by rw [elx, elm, hkd]; exact setK (c31_T255 X).2
  have hrem := mask_rem X
  rw [← hkc, ← hkd] at hrem
  have hge : (kc : Int) < 128 := by omega
  have c1 : RgC lm false := hg
  intro w
  replace c1 := Lib.hid c1
  replace gK := Lib.hid gK
  replace sK := Lib.hid sK
  replace nlx := Lib.hid nlx
  replace nlm := Lib.hid nlm
  replace nlz := Lib.hid nlz
  replace uz := Lib.hid uz
  clear ho hg elx elm elz hkc hkd
  go_enter Try.func13, Try.ntmps13
  have t := Lib.hid (Pm.none w)
  go_wp2_with (first
    | ((with_reducible refine wpl_box (o := ⟨some 2, _, _, _, _, _⟩) (v := nu dc) rfl (.tmp 0) rfl rfl ?_); intro g2 w2 m2; have N2 := Lib.hid (fun p hp => m2.ne (t.out.s p hp).lt); have L2 := Lib.hid (Nat.le_trans t.out.k.size m2.le); replace t := Lib.hid ((t.out.kept m2.kept).cons (show Blk w2 g2 36 (iv (fam 16 dc)).toArray from m2.blk)); clear m2)
    | ((with_reducible refine wpl_box (o := ⟨some 3, _, _, _, _, _⟩) (v := ab lx) rfl (.tmp 1) rfl rfl ?_); intro g3 w3 m3; have N3 := Lib.hid (fun p hp => m3.ne (t.out.s p hp).lt); have L3 := Lib.hid (Nat.le_trans t.out.k.size m3.le); replace t := Lib.hid ((t.out.kept m3.kept).cons (show Blk w3 g3 22 (bv lx).toArray from m3.blk)); clear m3)
    | ((with_reducible refine wpl_new (o := ⟨some 4, _, _, _, _, _⟩) rfl rfl zeroRt ?_); intro g4 w4 m4; have N4 := Lib.hid (fun p hp => m4.ne (t.out.s p hp).lt); have L4 := Lib.hid (Nat.le_trans t.out.k.size m4.le); replace t := Lib.hid ((t.out.kept m4.kept).cons (show Blk w4 g4 39 rz.c.toArray from m4.blk)); clear m4; have b3 := Lib.hid (t.out.s (g3, 22, (bv lx).toArray) (by simp)); have q1 := gK.out _ _ _ b3.out; have q2 := b3.out.frozen 31; have KC := Lib.hid ((Kept.refl [g3] w4).setCell (p := ⟨g3, 31, none⟩) (.inl (by simp)) (.int .u8 ((kd : Nat) : Int))); have tn := Lib.hid (((show Pm w [(g3, 22, (bv lx).toArray), (g4, 39, rz.c.toArray), (g2, 36, (iv (fam 16 dc)).toArray)] w4 from t.out.sub2 (by simp)).again L3.out (by intro p hp; simp only [List.mem_cons, List.not_mem_nil, or_false] at hp; rcases hp with rfl | rfl; (exact fun e => N4.out (g3, 22, (bv lx).toArray) (by simp) e.symm); (exact N3.out (g2, 36, (iv (fam 16 dc)).toArray) (by simp))) (sK.out _ _ _ b3.out) KC.out)); clear t; have t := Lib.hid (show Pm w [(g4, 39, rz.c.toArray), (g3, 22, (bv lm).toArray), (g2, 36, (iv (fam 16 dc)).toArray)] _ from tn.out.sub2 (by simp)); clear b3 tn KC)
    | (with_reducible refine wpl_load_row (o := ⟨some 17, _, _, _, _, _⟩) arrB.row rfl (.tmp 3) rfl rfl (t.out.s (g3, 22, (bv lm).toArray) (by simp)) (bsize nlm.out) ?_)
    | (go_at_call 42; (with_reducible refine (c1.out _).mono ?_); rintro e v ⟨rfl, kk⟩; replace t := Lib.hid (t.out.kept kk); clear kk)
    | (refine wpl_build0 (o := ⟨some 20, _, _, _, _, _⟩) rfl rfl built_r0 ?_)
    | ((refine wpl_store_row (o := ⟨none, .store 39 (.tmp 4) (.tmp 20), _, _, _, _⟩) structRt rfl (.tmp 4) (.tmp 20) rfl rfl rfl (t.out.s (g4, 39, rz.c.toArray) (by simp)) (R4.size rz) (R4.size rz) (R4.one rz) ?_); intro v4 b4 k4; have bR := Lib.hid b4; have kR := Lib.hid k4; clear b4 k4))
  exact ret_row2 structRt rfl rfl bR.out (R4.size _) rfl ⟨rfl, t.out.k.then1 kR.out L4.out⟩
set_option maxRecDepth 100000 in
set_option maxHeartbeats 4000000 in
theorem rdec_No {dc : Nat → Int} (_ : Dq 70000 dc Ed.D) {X : Nat} (ho : 128 ≤ c31 X) (hg : RgC (le (X % T255) 32) true) (hrt : ∀ dy, Dq 70000 dy (yOf X) → RtC dc dy zd false) : RdC dc (le X 32) rz false := by
  obtain ⟨lx, elx, nlx⟩ : ∃ l, l = le X 32 ∧ l.length = 32 := ⟨_, rfl, le_len _ _⟩
  obtain ⟨lm, elm, nlm⟩ : ∃ l, l = le (X % T255) 32 ∧ l.length = 32 := ⟨_, rfl, le_len _ _⟩
  rw [← elm] at hg
  rw [← elx]
  obtain ⟨lz, elz, nlz, uz⟩ : ∃ l : List UInt8, l = le 0 32 ∧ l.length = 32 ∧ Try.prog.built 22 [] = some (bv l).toArray := ⟨_, rfl, le_len _ _, lit_b0⟩
  obtain ⟨kc, hkc⟩ : ∃ c, c = c31 X := ⟨_, rfl⟩
  obtain ⟨kd, hkd⟩ : ∃ c, c = c31 (X % T255) := ⟨_, rfl⟩
  have gK : GetK lx kc := by rw [elx, hkc]; exact getK
  have sK : SetK lx lm ((kd : Nat) : Int) := by rw [elx, elm, hkd]; exact setK (c31_T255 X).2
  have hrem := mask_rem X
  rw [← hkc, ← hkd] at hrem
  have hge : (128 : Int) ≤ (kc : Int) := by omega
  have c1 : RgC lm true := hg
  obtain ⟨dy, cy_, hy0⟩ := rload_d nlm
  have hy := hy0.to (load_yOf elm)
  have crt := hrt dy hy
  intro w
  replace c1 := Lib.hid c1
  replace cy_ := Lib.hid cy_
  replace crt := Lib.hid crt
  replace gK := Lib.hid gK
  replace sK := Lib.hid sK
  replace nlx := Lib.hid nlx
  replace nlm := Lib.hid nlm
  replace nlz := Lib.hid nlz
  replace uz := Lib.hid uz
  clear ho hg elx elm elz hkc hkd hy hy0 hrt
  go_enter Try.func13, Try.ntmps13
  have t := Lib.hid (Pm.none w)
  go_wp2_with (first
    | ((with_reducible refine wpl_box (o := ⟨some 2, _, _, _, _, _⟩) (v := nu dc) rfl (.tmp 0) rfl rfl ?_); intro g2 w2 m2; have N2 := Lib.hid (fun p hp => m2.ne (t.out.s p hp).lt); have L2 := Lib.hid (Nat.le_trans t.out.k.size m2.le); replace t := Lib.hid ((t.out.kept m2.kept).cons (show Blk w2 g2 36 (iv (fam 16 dc)).toArray from m2.blk)); clear m2)
    | ((with_reducible refine wpl_box (o := ⟨some 3, _, _, _, _, _⟩) (v := ab lx) rfl (.tmp 1) rfl rfl ?_); intro g3 w3 m3; have N3 := Lib.hid (fun p hp => m3.ne (t.out.s p hp).lt); have L3 := Lib.hid (Nat.le_trans t.out.k.size m3.le); replace t := Lib.hid ((t.out.kept m3.kept).cons (show Blk w3 g3 22 (bv lx).toArray from m3.blk)); clear m3)
    | ((with_reducible refine wpl_new (o := ⟨some 4, _, _, _, _, _⟩) rfl rfl zeroRt ?_); intro g4 w4 m4; have N4 := Lib.hid (fun p hp => m4.ne (t.out.s p hp).lt); have L4 := Lib.hid (Nat.le_trans t.out.k.size m4.le); replace t := Lib.hid ((t.out.kept m4.kept).cons (show Blk w4 g4 39 rz.c.toArray from m4.blk)); clear m4; have b3 := Lib.hid (t.out.s (g3, 22, (bv lx).toArray) (by simp)); have q1 := gK.out _ _ _ b3.out; have q2 := b3.out.frozen 31; have KC := Lib.hid ((Kept.refl [g3] w4).setCell (p := ⟨g3, 31, none⟩) (.inl (by simp)) (.int .u8 ((kd : Nat) : Int))); have tn := Lib.hid (((show Pm w [(g3, 22, (bv lx).toArray), (g4, 39, rz.c.toArray), (g2, 36, (iv (fam 16 dc)).toArray)] w4 from t.out.sub2 (by simp)).again L3.out (by intro p hp; simp only [List.mem_cons, List.not_mem_nil, or_false] at hp; rcases hp with rfl | rfl; (exact fun e => N4.out (g3, 22, (bv lx).toArray) (by simp) e.symm); (exact N3.out (g2, 36, (iv (fam 16 dc)).toArray) (by simp))) (sK.out _ _ _ b3.out) KC.out)); clear t; have t := Lib.hid (show Pm w [(g4, 39, rz.c.toArray), (g3, 22, (bv lm).toArray), (g2, 36, (iv (fam 16 dc)).toArray)] _ from tn.out.sub2 (by simp)); clear b3 tn KC)
    | (with_reducible refine wpl_load_row (o := ⟨some 17, _, _, _, _, _⟩) arrB.row rfl (.tmp 3) rfl rfl (t.out.s (g3, 22, (bv lm).toArray) (by simp)) (bsize nlm.out) ?_)
    | (go_at_call 42; (with_reducible refine (c1.out _).mono ?_); rintro e v ⟨rfl, kk⟩; replace t := Lib.hid (t.out.kept kk); clear kk)
    | (with_reducible refine wpl_load_row (o := ⟨some 21, _, _, _, _, _⟩) arrB.row rfl (.tmp 3) rfl rfl (t.out.s (g3, 22, (bv lm).toArray) (by simp)) (bsize nlm.out) ?_)
    | (go_at_call 43; (with_reducible refine (cy_.out _).mono ?_); rintro e v ⟨rfl, kk⟩; replace t := Lib.hid (t.out.kept kk); clear kk)
    | ((with_reducible refine wpl_new (o := ⟨some 7, _, _, _, _, _⟩) rfl rfl zeroN ?_); intro g7 w7 m7; have N7 := Lib.hid (fun p hp => m7.ne (t.out.s p hp).lt); have L7 := Lib.hid (Nat.le_trans t.out.k.size m7.le); replace t := Lib.hid ((t.out.kept m7.kept).cons (show Blk w7 g7 34 (iv (fam 16 zd)).toArray from m7.blk)); clear m7)
    | ((refine wpl_store_row (o := ⟨none, .store 34 (.tmp 7) (.tmp 22), _, _, _, _⟩) arrN.row rfl (.tmp 7) (.tmp 22) rfl rfl rfl (t.out.s (g7, 34, (iv (fam 16 zd)).toArray) (by simp)) rfl rfl (one_nu _) ?_); intro v7 b7 k7; replace t := Lib.hid (t.out.again L7.out N7.out b7 k7); clear b7 k7)
    | (with_reducible refine wpl_load_row (o := ⟨some 24, _, _, _, _, _⟩) structCv rfl (.tmp 2) rfl rfl (t.out.s (g2, 36, (iv (fam 16 dc)).toArray) (by simp)) rfl ?_)
    | (with_reducible refine wpl_load_row (o := ⟨some 25, _, _, _, _, _⟩) arrN.row rfl (.tmp 7) rfl rfl (t.out.s (g7, 34, (iv (fam 16 dy)).toArray) (by simp)) rfl ?_)
    | (go_at_call 44; (with_reducible refine (crt.out _).mono ?_); rintro e v ⟨rfl, kk⟩; replace t := Lib.hid (t.out.kept kk); clear kk)
    | ((with_reducible refine wpl_new (o := ⟨some 8, _, _, _, _, _⟩) rfl rfl zeroN ?_); intro g8 w8 m8; have N8 := Lib.hid (fun p hp => m8.ne (t.out.s p hp).lt); have L8 := Lib.hid (Nat.le_trans t.out.k.size m8.le); replace t := Lib.hid ((t.out.kept m8.kept).cons (show Blk w8 g8 34 (iv (fam 16 zd)).toArray from m8.blk)); clear m8)
    | ((refine wpl_store_row (o := ⟨none, .store 34 (.tmp 8) (.tmp 27), _, _, _, _⟩) arrN.row rfl (.tmp 8) (.tmp 27) rfl rfl rfl (t.out.s (g8, 34, (iv (fam 16 zd)).toArray) (by simp)) rfl rfl (one_nu _) ?_); intro v8 b8 k8; replace t := Lib.hid (t.out.again L8.out N8.out b8 k8); clear b8 k8)
    | (refine wpl_build0 (o := ⟨some 40, _, _, _, _, _⟩) rfl rfl built_r0 ?_)
    | ((refine wpl_store_row (o := ⟨none, .store 39 (.tmp 4) (.tmp 40), _, _, _, _⟩) structRt rfl (.tmp 4) (.tmp 40) rfl rfl rfl (t.out.s (g4, 39, rz.c.toArray) (by simp)) (R4.size rz) (R4.size rz) (R4.one rz) ?_); intro v4 b4 k4; have bR := Lib.hid b4; have kR := Lib.hid k4; clear b4 k4))
  exact ret_row2 structRt rfl rfl bR.out (R4.size _) rfl ⟨rfl, t.out.k.then1 kR.out L4.out⟩
set_option maxRecDepth 100000 in
set_option maxHeartbeats 4000000 in
theorem rdec_Ne {dc : Nat → Int} (_ : Dq 70000 dc Ed.D) {X : Nat} (ho : ¬ 128 ≤ c31 X) (hg : RgC (le (X % T255) 32) true) (hrt : ∀ dy, Dq 70000 dy (yOf X) → RtC dc dy zd false) : RdC dc (le X 32) rz false := by
  obtain ⟨lx, elx, nlx⟩ : ∃ l, l = le X 32 ∧ l.length = 32 := ⟨_, rfl, le_len _ _⟩
  obtain ⟨lm, elm, nlm⟩ : ∃ l, l = le (X % T255) 32 ∧ l.length = 32 := ⟨_, rfl, le_len _ _⟩
  rw [← elm] at hg
  rw [← elx]
  obtain ⟨lz, elz, nlz, uz⟩ : ∃ l : List UInt8, l = le 0 32 ∧ l.length = 32 ∧ Try.prog.built 22 [] = some (bv l).toArray := ⟨_, rfl, le_len _ _, lit_b0⟩
  obtain ⟨kc, hkc⟩ : ∃ c, c = c31 X := ⟨_, rfl⟩
  obtain ⟨kd, hkd⟩ : ∃ c, c = c31 (X % T255) := ⟨_, rfl⟩
  have gK : GetK lx kc := by rw [elx, hkc]; exact getK
  have sK : SetK lx lm ((kd : Nat) : Int) := by rw [elx, elm, hkd]; exact setK (c31_T255 X).2
  have hrem := mask_rem X
  rw [← hkc, ← hkd] at hrem
  have hge : (kc : Int) < 128 := by omega
  have c1 : RgC lm true := hg
  obtain ⟨dy, cy_, hy0⟩ := rload_d nlm
  have hy := hy0.to (load_yOf elm)
  have crt := hrt dy hy
  intro w
  replace c1 := Lib.hid c1
  replace cy_ := Lib.hid cy_
  replace crt := Lib.hid crt
  replace gK := Lib.hid gK
  replace sK := Lib.hid sK
  replace nlx := Lib.hid nlx
  replace nlm := Lib.hid nlm
  replace nlz := Lib.hid nlz
  replace uz := Lib.hid uz
  clear ho hg elx elm elz hkc hkd hy hy0 hrt
  go_enter Try.func13, Try.ntmps13
  have t := Lib.hid (Pm.none w)
  go_wp2_with (first
    | ((with_reducible refine wpl_box (o := ⟨some 2, _, _, _, _, _⟩) (v := nu dc) rfl (.tmp 0) rfl rfl ?_); intro g2 w2 m2; have N2 := Lib.hid (fun p hp => m2.ne (t.out.s p hp).lt); have L2 := Lib.hid (Nat.le_trans t.out.k.size m2.le); replace t := Lib.hid ((t.out.kept m2.kept).cons (show Blk w2 g2 36 (iv (fam 16 dc)).toArray from m2.blk)); clear m2)
    | ((with_reducible refine wpl_box (o := ⟨some 3, _, _, _, _, _⟩) (v := ab lx) rfl (.tmp 1) rfl rfl ?_); intro g3 w3 m3; have N3 := Lib.hid (fun p hp => m3.ne (t.out.s p hp).lt); have L3 := Lib.hid (Nat.le_trans t.out.k.size m3.le); replace t := Lib.hid ((t.out.kept m3.kept).cons (show Blk w3 g3 22 (bv lx).toArray from m3.blk)); clear m3)
    | ((with_reducible refine wpl_new (o := ⟨some 4, _, _, _, _, _⟩) rfl rfl zeroRt ?_); intro g4 w4 m4; have N4 := Lib.hid (fun p hp => m4.ne (t.out.s p hp).lt); have L4 := Lib.hid (Nat.le_trans t.out.k.size m4.le); replace t := Lib.hid ((t.out.kept m4.kept).cons (show Blk w4 g4 39 rz.c.toArray from m4.blk)); clear m4; have b3 := Lib.hid (t.out.s (g3, 22, (bv lx).toArray) (by simp)); have q1 := gK.out _ _ _ b3.out; have q2 := b3.out.frozen 31; have KC := Lib.hid ((Kept.refl [g3] w4).setCell (p := ⟨g3, 31, none⟩) (.inl (by simp)) (.int .u8 ((kd : Nat) : Int))); have tn := Lib.hid (((show Pm w [(g3, 22, (bv lx).toArray), (g4, 39, rz.c.toArray), (g2, 36, (iv (fam 16 dc)).toArray)] w4 from t.out.sub2 (by simp)).again L3.out (by intro p hp; simp only [List.mem_cons, List.not_mem_nil, or_false] at hp; rcases hp with rfl | rfl; (exact fun e => N4.out (g3, 22, (bv lx).toArray) (by simp) e.symm); (exact N3.out (g2, 36, (iv (fam 16 dc)).toArray) (by simp))) (sK.out _ _ _ b3.out) KC.out)); clear t; have t := Lib.hid (show Pm w [(g4, 39, rz.c.toArray), (g3, 22, (bv lm).toArray), (g2, 36, (iv (fam 16 dc)).toArray)] _ from tn.out.sub2 (by simp)); clear b3 tn KC)
    | (with_reducible refine wpl_load_row (o := ⟨some 17, _, _, _, _, _⟩) arrB.row rfl (.tmp 3) rfl rfl (t.out.s (g3, 22, (bv lm).toArray) (by simp)) (bsize nlm.out) ?_)
    | (go_at_call 42; (with_reducible refine (c1.out _).mono ?_); rintro e v ⟨rfl, kk⟩; replace t := Lib.hid (t.out.kept kk); clear kk)
    | (with_reducible refine wpl_load_row (o := ⟨some 21, _, _, _, _, _⟩) arrB.row rfl (.tmp 3) rfl rfl (t.out.s (g3, 22, (bv lm).toArray) (by simp)) (bsize nlm.out) ?_)
    | (go_at_call 43; (with_reducible refine (cy_.out _).mono ?_); rintro e v ⟨rfl, kk⟩; replace t := Lib.hid (t.out.kept kk); clear kk)
    | ((with_reducible refine wpl_new (o := ⟨some 7, _, _, _, _, _⟩) rfl rfl zeroN ?_); intro g7 w7 m7; have N7 := Lib.hid (fun p hp => m7.ne (t.out.s p hp).lt); have L7 := Lib.hid (Nat.le_trans t.out.k.size m7.le); replace t := Lib.hid ((t.out.kept m7.kept).cons (show Blk w7 g7 34 (iv (fam 16 zd)).toArray from m7.blk)); clear m7)
    | ((refine wpl_store_row (o := ⟨none, .store 34 (.tmp 7) (.tmp 22), _, _, _, _⟩) arrN.row rfl (.tmp 7) (.tmp 22) rfl rfl rfl (t.out.s (g7, 34, (iv (fam 16 zd)).toArray) (by simp)) rfl rfl (one_nu _) ?_); intro v7 b7 k7; replace t := Lib.hid (t.out.again L7.out N7.out b7 k7); clear b7 k7)
    | (with_reducible refine wpl_load_row (o := ⟨some 24, _, _, _, _, _⟩) structCv rfl (.tmp 2) rfl rfl (t.out.s (g2, 36, (iv (fam 16 dc)).toArray) (by simp)) rfl ?_)
    | (with_reducible refine wpl_load_row (o := ⟨some 25, _, _, _, _, _⟩) arrN.row rfl (.tmp 7) rfl rfl (t.out.s (g7, 34, (iv (fam 16 dy)).toArray) (by simp)) rfl ?_)
    | (go_at_call 44; (with_reducible refine (crt.out _).mono ?_); rintro e v ⟨rfl, kk⟩; replace t := Lib.hid (t.out.kept kk); clear kk)
    | ((with_reducible refine wpl_new (o := ⟨some 8, _, _, _, _, _⟩) rfl rfl zeroN ?_); intro g8 w8 m8; have N8 := Lib.hid (fun p hp => m8.ne (t.out.s p hp).lt); have L8 := Lib.hid (Nat.le_trans t.out.k.size m8.le); replace t := Lib.hid ((t.out.kept m8.kept).cons (show Blk w8 g8 34 (iv (fam 16 zd)).toArray from m8.blk)); clear m8)
    | ((refine wpl_store_row (o := ⟨none, .store 34 (.tmp 8) (.tmp 27), _, _, _, _⟩) arrN.row rfl (.tmp 8) (.tmp 27) rfl rfl rfl (t.out.s (g8, 34, (iv (fam 16 zd)).toArray) (by simp)) rfl rfl (one_nu _) ?_); intro v8 b8 k8; replace t := Lib.hid (t.out.again L8.out N8.out b8 k8); clear b8 k8)
    | (refine wpl_build0 (o := ⟨some 40, _, _, _, _, _⟩) rfl rfl built_r0 ?_)
    | ((refine wpl_store_row (o := ⟨none, .store 39 (.tmp 4) (.tmp 40), _, _, _, _⟩) structRt rfl (.tmp 4) (.tmp 40) rfl rfl rfl (t.out.s (g4, 39, rz.c.toArray) (by simp)) (R4.size rz) (R4.size rz) (R4.one rz) ?_); intro v4 b4 k4; have bR := Lib.hid b4; have kR := Lib.hid k4; clear b4 k4))
  exact ret_row2 structRt rfl rfl bR.out (R4.size _) rfl ⟨rfl, t.out.k.then1 kR.out L4.out⟩
set_option maxRecDepth 100000 in
set_option maxHeartbeats 4000000 in
theorem rdec_Zo {dc : Nat → Int} (_ : Dq 70000 dc Ed.D) {X : Nat} (ho : 128 ≤ c31 X) (hg : RgC (le (X % T255) 32) true) {x : Ed.Fq} (hrt : ∀ dy, Dq 70000 dy (yOf X) → ∃ r, RtC dc dy r true ∧ Dq 70000 r x) (hz0 : x.v = 0) : RdC dc (le X 32) rz false := by
  obtain ⟨lx, elx, nlx⟩ : ∃ l, l = le X 32 ∧ l.length = 32 := ⟨_, rfl, le_len _ _⟩
  obtain ⟨lm, elm, nlm⟩ : ∃ l, l = le (X % T255) 32 ∧ l.length = 32 := ⟨_, rfl, le_len _ _⟩
  rw [← elm] at hg
  rw [← elx]
  obtain ⟨lz, elz, nlz, uz⟩ : ∃ l : List UInt8, l = le 0 32 ∧ l.length = 32 ∧ Try.prog.built 22 [] = some (bv l).toArray := ⟨_, rfl, le_len _ _, lit_b0⟩
  obtain ⟨kc, hkc⟩ : ∃ c, c = c31 X := ⟨_, rfl⟩
  obtain ⟨kd, hkd⟩ : ∃ c, c = c31 (X % T255) := ⟨_, rfl⟩
  have gK : GetK lx kc := by rw [elx, hkc]; exact getK
  have sK : SetK lx lm ((kd : Nat) : Int) := by rw [elx, elm, hkd]; exact setK (c31_T255 X).2
  have hrem := mask_rem X
  rw [← hkc, ← hkd] at hrem
  have hge : (128 : Int) ≤ (kc : Int) := by omega
  have c1 : RgC lm true := hg
  obtain ⟨dy, cy_, hy0⟩ := rload_d nlm
  have hy := hy0.to (load_yOf elm)
  obtain ⟨xr, crt, hx⟩ := hrt dy hy
  have hzq : ∀ {l : List UInt8}, l = le x.v 32 → (l == lz) = true := fun e => by rw [e, elz, le_beq _ _ (v_lt x) PP_pos]; exact decide_eq_true hz0
  obtain ⟨l4, c4, e4, nl4⟩ := rpack_e hx (by omega)
  have Q37 : (l4 == lz) = true := hzq e4
  have q37 := eql_run Q37 nl4 nlz
  intro w
  replace c1 := Lib.hid c1
  replace cy_ := Lib.hid cy_
  replace crt := Lib.hid crt
  replace nl4 := Lib.hid nl4
  replace c4 := Lib.hid c4
  replace gK := Lib.hid gK
  replace sK := Lib.hid sK
  replace nlx := Lib.hid nlx
  replace nlm := Lib.hid nlm
  replace nlz := Lib.hid nlz
  replace uz := Lib.hid uz
  clear ho hg elx elm elz hkc hkd hy hy0 hrt hx hzq hz0 Q37 e4
  go_enter Try.func13, Try.ntmps13
  have t := Lib.hid (Pm.none w)
  go_wp2_with (first
    | ((with_reducible refine wpl_box (o := ⟨some 2, _, _, _, _, _⟩) (v := nu dc) rfl (.tmp 0) rfl rfl ?_); intro g2 w2 m2; have N2 := Lib.hid (fun p hp => m2.ne (t.out.s p hp).lt); have L2 := Lib.hid (Nat.le_trans t.out.k.size m2.le); replace t := Lib.hid ((t.out.kept m2.kept).cons (show Blk w2 g2 36 (iv (fam 16 dc)).toArray from m2.blk)); clear m2)
    | ((with_reducible refine wpl_box (o := ⟨some 3, _, _, _, _, _⟩) (v := ab lx) rfl (.tmp 1) rfl rfl ?_); intro g3 w3 m3; have N3 := Lib.hid (fun p hp => m3.ne (t.out.s p hp).lt); have L3 := Lib.hid (Nat.le_trans t.out.k.size m3.le); replace t := Lib.hid ((t.out.kept m3.kept).cons (show Blk w3 g3 22 (bv lx).toArray from m3.blk)); clear m3)
    | ((with_reducible refine wpl_new (o := ⟨some 4, _, _, _, _, _⟩) rfl rfl zeroRt ?_); intro g4 w4 m4; have N4 := Lib.hid (fun p hp => m4.ne (t.out.s p hp).lt); have L4 := Lib.hid (Nat.le_trans t.out.k.size m4.le); replace t := Lib.hid ((t.out.kept m4.kept).cons (show Blk w4 g4 39 rz.c.toArray from m4.blk)); clear m4; have b3 := Lib.hid (t.out.s (g3, 22, (bv lx).toArray) (by simp)); have q1 := gK.out _ _ _ b3.out; have q2 := b3.out.frozen 31; have KC := Lib.hid ((Kept.refl [g3] w4).setCell (p := ⟨g3, 31, none⟩) (.inl (by simp)) (.int .u8 ((kd : Nat) : Int))); have tn := Lib.hid (((show Pm w [(g3, 22, (bv lx).toArray), (g4, 39, rz.c.toArray), (g2, 36, (iv (fam 16 dc)).toArray)] w4 from t.out.sub2 (by simp)).again L3.out (by intro p hp; simp only [List.mem_cons, List.not_mem_nil, or_false] at hp; rcases hp with rfl | rfl; (exact fun e => N4.out (g3, 22, (bv lx).toArray) (by simp) e.symm); (exact N3.out (g2, 36, (iv (fam 16 dc)).toArray) (by simp))) (sK.out _ _ _ b3.out) KC.out)); clear t; have t := Lib.hid (show Pm w [(g4, 39, rz.c.toArray), (g3, 22, (bv lm).toArray), (g2, 36, (iv (fam 16 dc)).toArray)] _ from tn.out.sub2 (by simp)); clear b3 tn KC)
    | (with_reducible refine wpl_load_row (o := ⟨some 17, _, _, _, _, _⟩) arrB.row rfl (.tmp 3) rfl rfl (t.out.s (g3, 22, (bv lm).toArray) (by simp)) (bsize nlm.out) ?_)
    | (go_at_call 42; (with_reducible refine (c1.out _).mono ?_); rintro e v ⟨rfl, kk⟩; replace t := Lib.hid (t.out.kept kk); clear kk)
    | (with_reducible refine wpl_load_row (o := ⟨some 21, _, _, _, _, _⟩) arrB.row rfl (.tmp 3) rfl rfl (t.out.s (g3, 22, (bv lm).toArray) (by simp)) (bsize nlm.out) ?_)
    | (go_at_call 43; (with_reducible refine (cy_.out _).mono ?_); rintro e v ⟨rfl, kk⟩; replace t := Lib.hid (t.out.kept kk); clear kk)
    | ((with_reducible refine wpl_new (o := ⟨some 7, _, _, _, _, _⟩) rfl rfl zeroN ?_); intro g7 w7 m7; have N7 := Lib.hid (fun p hp => m7.ne (t.out.s p hp).lt); have L7 := Lib.hid (Nat.le_trans t.out.k.size m7.le); replace t := Lib.hid ((t.out.kept m7.kept).cons (show Blk w7 g7 34 (iv (fam 16 zd)).toArray from m7.blk)); clear m7)
    | ((refine wpl_store_row (o := ⟨none, .store 34 (.tmp 7) (.tmp 22), _, _, _, _⟩) arrN.row rfl (.tmp 7) (.tmp 22) rfl rfl rfl (t.out.s (g7, 34, (iv (fam 16 zd)).toArray) (by simp)) rfl rfl (one_nu _) ?_); intro v7 b7 k7; replace t := Lib.hid (t.out.again L7.out N7.out b7 k7); clear b7 k7)
    | (with_reducible refine wpl_load_row (o := ⟨some 24, _, _, _, _, _⟩) structCv rfl (.tmp 2) rfl rfl (t.out.s (g2, 36, (iv (fam 16 dc)).toArray) (by simp)) rfl ?_)
    | (with_reducible refine wpl_load_row (o := ⟨some 25, _, _, _, _, _⟩) arrN.row rfl (.tmp 7) rfl rfl (t.out.s (g7, 34, (iv (fam 16 dy)).toArray) (by simp)) rfl ?_)
    | (go_at_call 44; (with_reducible refine (crt.out _).mono ?_); rintro e v ⟨rfl, kk⟩; replace t := Lib.hid (t.out.kept kk); clear kk)
    | ((with_reducible refine wpl_new (o := ⟨some 8, _, _, _, _, _⟩) rfl rfl zeroN ?_); intro g8 w8 m8; have N8 := Lib.hid (fun p hp => m8.ne (t.out.s p hp).lt); have L8 := Lib.hid (Nat.le_trans t.out.k.size m8.le); replace t := Lib.hid ((t.out.kept m8.kept).cons (show Blk w8 g8 34 (iv (fam 16 zd)).toArray from m8.blk)); clear m8)
    | ((refine wpl_store_row (o := ⟨none, .store 34 (.tmp 8) (.tmp 27), _, _, _, _⟩) arrN.row rfl (.tmp 8) (.tmp 27) rfl rfl rfl (t.out.s (g8, 34, (iv (fam 16 zd)).toArray) (by simp)) rfl rfl (one_nu _) ?_); intro v8 b8 k8; replace t := Lib.hid (t.out.again L8.out N8.out b8 k8); clear b8 k8)
    | (refine wpl_load_row (o := ⟨some 34, _, _, _, _, _⟩) arrN.row rfl (.tmp 8) rfl rfl (t.out.s (g8, 34, (iv (fam 16 xr)).toArray) (by simp)) rfl ?_)
    | (go_at_call 45; (with_reducible refine (c4.out _).mono ?_); rintro e v ⟨rfl, kk⟩; replace t := Lib.hid (t.out.kept kk); clear kk)
    | (refine wpl_build0 (o := ⟨some 36, _, _, _, _, _⟩) rfl rfl uz.out ?_)
    | (refine wpl_build0 (o := ⟨some 40, _, _, _, _, _⟩) rfl rfl built_r0 ?_)
    | ((refine wpl_store_row (o := ⟨none, .store 39 (.tmp 4) (.tmp 40), _, _, _, _⟩) structRt rfl (.tmp 4) (.tmp 40) rfl rfl rfl (t.out.s (g4, 39, rz.c.toArray) (by simp)) (R4.size rz) (R4.size rz) (R4.one rz) ?_); intro v4 b4 k4; have bR := Lib.hid b4; have kR := Lib.hid k4; clear b4 k4))
  exact ret_row2 structRt rfl rfl bR.out (R4.size _) rfl ⟨rfl, t.out.k.then1 kR.out L4.out⟩
set_option maxRecDepth 100000 in
set_option maxHeartbeats 4000000 in
theorem rdec_Oo {dc : Nat → Int} (_ : Dq 70000 dc Ed.D) {X : Nat} (ho : 128 ≤ c31 X) (hg : RgC (le (X % T255) 32) true) {x : Ed.Fq} (hrt : ∀ dy, Dq 70000 dy (yOf X) → ∃ r, RtC dc dy r true ∧ Dq 70000 r x) (hz0 : ¬ x.v = 0) {P : Ed.Pt} (hPx0 : P.x = -x) (hPy0 : P.y = yOf X) : ∃ r, RdC dc (le X 32) r true ∧ Rr r P := by
  obtain ⟨lx, elx, nlx⟩ : ∃ l, l = le X 32 ∧ l.length = 32 := ⟨_, rfl, le_len _ _⟩
  obtain ⟨lm, elm, nlm⟩ : ∃ l, l = le (X % T255) 32 ∧ l.length = 32 := ⟨_, rfl, le_len _ _⟩
  rw [← elm] at hg
  rw [← elx]
  obtain ⟨lz, elz, nlz, uz⟩ : ∃ l : List UInt8, l = le 0 32 ∧ l.length = 32 ∧ Try.prog.built 22 [] = some (bv l).toArray := ⟨_, rfl, le_len _ _, lit_b0⟩
  obtain ⟨kc, hkc⟩ : ∃ c, c = c31 X := ⟨_, rfl⟩
  obtain ⟨kd, hkd⟩ : ∃ c, c = c31 (X % T255) := ⟨_, rfl⟩
  have gK : GetK lx kc := by rw [elx, hkc]; exact getK
  have sK : SetK lx lm ((kd : Nat) : Int) := by rw [elx, elm, hkd]; exact setK (c31_T255 X).2
  have hrem := mask_rem X
  rw [← hkc, ← hkd] at hrem
  have hge : (128 : Int) ≤ (kc : Int) := by omega
  have c1 : RgC lm true := hg
  obtain ⟨dy, cy_, hy0⟩ := rload_d nlm
  have hy := hy0.to (load_yOf elm)
  obtain ⟨xr, crt, hx⟩ := hrt dy hy
  have hzq : ∀ {l : List UInt8}, l = le x.v 32 → (l == lz) = false := fun e => by rw [e, elz, le_beq _ _ (v_lt x) PP_pos]; exact decide_eq_false hz0
  have hPx : (Ed.mk 0 - x) * Ed.mk 1 = P.x := by rw [hPx0, neg_form]
  have hPy : yOf X = P.y := hPy0.symm
  obtain ⟨l4, c4, e4, nl4⟩ := rpack_e hx (by omega)
  have Q37 : (l4 == lz) = false := hzq e4
  have q37 := eql_run Q37 nl4 nlz
  obtain ⟨d5, c5, h5⟩ := of_d 0 (z := 0) (by omega) rfl
  obtain ⟨d6, c6, h6⟩ := rsub_d h5 hx (by omega) (by omega)
  obtain ⟨d7, c7, h7⟩ := of_d 1 (z := 1) (by omega) rfl
  obtain ⟨d8, c8, h8⟩ := rmul_d h6 h7 (by omega) (by omega)
  obtain ⟨R, con, hR⟩ := on_r (P := P) (h8.to hPx) (hy.to hPy)
  refine ⟨R, ?_, hR⟩
  intro w
  replace c1 := Lib.hid c1
  replace cy_ := Lib.hid cy_
  replace crt := Lib.hid crt
  replace nl4 := Lib.hid nl4
  replace c4 := Lib.hid c4
  replace c5 := Lib.hid c5
  replace c6 := Lib.hid c6
  replace c7 := Lib.hid c7
  replace c8 := Lib.hid c8
  replace con := Lib.hid con
  replace gK := Lib.hid gK
  replace sK := Lib.hid sK
  replace nlx := Lib.hid nlx
  replace nlm := Lib.hid nlm
  replace nlz := Lib.hid nlz
  replace uz := Lib.hid uz
  clear ho hg elx elm elz hkc hkd hy hy0 hrt hx hzq hz0 Q37 hPx hPy hPx0 hPy0 hR e4 h5 h6 h7 h8
  go_enter Try.func13, Try.ntmps13
  have t := Lib.hid (Pm.none w)
  go_wp2_with (first
    | ((with_reducible refine wpl_box (o := ⟨some 2, _, _, _, _, _⟩) (v := nu dc) rfl (.tmp 0) rfl rfl ?_); intro g2 w2 m2; have N2 := Lib.hid (fun p hp => m2.ne (t.out.s p hp).lt); have L2 := Lib.hid (Nat.le_trans t.out.k.size m2.le); replace t := Lib.hid ((t.out.kept m2.kept).cons (show Blk w2 g2 36 (iv (fam 16 dc)).toArray from m2.blk)); clear m2)
    | ((with_reducible refine wpl_box (o := ⟨some 3, _, _, _, _, _⟩) (v := ab lx) rfl (.tmp 1) rfl rfl ?_); intro g3 w3 m3; have N3 := Lib.hid (fun p hp => m3.ne (t.out.s p hp).lt); have L3 := Lib.hid (Nat.le_trans t.out.k.size m3.le); replace t := Lib.hid ((t.out.kept m3.kept).cons (show Blk w3 g3 22 (bv lx).toArray from m3.blk)); clear m3)
    | ((with_reducible refine wpl_new (o := ⟨some 4, _, _, _, _, _⟩) rfl rfl zeroRt ?_); intro g4 w4 m4; have N4 := Lib.hid (fun p hp => m4.ne (t.out.s p hp).lt); have L4 := Lib.hid (Nat.le_trans t.out.k.size m4.le); replace t := Lib.hid ((t.out.kept m4.kept).cons (show Blk w4 g4 39 rz.c.toArray from m4.blk)); clear m4; have b3 := Lib.hid (t.out.s (g3, 22, (bv lx).toArray) (by simp)); have q1 := gK.out _ _ _ b3.out; have q2 := b3.out.frozen 31; have KC := Lib.hid ((Kept.refl [g3] w4).setCell (p := ⟨g3, 31, none⟩) (.inl (by simp)) (.int .u8 ((kd : Nat) : Int))); have tn := Lib.hid (((show Pm w [(g3, 22, (bv lx).toArray), (g4, 39, rz.c.toArray), (g2, 36, (iv (fam 16 dc)).toArray)] w4 from t.out.sub2 (by simp)).again L3.out (by intro p hp; simp only [List.mem_cons, List.not_mem_nil, or_false] at hp; rcases hp with rfl | rfl; (exact fun e => N4.out (g3, 22, (bv lx).toArray) (by simp) e.symm); (exact N3.out (g2, 36, (iv (fam 16 dc)).toArray) (by simp))) (sK.out _ _ _ b3.out) KC.out)); clear t; have t := Lib.hid (show Pm w [(g4, 39, rz.c.toArray), (g3, 22, (bv lm).toArray), (g2, 36, (iv (fam 16 dc)).toArray)] _ from tn.out.sub2 (by simp)); clear b3 tn KC)
    | (with_reducible refine wpl_load_row (o := ⟨some 17, _, _, _, _, _⟩) arrB.row rfl (.tmp 3) rfl rfl (t.out.s (g3, 22, (bv lm).toArray) (by simp)) (bsize nlm.out) ?_)
    | (go_at_call 42; (with_reducible refine (c1.out _).mono ?_); rintro e v ⟨rfl, kk⟩; replace t := Lib.hid (t.out.kept kk); clear kk)
    | (with_reducible refine wpl_load_row (o := ⟨some 21, _, _, _, _, _⟩) arrB.row rfl (.tmp 3) rfl rfl (t.out.s (g3, 22, (bv lm).toArray) (by simp)) (bsize nlm.out) ?_)
    | (go_at_call 43; (with_reducible refine (cy_.out _).mono ?_); rintro e v ⟨rfl, kk⟩; replace t := Lib.hid (t.out.kept kk); clear kk)
    | ((with_reducible refine wpl_new (o := ⟨some 7, _, _, _, _, _⟩) rfl rfl zeroN ?_); intro g7 w7 m7; have N7 := Lib.hid (fun p hp => m7.ne (t.out.s p hp).lt); have L7 := Lib.hid (Nat.le_trans t.out.k.size m7.le); replace t := Lib.hid ((t.out.kept m7.kept).cons (show Blk w7 g7 34 (iv (fam 16 zd)).toArray from m7.blk)); clear m7)
    | ((refine wpl_store_row (o := ⟨none, .store 34 (.tmp 7) (.tmp 22), _, _, _, _⟩) arrN.row rfl (.tmp 7) (.tmp 22) rfl rfl rfl (t.out.s (g7, 34, (iv (fam 16 zd)).toArray) (by simp)) rfl rfl (one_nu _) ?_); intro v7 b7 k7; replace t := Lib.hid (t.out.again L7.out N7.out b7 k7); clear b7 k7)
    | (with_reducible refine wpl_load_row (o := ⟨some 24, _, _, _, _, _⟩) structCv rfl (.tmp 2) rfl rfl (t.out.s (g2, 36, (iv (fam 16 dc)).toArray) (by simp)) rfl ?_)
    | (with_reducible refine wpl_load_row (o := ⟨some 25, _, _, _, _, _⟩) arrN.row rfl (.tmp 7) rfl rfl (t.out.s (g7, 34, (iv (fam 16 dy)).toArray) (by simp)) rfl ?_)
    | (go_at_call 44; (with_reducible refine (crt.out _).mono ?_); rintro e v ⟨rfl, kk⟩; replace t := Lib.hid (t.out.kept kk); clear kk)
    | ((with_reducible refine wpl_new (o := ⟨some 8, _, _, _, _, _⟩) rfl rfl zeroN ?_); intro g8 w8 m8; have N8 := Lib.hid (fun p hp => m8.ne (t.out.s p hp).lt); have L8 := Lib.hid (Nat.le_trans t.out.k.size m8.le); replace t := Lib.hid ((t.out.kept m8.kept).cons (show Blk w8 g8 34 (iv (fam 16 zd)).toArray from m8.blk)); clear m8)
    | ((refine wpl_store_row (o := ⟨none, .store 34 (.tmp 8) (.tmp 27), _, _, _, _⟩) arrN.row rfl (.tmp 8) (.tmp 27) rfl rfl rfl (t.out.s (g8, 34, (iv (fam 16 zd)).toArray) (by simp)) rfl rfl (one_nu _) ?_); intro v8 b8 k8; replace t := Lib.hid (t.out.again L8.out N8.out b8 k8); clear b8 k8)
    | (refine wpl_load_row (o := ⟨some 34, _, _, _, _, _⟩) arrN.row rfl (.tmp 8) rfl rfl (t.out.s (g8, 34, (iv (fam 16 xr)).toArray) (by simp)) rfl ?_)
    | (go_at_call 45; (with_reducible refine (c4.out _).mono ?_); rintro e v ⟨rfl, kk⟩; replace t := Lib.hid (t.out.kept kk); clear kk)
    | (refine wpl_build0 (o := ⟨some 36, _, _, _, _, _⟩) rfl rfl uz.out ?_))
  refine wp_last (by kernel_rfl) [nu d5, nu xr, nu d6, nu d7, nu d8]
    (Pm w [(g8, 34, (iv (fam 16 xr)).toArray), (g7, 34, (iv (fam 16 dy)).toArray), (g4, 39, rz.c.toArray), (g3, 22, (bv lm).toArray), (g2, 36, (iv (fam 16 dc)).toArray)]) (by kernel_rfl) rfl rfl (by kernel_rfl) t.out.drew (fun u u' h hk => h.kept hk) ?_ ?_
  · refine ⟨?_, ?_, ?_, ?_, ?_, trivial⟩
    · refine fun a' u K0 R hS hr ho h => wp_callf rfl enters_rof (vs := #[.int .u64 0]) ?_ (c5.out u) h
      simp [Act.eval]
    · exact fun a' u K0 R hS hr ho h => wp_loadr arrN.row (.tmp 8) rfl ((ho 8 (by decide)).trans rfl) (hS.s (g8, 34, (iv (fam 16 xr)).toArray) (by simp)) rfl (h u (Kept.refl _ _))
    · refine fun a' u K0 R hS hr ho h => wp_callf rfl enters_rsub (vs := #[nu d5, nu xr]) ?_ (c6.out u) h
      have x0 := hr 0 (nu d5) 42 _ rfl rfl rfl ⟨⟨0, .data⟩, by simp, rfl, rfl⟩
      have x1 := hr 1 (nu xr) 43 _ rfl rfl rfl ⟨⟨1, .data⟩, by simp, rfl, rfl⟩
      simp [Act.eval] at x0 x1 ⊢
      exact ⟨x0, x1⟩
    · refine fun a' u K0 R hS hr ho h => wp_callf rfl enters_rof (vs := #[.int .u64 1]) ?_ (c7.out u) h
      simp [Act.eval]
    · refine fun a' u K0 R hS hr ho h => wp_callf rfl enters_rmul (vs := #[nu d6, nu d7]) ?_ (c8.out u) h
      have x0 := hr 2 (nu d6) 44 _ rfl rfl rfl ⟨⟨2, .data⟩, by simp, rfl, rfl⟩
      have x1 := hr 3 (nu d7) 45 _ rfl rfl rfl ⟨⟨3, .data⟩, by simp, rfl, rfl⟩
      simp [Act.eval] at x0 x1 ⊢
      exact ⟨x0, x1⟩
  intro ul hSl
  simp [actOf, List.range, List.range.loop, Act.put]
  refine wp_storer arrN.row (.tmp 8) (.tmp 46) rfl rfl rfl (hSl.s (g8, 34, (iv (fam 16 xr)).toArray) (by simp)) rfl rfl (one_nu _) ?_
  simp [Act.put]
  have bl := (hSl.s (g8, 34, (iv (fam 16 xr)).toArray) (by simp)).setRow_ (iv (fam 16 d8)).toArray
  have kl : Kept [g8] ul (ul.setRow g8 (iv (fam 16 d8)).toArray) := (Kept.refl [g8] ul).setRow (.inl (by simp)) _
  replace t := Lib.hid (hSl.again L8.out N8.out bl kl)
  clear bl kl hSl
  go_wp2_with (first
    | (with_reducible refine wpl_load_row (o := ⟨some 47, _, _, _, _, _⟩) arrN.row rfl (.tmp 8) rfl rfl (t.out.s (g8, 34, (iv (fam 16 d8)).toArray) (by simp)) rfl ?_)
    | (with_reducible refine wpl_load_row (o := ⟨some 48, _, _, _, _, _⟩) arrN.row rfl (.tmp 7) rfl rfl (t.out.s (g7, 34, (iv (fam 16 dy)).toArray) (by simp)) rfl ?_)
    | (go_at_call 49; (with_reducible refine (con.out _).mono ?_); rintro e v ⟨rfl, kk⟩; replace t := Lib.hid (t.out.kept kk); clear kk)
    | ((refine wpl_store_row (o := ⟨none, .store 39 (.tmp 4) (.tmp 49), _, _, _, _⟩) structRt rfl (.tmp 4) (.tmp 49) rfl rfl rfl (t.out.s (g4, 39, rz.c.toArray) (by simp)) (R4.size rz) (R4.size R) (R4.one R) ?_); intro v4 b4 k4; have bR := Lib.hid b4; have kR := Lib.hid k4; clear b4 k4))
  exact ret_row2 structRt rfl rfl bR.out (R4.size _) rfl ⟨rfl, t.out.k.then1 kR.out L4.out⟩
set_option maxRecDepth 100000 in
set_option maxHeartbeats 4000000 in
theorem rdec_Ee {dc : Nat → Int} (_ : Dq 70000 dc Ed.D) {X : Nat} (ho : ¬ 128 ≤ c31 X) (hg : RgC (le (X % T255) 32) true) {x : Ed.Fq} (hrt : ∀ dy, Dq 70000 dy (yOf X) → ∃ r, RtC dc dy r true ∧ Dq 70000 r x) {P : Ed.Pt} (hPx0 : P.x = x) (hPy0 : P.y = yOf X) : ∃ r, RdC dc (le X 32) r true ∧ Rr r P := by
  obtain ⟨lx, elx, nlx⟩ : ∃ l, l = le X 32 ∧ l.length = 32 := ⟨_, rfl, le_len _ _⟩
  obtain ⟨lm, elm, nlm⟩ : ∃ l, l = le (X % T255) 32 ∧ l.length = 32 := ⟨_, rfl, le_len _ _⟩
  rw [← elm] at hg
  rw [← elx]
  obtain ⟨lz, elz, nlz, uz⟩ : ∃ l : List UInt8, l = le 0 32 ∧ l.length = 32 ∧ Try.prog.built 22 [] = some (bv l).toArray := ⟨_, rfl, le_len _ _, lit_b0⟩
  obtain ⟨kc, hkc⟩ : ∃ c, c = c31 X := ⟨_, rfl⟩
  obtain ⟨kd, hkd⟩ : ∃ c, c = c31 (X % T255) := ⟨_, rfl⟩
  have gK : GetK lx kc := by rw [elx, hkc]; exact getK
  have sK : SetK lx lm ((kd : Nat) : Int) := by rw [elx, elm, hkd]; exact setK (c31_T255 X).2
  have hrem := mask_rem X
  rw [← hkc, ← hkd] at hrem
  have hge : (kc : Int) < 128 := by omega
  have c1 : RgC lm true := hg
  obtain ⟨dy, cy_, hy0⟩ := rload_d nlm
  have hy := hy0.to (load_yOf elm)
  obtain ⟨xr, crt, hx⟩ := hrt dy hy
  have hPx : x = P.x := by rw [hPx0]
  have hPy : yOf X = P.y := hPy0.symm
  obtain ⟨R, con, hR⟩ := on_r (P := P) (hx.to hPx) (hy.to hPy)
  refine ⟨R, ?_, hR⟩
  intro w
  replace c1 := Lib.hid c1
  replace cy_ := Lib.hid cy_
  replace crt := Lib.hid crt
  replace con := Lib.hid con
  replace gK := Lib.hid gK
  replace sK := Lib.hid sK
  replace nlx := Lib.hid nlx
  replace nlm := Lib.hid nlm
  replace nlz := Lib.hid nlz
  replace uz := Lib.hid uz
  clear ho hg elx elm elz hkc hkd hy hy0 hrt hx hPx hPy hPx0 hPy0 hR
  go_enter Try.func13, Try.ntmps13
  have t := Lib.hid (Pm.none w)
  go_wp2_with (first
    | ((with_reducible refine wpl_box (o := ⟨some 2, _, _, _, _, _⟩) (v := nu dc) rfl (.tmp 0) rfl rfl ?_); intro g2 w2 m2; have N2 := Lib.hid (fun p hp => m2.ne (t.out.s p hp).lt); have L2 := Lib.hid (Nat.le_trans t.out.k.size m2.le); replace t := Lib.hid ((t.out.kept m2.kept).cons (show Blk w2 g2 36 (iv (fam 16 dc)).toArray from m2.blk)); clear m2)
    | ((with_reducible refine wpl_box (o := ⟨some 3, _, _, _, _, _⟩) (v := ab lx) rfl (.tmp 1) rfl rfl ?_); intro g3 w3 m3; have N3 := Lib.hid (fun p hp => m3.ne (t.out.s p hp).lt); have L3 := Lib.hid (Nat.le_trans t.out.k.size m3.le); replace t := Lib.hid ((t.out.kept m3.kept).cons (show Blk w3 g3 22 (bv lx).toArray from m3.blk)); clear m3)
    | ((with_reducible refine wpl_new (o := ⟨some 4, _, _, _, _, _⟩) rfl rfl zeroRt ?_); intro g4 w4 m4; have N4 := Lib.hid (fun p hp => m4.ne (t.out.s p hp).lt); have L4 := Lib.hid (Nat.le_trans t.out.k.size m4.le); replace t := Lib.hid ((t.out.kept m4.kept).cons (show Blk w4 g4 39 rz.c.toArray from m4.blk)); clear m4; have b3 := Lib.hid (t.out.s (g3, 22, (bv lx).toArray) (by simp)); have q1 := gK.out _ _ _ b3.out; have q2 := b3.out.frozen 31; have KC := Lib.hid ((Kept.refl [g3] w4).setCell (p := ⟨g3, 31, none⟩) (.inl (by simp)) (.int .u8 ((kd : Nat) : Int))); have tn := Lib.hid (((show Pm w [(g3, 22, (bv lx).toArray), (g4, 39, rz.c.toArray), (g2, 36, (iv (fam 16 dc)).toArray)] w4 from t.out.sub2 (by simp)).again L3.out (by intro p hp; simp only [List.mem_cons, List.not_mem_nil, or_false] at hp; rcases hp with rfl | rfl; (exact fun e => N4.out (g3, 22, (bv lx).toArray) (by simp) e.symm); (exact N3.out (g2, 36, (iv (fam 16 dc)).toArray) (by simp))) (sK.out _ _ _ b3.out) KC.out)); clear t; have t := Lib.hid (show Pm w [(g4, 39, rz.c.toArray), (g3, 22, (bv lm).toArray), (g2, 36, (iv (fam 16 dc)).toArray)] _ from tn.out.sub2 (by simp)); clear b3 tn KC)
    | (with_reducible refine wpl_load_row (o := ⟨some 17, _, _, _, _, _⟩) arrB.row rfl (.tmp 3) rfl rfl (t.out.s (g3, 22, (bv lm).toArray) (by simp)) (bsize nlm.out) ?_)
    | (go_at_call 42; (with_reducible refine (c1.out _).mono ?_); rintro e v ⟨rfl, kk⟩; replace t := Lib.hid (t.out.kept kk); clear kk)
    | (with_reducible refine wpl_load_row (o := ⟨some 21, _, _, _, _, _⟩) arrB.row rfl (.tmp 3) rfl rfl (t.out.s (g3, 22, (bv lm).toArray) (by simp)) (bsize nlm.out) ?_)
    | (go_at_call 43; (with_reducible refine (cy_.out _).mono ?_); rintro e v ⟨rfl, kk⟩; replace t := Lib.hid (t.out.kept kk); clear kk)
    | ((with_reducible refine wpl_new (o := ⟨some 7, _, _, _, _, _⟩) rfl rfl zeroN ?_); intro g7 w7 m7; have N7 := Lib.hid (fun p hp => m7.ne (t.out.s p hp).lt); have L7 := Lib.hid (Nat.le_trans t.out.k.size m7.le); replace t := Lib.hid ((t.out.kept m7.kept).cons (show Blk w7 g7 34 (iv (fam 16 zd)).toArray from m7.blk)); clear m7)
    | ((refine wpl_store_row (o := ⟨none, .store 34 (.tmp 7) (.tmp 22), _, _, _, _⟩) arrN.row rfl (.tmp 7) (.tmp 22) rfl rfl rfl (t.out.s (g7, 34, (iv (fam 16 zd)).toArray) (by simp)) rfl rfl (one_nu _) ?_); intro v7 b7 k7; replace t := Lib.hid (t.out.again L7.out N7.out b7 k7); clear b7 k7)
    | (with_reducible refine wpl_load_row (o := ⟨some 24, _, _, _, _, _⟩) structCv rfl (.tmp 2) rfl rfl (t.out.s (g2, 36, (iv (fam 16 dc)).toArray) (by simp)) rfl ?_)
    | (with_reducible refine wpl_load_row (o := ⟨some 25, _, _, _, _, _⟩) arrN.row rfl (.tmp 7) rfl rfl (t.out.s (g7, 34, (iv (fam 16 dy)).toArray) (by simp)) rfl ?_)
    | (go_at_call 44; (with_reducible refine (crt.out _).mono ?_); rintro e v ⟨rfl, kk⟩; replace t := Lib.hid (t.out.kept kk); clear kk)
    | ((with_reducible refine wpl_new (o := ⟨some 8, _, _, _, _, _⟩) rfl rfl zeroN ?_); intro g8 w8 m8; have N8 := Lib.hid (fun p hp => m8.ne (t.out.s p hp).lt); have L8 := Lib.hid (Nat.le_trans t.out.k.size m8.le); replace t := Lib.hid ((t.out.kept m8.kept).cons (show Blk w8 g8 34 (iv (fam 16 zd)).toArray from m8.blk)); clear m8)
    | ((refine wpl_store_row (o := ⟨none, .store 34 (.tmp 8) (.tmp 27), _, _, _, _⟩) arrN.row rfl (.tmp 8) (.tmp 27) rfl rfl rfl (t.out.s (g8, 34, (iv (fam 16 zd)).toArray) (by simp)) rfl rfl (one_nu _) ?_); intro v8 b8 k8; replace t := Lib.hid (t.out.again L8.out N8.out b8 k8); clear b8 k8)
    | (with_reducible refine wpl_load_row (o := ⟨some 47, _, _, _, _, _⟩) arrN.row rfl (.tmp 8) rfl rfl (t.out.s (g8, 34, (iv (fam 16 xr)).toArray) (by simp)) rfl ?_)
    | (with_reducible refine wpl_load_row (o := ⟨some 48, _, _, _, _, _⟩) arrN.row rfl (.tmp 7) rfl rfl (t.out.s (g7, 34, (iv (fam 16 dy)).toArray) (by simp)) rfl ?_)
    | (go_at_call 49; (with_reducible refine (con.out _).mono ?_); rintro e v ⟨rfl, kk⟩; replace t := Lib.hid (t.out.kept kk); clear kk)
    | ((refine wpl_store_row (o := ⟨none, .store 39 (.tmp 4) (.tmp 49), _, _, _, _⟩) structRt rfl (.tmp 4) (.tmp 49) rfl rfl rfl (t.out.s (g4, 39, rz.c.toArray) (by simp)) (R4.size rz) (R4.size R) (R4.one R) ?_); intro v4 b4 k4; have bR := Lib.hid b4; have kR := Lib.hid k4; clear b4 k4))
  exact ret_row2 structRt rfl rfl bR.out (R4.size _) rfl ⟨rfl, t.out.k.then1 kR.out L4.out⟩
end Go.Proofs.Ytkflljjcgihaoaa
