/-
  Field: numbers of bytes: the walk.
-/
import Derived.Test.YthmpdhegodmjjaaFe23
namespace Go.Mem
open Go.RowKit
theorem exec_cell {P : Program} {u : World} {a : Act} {o : Oper} {t : TypeId} (x : Operand) (ho : o.op = .load t x) (hs : ∀ w, (isAgg t).run P w = .ok false w) {p : Addr} (hx : a.eval x = .pointer (some p)) {v : Value} (hc : u.cell? p = some v) :
    (execOp a.eval o).run P u = .ok (.value v) u := by
  have h2 : (isAgg t).run P u = .ok false u := hs u
  simp [execOp, ho, hx, Instr.loadAt, Instr.sureAddr, loadVar, h2, hc]
end Go.Mem
namespace Go.Proofs.Ythmpdhegodmjjaa
open Go.RowKit Go.Mem Go.Txt

theorem flat64 (w : World) : (isAgg 24).run Try.prog w = .ok false w := by kernel_rfl
/-- What lies in memory. -/
structure NewM (w0 : World) (g1 g2 g4 g7 : Nat) (bs : List UInt8) (X : Nat) (L : Nat → Nat) (u : World) : Prop where
  b : Blk u g1 29 (bv bs).toArray
  r : Blk u g2 27 (uv (fam 5 nought)).toArray
  wd : Blk u g4 53 (uv (fam 4 (wrd X))).toArray
  x : Blk u g7 27 (uv (fam 5 L)).toArray
  k : Kept [] w0 u
theorem NewM.kept {w0 : World} {g1 g2 g4 g7 : Nat} {bs : List UInt8} {X : Nat} {L : Nat → Nat} {u u' : World} (h : NewM w0 g1 g2 g4 g7 bs X L u) (hk : Kept [] u u') : NewM w0 g1 g2 g4 g7 bs X L u' :=
  ⟨h.b.kept hk (by simp), h.r.kept hk (by simp), h.wd.kept hk (by simp), h.x.kept hk (by simp), h.k.then0 hk⟩

set_option maxRecDepth 100000 in
set_option maxHeartbeats 4000000 in
theorem new_any (bs : List UInt8) (hl : bs.length = 32) (w : World) :
    Calls Try.prog 18 #[ab bs] w fun e w' => e = .returned (.tuple #[el (newF bs), .bool (newB bs)]) ∧ Kept [] w w' := by
  have hX := leV_lt2 bs
  rw [hl] at hX
  have hX2 := Lib.hid hX
  have hlh := Lib.hid hl
  have hbl : (bv bs).length = 32 := by simp [hl]
  have hbl2 := Lib.hid hbl
  clear hX hbl
  obtain ⟨ok, hok⟩ : ∃ b, b = newB bs := ⟨_, rfl⟩
  obtain ⟨FF, hFF⟩ : ∃ F, F = newF bs := ⟨_, rfl⟩
  rw [← hok, ← hFF]
  have R0 := Lib.hid (And.intro hok hFF)
  clear hok hFF
  go_enter Try.func18, Try.ntmps18
  go_wp2_with (first
    | ((with_reducible refine wpl_box (o := ⟨some 1, _, _, _, _, _⟩) (v := ab bs) rfl (.tmp 0) rfl rfl ?_); intro g1 w1 m1)
    | ((with_reducible refine wpl_new (o := ⟨some 2, _, _, _, _, _⟩) rfl rfl zeroEl ?_); intro g2 w2 m2)
    | ((with_reducible refine wpl_new (o := ⟨some 4, _, _, _, _, _⟩) rfl rfl zeroW ?_); intro g4 w3 m3)
    | (refine wpl_load_arr arrB rfl (.tmp 1) rfl rfl ((m1.blk.kept m2.kept (by simp)).kept m3.kept (by simp)) hbl2.out ?_))
  have B1 := Lib.hid ((m1.blk.kept m2.kept (by simp)).kept m3.kept (by simp))
  have B2 := Lib.hid (m2.blk.kept m3.kept (by simp))
  have B4 := Lib.hid (show Blk w3 g4 53 (uv (fam 4 (wrd (leV (bs.take 0))))).toArray from by rw [List.take_zero]; exact m3.blk)
  have K := Lib.hid ((m1.kept.then0 m2.kept).then0 m3.kept)
  have D := Lib.hid (show w.heap.size ≤ g2 ∧ w.heap.size ≤ g4 ∧ g1 ≠ g4 ∧ g2 ≠ g4 from ⟨Nat.le_trans m1.kept.size m2.le, Nat.le_trans (m1.kept.then0 m2.kept).size m3.le, m3.ne (m2.kept.lt m1.blk.lt), m3.ne m2.blk.lt⟩)
  clear m1 m2 m3
  go_loopg [9] 32 (fun f i wk => ∃ k : Nat, k ≤ 32 ∧ f + k = 32 ∧ i = .int .i64 k ∧ Blk wk g4 53 (uv (fam 4 (wrd (leV (bs.take k))))).toArray ∧ Kept [g4] w3 wk)
  case atStart => exact ⟨0, Nat.zero_le _, rfl, rfl, B4.out, Kept.refl _ _⟩
  case round =>
    obtain ⟨k, hk, hf, rfl, hb, hkw⟩ := hrel
    by_cases hlt : k < 32
    · have hkl : k < bs.length := by rw [hl]; exact hlt
      have hi : ∀ W, (Instr.index 29 (ab bs) (.int .i64 k)).run Try.prog W = .ok (.int .u8 ((bs[k].toNat : Nat) : Int)) W := fun W =>
        run_index_arr arrB Try.underlying5 rfl (by kernel_rfl) .i64 k hlt (by simp [bv, byteV, hkl]) W
      have hV := leV_take_lt bs k (by omega)
      obtain ⟨n1, n2, n3⟩ := wrd_new (leV (bs.take k)) bs[k].toNat k hV (UInt8.toNat_lt _)
      have hq : k / 8 < 4 := by omega
      have c1 := Blk.fget (v := fun z : Nat => Value.int .u64 (z : Int)) hb (k / 8) hq
      have hfz := hb.frozen (k / 8)
      have hor := or_new (wrd (leV (bs.take k)) (k / 8)) bs[k].toNat (8 * (k % 8)) n1 (UInt8.toNat_lt _) n2 (Nat.pow_le_pow_right (n := 2) (j := 64) (by omega) (by omega))
      rw [← n3, ← leV_take bs k hkl] at hor
      have hst2 := Lib.hid (wd_step bs k hkl hl hb)
      have hk2 := Lib.hid (hkw.setCell (p := ⟨g4, k / 8, none⟩) (.inl (by simp)) (Value.int .u64 (wrd (leV (bs.take (k + 1))) (k / 8) : Nat)))
      clear hV n1 n2 n3 hb hkw hl
      go_wp2_with fail
      go_roundg (32 - (k + 1))
      case measure => omega
      case rel => exact ⟨k + 1, by omega, by omega, by go_num, hst2.out, hk2.out⟩
    · obtain rfl : k = 32 := by omega
      rw [List.take_of_length_le (by omega)] at hb
      have B1 := Lib.hid (B1.out.kept hkw (by have := D.out.2.2.1; simpa using this))
      have B2 := Lib.hid (B2.out.kept hkw (by have := D.out.2.2.2; simpa using this))
      have K := Lib.hid (K.out.then1 hkw D.out.2.1)
      have B4 := Lib.hid hb
      clear hb hkw hlt hk hf
      have hle := le_leV bs
      rw [hl] at hle
      clear hl
      have hv := nwL_val (leV bs)
      have ha : HaC (nwL (leV bs)) (leV bs % T255 % PP) := fun W => by
        have := fhash_any (nwL (leV bs)) W (nwL_lim _)
        rwa [hv] at this
      clear hv
      have hQ : ∀ V, leV bs = V → (le (V % PP) 32 == bs) = decide (V < PP) := fun V e => by
        rw [← hle, e, le_beq2 _ _ (Nat.lt_of_lt_of_le (Nat.mod_lt _ PP_pos) (by decide +kernel)) (by rw [← e]; exact hX2.out)]
        rw [decide_eq_decide]
        have := Nat.mod_lt V PP_pos
        exact ⟨fun h => by omega, fun h => Nat.mod_eq_of_lt h⟩
      have l0 := limb0 (leV bs)
      have l1 := limb1 (leV bs)
      have l2 := limb2 (leV bs)
      have l3 := limb3 (leV bs)
      have l4 := limb4 (leV bs)
      have c0 := Blk.fget (v := fun z : Nat => Value.int .u64 (z : Int)) B4.out 0 (by omega)
      have c1 := Blk.fget (v := fun z : Nat => Value.int .u64 (z : Int)) B4.out 1 (by omega)
      have c2 := Blk.fget (v := fun z : Nat => Value.int .u64 (z : Int)) B4.out 2 (by omega)
      have c3 := Blk.fget (v := fun z : Nat => Value.int .u64 (z : Int)) B4.out 3 (by omega)
      have hw3 := (wrd_at (leV bs)).2.2.2
      have b0 := wrd_lt (leV bs) 0
      have b1 := wrd_lt (leV bs) 1
      have b2 := wrd_lt (leV bs) 2
      have b3 := wrd_lt (leV bs) 3
      have hXl := hX2.out
      obtain ⟨V, hVe⟩ : ∃ V, V = leV bs := ⟨_, rfl⟩
      have hQ := Lib.hid (hQ V hVe.symm)
      have R0 := R0.out
      have R1 := Lib.hid (show ok = decide (V < PP) ∧ FF = if decide (V < PP) = true then nwL V else nought from ⟨by rw [R0.1, hVe]; rfl, by rw [R0.2, hVe]; rfl⟩)
      clear R0
      rw [← hVe] at l0 l1 l2 l3 l4 c0 c1 c2 c3 hw3 b0 b1 b2 b3 hXl ha B4
      have hT : Hid ((wrd V 3 / 9223372036854775808 = 1 ∧ ¬ V < PP) ∨ (wrd V 3 / 9223372036854775808 = 0 ∧ V % T255 = V)) := Lib.hid (by
        clear l0 l1 l2 l3 l4 c0 c1 c2 c3 ha hQ
        rw [hw3]
        unfold PP T255
        omega)
      clear hw3 hle hXl
      replace hVe := Lib.hid hVe
      generalize nwL V = L at *
      generalize wrd V 0 = x0, wrd V 1 = x1, wrd V 2 = x2 at c0 c1 c2 l0 l1 l2 l3 b0 b1 b2
      generalize hx3 : wrd V 3 = x3 at c3 l3 l4 b3 hT
      replace hx3 := Lib.hid hx3
      go_wp2_with (first
        | (with_reducible refine wpl_build1 (o := ⟨some 59, _, _, _, _, _⟩) rfl 0 (.tmp 58) rfl rfl (built_el L) ?_)
        | ((with_reducible refine wpl_new (o := ⟨some 7, _, _, _, _, _⟩) rfl rfl zeroEl ?_); intro g7 w7 m7)
        | ((with_reducible refine wpl_store_row (o := ⟨none, .store 27 (.tmp 7) (.tmp 59), _, _, _, _⟩) structEl rfl (.tmp 7) (.tmp 59) rfl rfl rfl m7.blk rfl rfl (one_el _) ?_); intro v7 b7 k7))
      have H := Lib.hid (show NewM w g1 g2 g4 g7 bs V L v7 from ⟨(B1.out.kept m7.kept (by simp)).kept k7 (by simpa using m7.ne B1.out.lt), (B2.out.kept m7.kept (by simp)).kept k7 (by simpa using m7.ne B2.out.lt), (B4.out.kept m7.kept (by simp)).kept k7 (by simpa using m7.ne B4.out.lt), b7, (K.out.then0 m7.kept).then1 k7 (Nat.le_trans K.out.size m7.le)⟩)
      clear m7 b7 k7 B1 B2 B4 K c0 c1 c2 c3 l0 l1 l2 l3 l4 b0 b1 b2
      rcases hT.out with ⟨ht, hn⟩ | ⟨ht, hv⟩
      · obtain ⟨rfl, rfl⟩ : ok = false ∧ FF = nought := by
          have := R1.out
          rw [decide_eq_false hn] at this
          exact ⟨this.1, this.2⟩
        have ht2 : ((x3 : Nat) : Int) / 9223372036854775808 = 1 := by omega
        have ha := Lib.hid ha
        clear ht hn hT R1 hQ
        refine Txt.wp_textG [1, 5, 7, 8] (NewM w g1 g2 g4 g7 bs V L) [[_, _, _, _, _, _, _], [_, _, _]] (by kernel_rfl) (by kernel_rfl) rfl (H.out.kept (Kept.refl [] _).drew) (Txt.segs_cons ?_)
        have H := Lib.hid (H.out.kept (Kept.refl [] v7).drew)
        have cc := Blk.fget (v := fun z : Nat => Value.int .u64 (z : Int)) H.out.wd 3 (by omega)
        rw [hx3.out] at cc
        go_wp2_with (first
          | (with_reducible refine wpl_load_row (o := ⟨some 65, _, _, _, _, _⟩) structEl rfl (.tmp 7) rfl rfl H.out.x rfl ?_)
          | (go_at_call 14; refine (ha.out _).mono ?_; rintro e u6 ⟨rfl, kk⟩; have H := Lib.hid (H.out.kept kk); clear kk))
        refine ⟨rfl, H.out, Txt.segs_cons ?_⟩
        go_wp2_with (refine wpl_load_arr arrB rfl (.tmp 1) rfl rfl H.out.b hbl2.out ?_)
        refine ⟨rfl, H.out, Txt.segs_nil ⟨⟨by kernel_rfl, ?_⟩, ?_⟩⟩
        · intro j hj o ho hw
          have hj2 : j = 1 ∨ j = 5 ∨ j = 7 ∨ j = 8 := by simpa using hj
          rcases hj2 with rfl | rfl | rfl | rfl <;> cases ho
          · exact ⟨61, rfl, fun u hu => exec_cell (.tmp 60) rfl flat64 rfl (by have := Blk.fget (v := fun z : Nat => Value.int .u64 (z : Int)) hu.wd 3 (by omega); rw [hx3.out] at this; exact this)⟩
          · exact absurd (hw : Region.wanted _ _ = true) (by rw [show Region.wanted _ _ = false from by kernel_rfl]; simp)
          · exact absurd (hw : Region.wanted _ _ = true) (by rw [show Region.wanted _ _ = false from by kernel_rfl]; simp)
          · exact absurd (hw : Region.wanted _ _ = true) (by rw [show Region.wanted _ _ = false from by kernel_rfl]; simp)
        go_wp2_with (first
          | (with_reducible refine wpl_build0 (o := ⟨some 70, _, _, _, _, _⟩) rfl rfl build_el ?_)
          | ((with_reducible refine wpl_store_row (o := ⟨none, .store 27 (.tmp 2) (.tmp 70), _, _, _, _⟩) structEl rfl (.tmp 2) (.tmp 70) rfl rfl rfl H.out.r rfl rfl (one_el _) ?_); intro v2 b2 k2))
        exact ret_row2 structEl rfl rfl b2 rfl rfl ⟨rfl, H.out.k.then1 k2 D.out.1⟩
      · have ht2 : ((x3 : Nat) : Int) / 9223372036854775808 = 0 := by omega
        rw [hv] at ha
        have ha := Lib.hid ha
        by_cases hp : V < PP
        · obtain ⟨rfl, rfl⟩ : ok = true ∧ FF = L := by
            have := R1.out
            rw [decide_eq_true hp] at this
            exact ⟨this.1, this.2⟩
          have hq := hQ.out
          rw [decide_eq_true hp] at hq
          have eqr := fun W => run_eqIn_ab arrB Try.underlying5 (by kernel_rfl) (le (V % PP) 32) bs (le_len _ _) hlh.out W
          rw [hq] at eqr
          replace hq := Lib.hid hq
          clear ht hv hp hT R1 hQ
          refine Txt.wp_textG [1, 5, 7, 8] (NewM w g1 g2 g4 g7 bs V FF) [[_, _, _, _, _, _, _], [_, _, _]] (by kernel_rfl) (by kernel_rfl) rfl (H.out.kept (Kept.refl [] _).drew) (Txt.segs_cons ?_)
          have H := Lib.hid (H.out.kept (Kept.refl [] v7).drew)
          have cc := Blk.fget (v := fun z : Nat => Value.int .u64 (z : Int)) H.out.wd 3 (by omega)
          rw [hx3.out] at cc
          go_wp2_with (first
            | (with_reducible refine wpl_load_row (o := ⟨some 65, _, _, _, _, _⟩) structEl rfl (.tmp 7) rfl rfl H.out.x rfl ?_)
            | (go_at_call 14; refine (ha.out _).mono ?_; rintro e u6 ⟨rfl, kk⟩; have H := Lib.hid (H.out.kept kk); clear kk))
          refine ⟨rfl, H.out, Txt.segs_cons ?_⟩
          go_wp2_with (refine wpl_load_arr arrB rfl (.tmp 1) rfl rfl H.out.b hbl2.out ?_)
          refine ⟨rfl, H.out, Txt.segs_nil ⟨⟨by kernel_rfl, ?_⟩, ?_⟩⟩
          · intro j hj o ho hw
            have hj2 : j = 1 ∨ j = 5 ∨ j = 7 ∨ j = 8 := by simpa using hj
            rcases hj2 with rfl | rfl | rfl | rfl <;> cases ho
            · exact ⟨61, rfl, fun u hu => exec_cell (.tmp 60) rfl flat64 rfl (by have := Blk.fget (v := fun z : Nat => Value.int .u64 (z : Int)) hu.wd 3 (by omega); rw [hx3.out] at this; exact this)⟩
            · exact ⟨65, rfl, fun u hu => exec_load structEl (.tmp 7) rfl rfl hu.x rfl⟩
            · exact ⟨67, rfl, fun u hu => exec_load arrB.row (.tmp 1) rfl rfl hu.b hbl2.out⟩
            · exact ⟨68, rfl, fun u _ => (exec_neq_ab arrB Try.underlying5 (by kernel_rfl) (by kernel_rfl) (.tmp 66) (.tmp 67) rfl (xs := le (V % PP) 32) (ys := bs) rfl rfl (le_len _ _) hlh.out).trans (by rw [hq.out]; rfl)⟩
          go_wp2_with (first
            | (with_reducible refine wpl_load_row (o := ⟨some 71, _, _, _, _, _⟩) structEl rfl (.tmp 7) rfl rfl H.out.x rfl ?_)
            | ((with_reducible refine wpl_store_row (o := ⟨none, .store 27 (.tmp 2) (.tmp 71), _, _, _, _⟩) structEl rfl (.tmp 2) (.tmp 71) rfl rfl rfl H.out.r rfl rfl (one_el _) ?_); intro v2 b2 k2))
          exact ret_row2 structEl rfl rfl b2 rfl rfl ⟨rfl, H.out.k.then1 k2 D.out.1⟩
        · obtain ⟨rfl, rfl⟩ : ok = false ∧ FF = nought := by
            have := R1.out
            rw [decide_eq_false hp] at this
            exact ⟨this.1, this.2⟩
          have hq := hQ.out
          rw [decide_eq_false hp] at hq
          have eqr := fun W => run_eqIn_ab arrB Try.underlying5 (by kernel_rfl) (le (V % PP) 32) bs (le_len _ _) hlh.out W
          rw [hq] at eqr
          replace hq := Lib.hid hq
          clear ht hv hp hT R1 hQ
          refine Txt.wp_textG [1, 5, 7, 8] (NewM w g1 g2 g4 g7 bs V L) [[_, _, _, _, _, _, _], [_, _, _]] (by kernel_rfl) (by kernel_rfl) rfl (H.out.kept (Kept.refl [] _).drew) (Txt.segs_cons ?_)
          have H := Lib.hid (H.out.kept (Kept.refl [] v7).drew)
          have cc := Blk.fget (v := fun z : Nat => Value.int .u64 (z : Int)) H.out.wd 3 (by omega)
          rw [hx3.out] at cc
          go_wp2_with (first
            | (with_reducible refine wpl_load_row (o := ⟨some 65, _, _, _, _, _⟩) structEl rfl (.tmp 7) rfl rfl H.out.x rfl ?_)
            | (go_at_call 14; refine (ha.out _).mono ?_; rintro e u6 ⟨rfl, kk⟩; have H := Lib.hid (H.out.kept kk); clear kk))
          refine ⟨rfl, H.out, Txt.segs_cons ?_⟩
          go_wp2_with (refine wpl_load_arr arrB rfl (.tmp 1) rfl rfl H.out.b hbl2.out ?_)
          refine ⟨rfl, H.out, Txt.segs_nil ⟨⟨by kernel_rfl, ?_⟩, ?_⟩⟩
          · intro j hj o ho hw
            have hj2 : j = 1 ∨ j = 5 ∨ j = 7 ∨ j = 8 := by simpa using hj
            rcases hj2 with rfl | rfl | rfl | rfl <;> cases ho
            · exact ⟨61, rfl, fun u hu => exec_cell (.tmp 60) rfl flat64 rfl (by have := Blk.fget (v := fun z : Nat => Value.int .u64 (z : Int)) hu.wd 3 (by omega); rw [hx3.out] at this; exact this)⟩
            · exact ⟨65, rfl, fun u hu => exec_load structEl (.tmp 7) rfl rfl hu.x rfl⟩
            · exact ⟨67, rfl, fun u hu => exec_load arrB.row (.tmp 1) rfl rfl hu.b hbl2.out⟩
            · exact ⟨68, rfl, fun u _ => (exec_neq_ab arrB Try.underlying5 (by kernel_rfl) (by kernel_rfl) (.tmp 66) (.tmp 67) rfl (xs := le (V % PP) 32) (ys := bs) rfl rfl (le_len _ _) hlh.out).trans (by rw [hq.out]; rfl)⟩
          go_wp2_with (first
            | (with_reducible refine wpl_build0 (o := ⟨some 70, _, _, _, _, _⟩) rfl rfl build_el ?_)
            | ((with_reducible refine wpl_store_row (o := ⟨none, .store 27 (.tmp 2) (.tmp 70), _, _, _, _⟩) structEl rfl (.tmp 2) (.tmp 70) rfl rfl rfl H.out.r rfl rfl (one_el _) ?_); intro v2 b2 k2))
          exact ret_row2 structEl rfl rfl b2 rfl rfl ⟨rfl, H.out.k.then1 k2 D.out.1⟩
end Go.Proofs.Ythmpdhegodmjjaa
