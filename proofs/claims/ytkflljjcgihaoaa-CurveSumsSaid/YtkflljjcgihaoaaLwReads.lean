/-
  The curve's laws: which bytes are points (CurveReads).
-/
import Derived.Test.YtkflljjcgihaoaaRr7
namespace Go.Proofs.Ytkflljjcgihaoaa
open Go.RowKit Go.Mem Go.Txt

theorem rb_1 {q : R4} {P : Ed.Pt} {l : List UInt8} (hl : l = le 1 32) (h : Rr q P) (e : P = Ed.Pt.zero) : BytC q l := by
  rw [hl, ← enc_zero]
  subst e
  exact rbytes h
theorem dec_no {x : List UInt8} (nx : x.length = 32) (h : ∀ P, enc P ≠ leV x) : DsC x pz 50 := by
  have hk : dcOk (leV x) = false := by
    cases hc : dcOk (leV x) with
    | false => rfl
    | true =>
      obtain ⟨P, _, e⟩ := dec_sound (leV_T nx) hc
      exact absurd e (h P)
  have := dec_n hk
  unfold DeC at this
  rwa [le_of nx] at this
set_option maxRecDepth 100000 in
set_option maxHeartbeats 4000000 in
theorem reads_ok (x : List UInt8) (w : World) (nx : x.length = 32) {P : Ed.Pt} (hx : x = le (enc P) 32) (hdec : ∀ dc, Dq 70000 dc Ed.D → ∃ r, RdC dc x r true ∧ Rr r P) : Calls Try.prog 3 #[ab x] w fun e w' => e = .returned (.bool true) ∧ Kept [] w w' := by
  have cf := Lib.hid first_any
  obtain ⟨sB, hsB⟩ : ∃ s : Bool, s = decide (enc (Ed.Pt.mul 8 P) = 1) := ⟨_, rfl⟩
  obtain ⟨r1, c1, h1⟩ := dec_s hx (P := P) rfl
  obtain ⟨dc, cnw, hD⟩ := new_r
  obtain ⟨qd, cqd, hqd⟩ := hdec dc hD
  have c3 : HsC r1 x := hash_l hx h1 rfl
  have c4 : SaC r1 sB := by rw [hsB]; exact small_e h1
  have c5 : RsmC dc qd sB := by rw [hsB]; exact rsmall_r hD hqd
  have Q38 : (x == x) = true := beq_self_eq_true _
  have q38 := eql_run Q38 nx nx
  replace Q38 := Lib.hid Q38
  replace c1 := Lib.hid c1
  replace c3 := Lib.hid c3
  replace c4 := Lib.hid c4
  replace c5 := Lib.hid c5
  replace cnw := Lib.hid cnw
  replace cqd := Lib.hid cqd
  replace nx := Lib.hid nx
  clear h1 hD hqd hx hsB hdec
  go_enter Try.func3, Try.ntmps3
  have t := Lib.hid (Pm.none w)
  go_wp2_with (first
    | ((with_reducible refine wpl_box (o := ⟨some 1, _, _, _, _, _⟩) (v := ab x) rfl (.tmp 0) rfl rfl ?_); intro g1 w1 m1; replace t := Lib.hid ((t.out.kept m1.kept).cons (show Blk w1 g1 22 (bv x).toArray from m1.blk)); clear m1)
    | (go_at_call 10; (with_reducible refine (cf.out _).mono ?_); rintro e v ⟨rfl, kk⟩; replace t := Lib.hid (t.out.kept kk); clear kk)
    | (with_reducible refine wpl_load_row (o := ⟨some 11, _, _, _, _, _⟩) arrB.row rfl (.tmp 1) rfl rfl (t.out.s (g1, 22, (bv x).toArray) (by simp)) (bsize (nx).out) ?_)
    | (go_at_call 11; (with_reducible refine (c1.out _).mono ?_); rintro e v ⟨rfl, kk⟩; replace t := Lib.hid (t.out.kept kk); clear kk)
    | ((with_reducible refine wpl_new (o := ⟨some 3, _, _, _, _, _⟩) rfl rfl zeroP4 ?_); intro g3 w3 m3)
    | ((refine wpl_store_row (o := ⟨none, .store 29 (.tmp 3) (.tmp 13), _, _, _, _⟩) structPt rfl (.tmp 3) (.tmp 13) rfl rfl rfl m3.blk pz.size (P4.size _) (P4.one _) ?_); intro v3 b3 k3; replace t := Lib.hid (t.out.put m3 b3 k3); clear m3 b3 k3)
    | (go_at_call 12; (with_reducible refine (cnw.out _).mono ?_); rintro e v ⟨rfl, kk⟩; replace t := Lib.hid (t.out.kept kk); clear kk)
    | ((with_reducible refine wpl_new (o := ⟨some 5, _, _, _, _, _⟩) rfl rfl zeroCv ?_); intro g5 w5 m5)
    | ((refine wpl_store_row (o := ⟨none, .store 36 (.tmp 5) (.tmp 15), _, _, _, _⟩) structCv rfl (.tmp 5) (.tmp 15) rfl rfl rfl m5.blk rfl rfl (one_nu _) ?_); intro v5 b5 k5; replace t := Lib.hid (t.out.put m5 b5 k5); clear m5 b5 k5)
    | (with_reducible refine wpl_load_row (o := ⟨some 17, _, _, _, _, _⟩) structCv rfl (.tmp 5) rfl rfl (t.out.s (g5, 36, (iv (fam 16 dc)).toArray) (by simp)) rfl ?_)
    | (with_reducible refine wpl_load_row (o := ⟨some 18, _, _, _, _, _⟩) arrB.row rfl (.tmp 1) rfl rfl (t.out.s (g1, 22, (bv x).toArray) (by simp)) (bsize (nx).out) ?_)
    | (go_at_call 13; (with_reducible refine (cqd.out _).mono ?_); rintro e v ⟨rfl, kk⟩; replace t := Lib.hid (t.out.kept kk); clear kk)
    | ((with_reducible refine wpl_new (o := ⟨some 6, _, _, _, _, _⟩) rfl rfl zeroRt ?_); intro g6 w6 m6)
    | ((refine wpl_store_row (o := ⟨none, .store 39 (.tmp 6) (.tmp 20), _, _, _, _⟩) structRt rfl (.tmp 6) (.tmp 20) rfl rfl rfl m6.blk (R4.size rz) (R4.size qd) (R4.one qd) ?_); intro v6 b6 k6; replace t := Lib.hid (t.out.put m6 b6 k6); clear m6 b6 k6))
  refine Txt.wp_textG [3, 5, 6, 9, 11, 12] (Pm w [(g6, 39, qd.c.toArray), (g5, 36, (iv (fam 16 dc)).toArray), (g3, 29, r1.c.toArray), (g1, 22, (bv x).toArray)]) [[_, _, _, _, _], [_, _, _, _, _, _], [_, _, _], [_, _, _]] (by kernel_rfl) (by kernel_rfl) rfl t.out.drew (Txt.segs_cons ?_)
  replace t := Lib.hid t.out.drew
  go_wp2_with (first
    | (with_reducible refine wpl_load_row (o := ⟨some 35, _, _, _, _, _⟩) structPt rfl (.tmp 3) rfl rfl (t.out.s (g3, 29, r1.c.toArray) (by simp)) (P4.size _) ?_)
    | (go_at_call 14; (with_reducible refine (c3.out _).mono ?_); rintro e v ⟨rfl, kk⟩; replace t := Lib.hid (t.out.kept kk); clear kk))
  refine ⟨rfl, t.out, Txt.segs_cons ?_⟩
  go_wp2_with (first
    | (with_reducible refine wpl_load_row (o := ⟨some 37, _, _, _, _, _⟩) arrB.row rfl (.tmp 1) rfl rfl (t.out.s (g1, 22, (bv x).toArray) (by simp)) (bsize (nx).out) ?_)
    | (with_reducible refine wpl_load_row (o := ⟨some 41, _, _, _, _, _⟩) structPt rfl (.tmp 3) rfl rfl (t.out.s (g3, 29, r1.c.toArray) (by simp)) (P4.size _) ?_)
    | (go_at_call 15; (with_reducible refine (c4.out _).mono ?_); rintro e v ⟨rfl, kk⟩; replace t := Lib.hid (t.out.kept kk); clear kk))
  refine ⟨rfl, t.out, Txt.segs_cons ?_⟩
  go_wp2_with (first
    | (with_reducible refine wpl_load_row (o := ⟨some 43, _, _, _, _, _⟩) structCv rfl (.tmp 5) rfl rfl (t.out.s (g5, 36, (iv (fam 16 dc)).toArray) (by simp)) rfl ?_)
    | (with_reducible refine wpl_load_row (o := ⟨some 44, _, _, _, _, _⟩) structRt rfl (.tmp 6) rfl rfl (t.out.s (g6, 39, qd.c.toArray) (by simp)) (R4.size qd) ?_)
    | (go_at_call 16; (with_reducible refine (c5.out _).mono ?_); rintro e v ⟨rfl, kk⟩; replace t := Lib.hid (t.out.kept kk); clear kk))
  refine ⟨rfl, t.out, Txt.segs_cons ?_⟩
  go_wp2_with fail
  refine ⟨rfl, t.out, Txt.segs_nil ⟨⟨by kernel_rfl, ?_⟩, ?_⟩⟩
  · intro j hj o ho hw
    have hj2 : j = 3 ∨ j = 5 ∨ j = 6 ∨ j = 9 ∨ j = 11 ∨ j = 12 := by simpa using hj
    rcases hj2 with rfl | rfl | rfl | rfl | rfl | rfl <;> cases ho
    · exact ⟨35, rfl, fun u hu => exec_load structPt (.tmp 3) rfl rfl (hu.s (g3, 29, r1.c.toArray) (by simp)) (P4.size _)⟩
    · exact ⟨37, rfl, fun u hu => exec_load arrB.row (.tmp 1) rfl rfl (hu.s (g1, 22, (bv x).toArray) (by simp)) (bsize (nx).out)⟩
    · exact ⟨38, rfl, fun u _ => exec_eqb (.tmp 36) (.tmp 37) rfl rfl rfl Q38.out nx.out nx.out⟩
    · exact ⟨41, rfl, fun u hu => exec_load structPt (.tmp 3) rfl rfl (hu.s (g3, 29, r1.c.toArray) (by simp)) (P4.size _)⟩
    · exact ⟨43, rfl, fun u hu => exec_load structCv (.tmp 5) rfl rfl (hu.s (g5, 36, (iv (fam 16 dc)).toArray) (by simp)) rfl⟩
    · exact ⟨44, rfl, fun u hu => exec_load structRt (.tmp 6) rfl rfl (hu.s (g6, 39, qd.c.toArray) (by simp)) (R4.size qd)⟩
  go_wp2_with fail
  go_ret
  exact ⟨rfl, t.out.k⟩
set_option maxRecDepth 100000 in
set_option maxHeartbeats 4000000 in
theorem reads_no (x : List UInt8) (w : World) (nx : x.length = 32) (hno : ∀ P, enc P ≠ leV x) (hdec : ∀ dc, Dq 70000 dc Ed.D → RdC dc x rz false) : Calls Try.prog 3 #[ab x] w fun e w' => e = .returned (.bool true) ∧ Kept [] w w' := by
  have cf := Lib.hid first_any
  obtain ⟨l1, hl1, nl1, vl1, u1⟩ := lit_1
  have c1 := dec_no nx hno
  obtain ⟨dc, cnw, hD⟩ := new_r
  have cqd := hdec dc hD
  have c3 : HsC pz l1 := hash_1 hl1 rq_z rfl
  have Q30 : (l1 == l1) = true := beq_self_eq_true _
  have q30 := eql_run Q30 nl1 nl1
  replace Q30 := Lib.hid Q30
  replace c1 := Lib.hid c1
  replace c3 := Lib.hid c3
  replace cnw := Lib.hid cnw
  replace cqd := Lib.hid cqd
  replace nx := Lib.hid nx
  replace nl1 := Lib.hid nl1
  replace u1 := Lib.hid u1
  clear hl1 vl1 hD hno hdec
  go_enter Try.func3, Try.ntmps3
  have t := Lib.hid (Pm.none w)
  go_wp2_with (first
    | ((with_reducible refine wpl_box (o := ⟨some 1, _, _, _, _, _⟩) (v := ab x) rfl (.tmp 0) rfl rfl ?_); intro g1 w1 m1; replace t := Lib.hid ((t.out.kept m1.kept).cons (show Blk w1 g1 22 (bv x).toArray from m1.blk)); clear m1)
    | (go_at_call 10; (with_reducible refine (cf.out _).mono ?_); rintro e v ⟨rfl, kk⟩; replace t := Lib.hid (t.out.kept kk); clear kk)
    | (with_reducible refine wpl_load_row (o := ⟨some 11, _, _, _, _, _⟩) arrB.row rfl (.tmp 1) rfl rfl (t.out.s (g1, 22, (bv x).toArray) (by simp)) (bsize (nx).out) ?_)
    | (go_at_call 11; (with_reducible refine (c1.out _).mono ?_); rintro e v ⟨rfl, kk⟩; replace t := Lib.hid (t.out.kept kk); clear kk)
    | ((with_reducible refine wpl_new (o := ⟨some 3, _, _, _, _, _⟩) rfl rfl zeroP4 ?_); intro g3 w3 m3)
    | ((refine wpl_store_row (o := ⟨none, .store 29 (.tmp 3) (.tmp 13), _, _, _, _⟩) structPt rfl (.tmp 3) (.tmp 13) rfl rfl rfl m3.blk pz.size (P4.size _) (P4.one _) ?_); intro v3 b3 k3; replace t := Lib.hid (t.out.put m3 b3 k3); clear m3 b3 k3)
    | (go_at_call 12; (with_reducible refine (cnw.out _).mono ?_); rintro e v ⟨rfl, kk⟩; replace t := Lib.hid (t.out.kept kk); clear kk)
    | ((with_reducible refine wpl_new (o := ⟨some 5, _, _, _, _, _⟩) rfl rfl zeroCv ?_); intro g5 w5 m5)
    | ((refine wpl_store_row (o := ⟨none, .store 36 (.tmp 5) (.tmp 15), _, _, _, _⟩) structCv rfl (.tmp 5) (.tmp 15) rfl rfl rfl m5.blk rfl rfl (one_nu _) ?_); intro v5 b5 k5; replace t := Lib.hid (t.out.put m5 b5 k5); clear m5 b5 k5)
    | (with_reducible refine wpl_load_row (o := ⟨some 17, _, _, _, _, _⟩) structCv rfl (.tmp 5) rfl rfl (t.out.s (g5, 36, (iv (fam 16 dc)).toArray) (by simp)) rfl ?_)
    | (with_reducible refine wpl_load_row (o := ⟨some 18, _, _, _, _, _⟩) arrB.row rfl (.tmp 1) rfl rfl (t.out.s (g1, 22, (bv x).toArray) (by simp)) (bsize (nx).out) ?_)
    | (go_at_call 13; (with_reducible refine (cqd.out _).mono ?_); rintro e v ⟨rfl, kk⟩; replace t := Lib.hid (t.out.kept kk); clear kk)
    | ((with_reducible refine wpl_new (o := ⟨some 6, _, _, _, _, _⟩) rfl rfl zeroRt ?_); intro g6 w6 m6)
    | ((refine wpl_store_row (o := ⟨none, .store 39 (.tmp 6) (.tmp 20), _, _, _, _⟩) structRt rfl (.tmp 6) (.tmp 20) rfl rfl rfl m6.blk (R4.size rz) (R4.size rz) (R4.one rz) ?_); intro v6 b6 k6; replace t := Lib.hid (t.out.put m6 b6 k6); clear m6 b6 k6)
    | (with_reducible refine wpl_load_row (o := ⟨some 27, _, _, _, _, _⟩) structPt rfl (.tmp 3) rfl rfl (t.out.s (g3, 29, pz.c.toArray) (by simp)) (P4.size _) ?_)
    | (go_at_call 14; (with_reducible refine (c3.out _).mono ?_); rintro e v ⟨rfl, kk⟩; replace t := Lib.hid (t.out.kept kk); clear kk)
    | (refine wpl_build1 (o := ⟨some 29, _, _, _, _, _⟩) rfl 0 (.const (.int .u8 1)) rfl rfl u1.out ?_))
  go_ret
  exact ⟨rfl, t.out.k⟩
theorem reads_walk (x : List UInt8) (w : World) (nx : x.length = 32) : Calls Try.prog 3 #[ab x] w fun e w' => e = .returned (.bool true) ∧ Kept [] w w' := by
  have hle := le_of nx
  by_cases hP : ∃ P, enc P = leV x
  · obtain ⟨P, hP⟩ := hP
    refine reads_ok x w nx (P := P) (by rw [hP, hle]) fun dc hdc => ?_
    rcases rdec_r hdc (leV_T nx) with ⟨Q, r, e, c, hr⟩ | ⟨_, hn⟩
    · rw [hle] at c
      rw [enc_inj (e.trans hP.symm)] at hr
      exact ⟨r, c, hr⟩
    · exact absurd hP (hn P)
  · have hno : ∀ P, enc P ≠ leV x := fun P e => hP ⟨P, e⟩
    refine reads_no x w nx hno fun dc hdc => ?_
    rcases rdec_r hdc (leV_T nx) with ⟨Q, r, e, c, hr⟩ | ⟨c, _⟩
    · exact absurd e (hno Q)
    · rwa [hle] at c
end Go.Proofs.Ytkflljjcgihaoaa
