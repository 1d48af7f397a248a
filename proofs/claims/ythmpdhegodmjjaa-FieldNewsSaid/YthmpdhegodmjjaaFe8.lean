/-
  Field: sums of products, gathered: the walk.
-/
import Derived.Test.YthmpdhegodmjjaaFe9
import Derived.Test.YthmpdhegodmjjaaFloat
import Derived.Test.YthmpdhegodmjjaaText5
namespace Go.Proofs.Ythmpdhegodmjjaa
open Go.RowKit Go.Mem

/-- What lies in memory. -/
structure Gat (w0 : World) (g5 g6 g7 g8 g9 g10 x0 x1 x2 x3 x4 : Nat) (u : World) : Prop where
  t0 : Blk u g5 55 (uv (prs x0)).toArray
  t1 : Blk u g6 55 (uv (prs x1)).toArray
  t2 : Blk u g7 55 (uv (prs x2)).toArray
  t3 : Blk u g8 55 (uv (prs x3)).toArray
  t4 : Blk u g9 55 (uv (prs x4)).toArray
  r : Blk u g10 27 (uv (fam 5 nought)).toArray
  k : Kept [] w0 u
theorem Gat.kept {w0 : World} {g5 g6 g7 g8 g9 g10 x0 x1 x2 x3 x4 : Nat} {u u' : World} (h : Gat w0 g5 g6 g7 g8 g9 g10 x0 x1 x2 x3 x4 u) (hk : Kept [] u u') : Gat w0 g5 g6 g7 g8 g9 g10 x0 x1 x2 x3 x4 u' :=
  ⟨h.t0.kept hk (by simp), h.t1.kept hk (by simp), h.t2.kept hk (by simp), h.t3.kept hk (by simp), h.t4.kept hk (by simp), h.r.kept hk (by simp), h.k.then0 hk⟩

set_option maxRecDepth 100000 in
set_option maxHeartbeats 1600000 in
theorem gathered_any (t : Nat → Nat) (w : World) (ht : Fit t) :
    Calls Try.prog 34 #[pr (t 0), pr (t 1), pr (t 2), pr (t 3), pr (t 4)] w fun e w' => e = .returned (el (carL (gaL t))) ∧ Kept [] w w' := by
  have hcar := Lib.hid (fun W => carried_any (gaL t) W ht.word)
  have l0 : ∀ i, i < 4 → t i < 41538374868278621028243970633760768 := fun i hi => by have := ht.lo i hi; omega
  have b0 := l0 0 (by omega); have b1 := l0 1 (by omega); have b2 := l0 2 (by omega); have b3 := l0 3 (by omega)
  have b4 : t 4 < 41538374868278621028243970633760768 := by have := ht.top; omega
  obtain ⟨R, hR⟩ : ∃ R, R = gaL t := ⟨_, rfl⟩
  rw [← hR] at hcar ⊢
  have q0 : lo51 (t 0) < 2251799813685248 ∧ lo51 (t 1) < 2251799813685248 ∧ lo51 (t 2) < 2251799813685248 ∧ lo51 (t 3) < 2251799813685248 ∧ lo51 (t 4) < 2251799813685248 := ⟨Nat.mod_lt _ (by decide), Nat.mod_lt _ (by decide), Nat.mod_lt _ (by decide), Nat.mod_lt _ (by decide), Nat.mod_lt _ (by decide)⟩
  have q1 : up51 (t 0) < 1152921504606846976 ∧ up51 (t 1) < 1152921504606846976 ∧ up51 (t 2) < 1152921504606846976 ∧ up51 (t 3) < 1152921504606846976 ∧ up51 (t 4) < 72057594037927936 := by
    have := ht.lo 0 (by omega); have := ht.lo 1 (by omega); have := ht.lo 2 (by omega); have := ht.lo 3 (by omega); have := ht.top
    unfold up51; omega
  have s0 : ((lo51 (t 0) : Nat) : Int) + 19 * ((up51 (t 4) : Nat) : Int) = ((R 0 : Nat) : Int) := by rw [hR]; show _ = ((lo51 (t 0) + 19 * up51 (t 4) : Nat) : Int); omega
  have s1 : ((lo51 (t 1) : Nat) : Int) + ((up51 (t 0) : Nat) : Int) = ((R 1 : Nat) : Int) := by rw [hR]; show _ = ((lo51 (t 1) + up51 (t 0) : Nat) : Int); omega
  have s2 : ((lo51 (t 2) : Nat) : Int) + ((up51 (t 1) : Nat) : Int) = ((R 2 : Nat) : Int) := by rw [hR]; show _ = ((lo51 (t 2) + up51 (t 1) : Nat) : Int); omega
  have s3 : ((lo51 (t 3) : Nat) : Int) + ((up51 (t 2) : Nat) : Int) = ((R 3 : Nat) : Int) := by rw [hR]; show _ = ((lo51 (t 3) + up51 (t 2) : Nat) : Int); omega
  have s4 : ((lo51 (t 4) : Nat) : Int) + ((up51 (t 3) : Nat) : Int) = ((R 4 : Nat) : Int) := by rw [hR]; show _ = ((lo51 (t 4) + up51 (t 3) : Nat) : Int); omega
  clear ht l0 hR
  obtain ⟨x0, hx0⟩ : ∃ x, x = t 0 := ⟨_, rfl⟩
  obtain ⟨x1, hx1⟩ : ∃ x, x = t 1 := ⟨_, rfl⟩
  obtain ⟨x2, hx2⟩ : ∃ x, x = t 2 := ⟨_, rfl⟩
  obtain ⟨x3, hx3⟩ : ∃ x, x = t 3 := ⟨_, rfl⟩
  obtain ⟨x4, hx4⟩ : ∃ x, x = t 4 := ⟨_, rfl⟩
  rw [← hx0] at b0 q0 q1 s0 s1 ⊢
  rw [← hx1] at b1 q0 q1 s1 s2 ⊢
  rw [← hx2] at b2 q0 q1 s2 s3 ⊢
  rw [← hx3] at b3 q0 q1 s3 s4 ⊢
  rw [← hx4] at b4 q0 q1 s4 s0 ⊢
  have o0 := Lib.hid (over_any x0 b0)
  have o1 := Lib.hid (over_any x1 b1)
  have o2 := Lib.hid (over_any x2 b2)
  have o3 := Lib.hid (over_any x3 b3)
  have o4 := Lib.hid (over_any x4 b4)
  clear b0 b1 b2 b3 b4
  have S0 := Lib.hid (And.intro s0 (And.intro s1 (And.intro s2 (And.intro s3 s4))))
  have Q0 := Lib.hid (And.intro q0 q1)
  clear hx0 hx1 hx2 hx3 hx4 s0 s1 s2 s3 s4 q0 q1
  go_enter Try.func34, Try.ntmps34
  go_wp2_with (first
    | ((with_reducible refine wpl_box (o := ⟨some 5, _, _, _, _, _⟩) (v := pr x0) rfl (.tmp 0) rfl rfl ?_); intro g5 w1 m1)
    | ((with_reducible refine wpl_box (o := ⟨some 6, _, _, _, _, _⟩) (v := pr x1) rfl (.tmp 1) rfl rfl ?_); intro g6 w2 m2)
    | ((with_reducible refine wpl_box (o := ⟨some 7, _, _, _, _, _⟩) (v := pr x2) rfl (.tmp 2) rfl rfl ?_); intro g7 w3 m3)
    | ((with_reducible refine wpl_box (o := ⟨some 8, _, _, _, _, _⟩) (v := pr x3) rfl (.tmp 3) rfl rfl ?_); intro g8 w4 m4)
    | ((with_reducible refine wpl_box (o := ⟨some 9, _, _, _, _, _⟩) (v := pr x4) rfl (.tmp 4) rfl rfl ?_); intro g9 w5 m5)
    | ((with_reducible refine wpl_new (o := ⟨some 10, _, _, _, _, _⟩) rfl rfl zeroEl ?_); intro g10 w6 m6))
  have k56 := m5.kept.then0 m6.kept
  have k46 := m4.kept.then0 k56
  have k36 := m3.kept.then0 k46
  have k26 := m2.kept.then0 k36
  have H := Lib.hid (show Gat w g5 g6 g7 g8 g9 g10 x0 x1 x2 x3 x4 w6 from ⟨m1.blk.kept k26 (by simp), m2.blk.kept k36 (by simp), m3.blk.kept k46 (by simp), m4.blk.kept k56 (by simp), m5.blk.kept m6.kept (by simp), m6.blk, m1.kept.then0 k26⟩)
  have l10 := Lib.hid (show w.heap.size ≤ g10 from Nat.le_trans ((((m1.kept.then0 m2.kept).then0 m3.kept).then0 m4.kept).then0 m5.kept).size m6.le)
  clear m1 m2 m3 m4 m5 m6 k56 k46 k36 k26
  refine Txt.wp_textG [0, 2, 4, 6, 8] (Gat w g5 g6 g7 g8 g9 g10 x0 x1 x2 x3 x4) [[_, _], [_, _], [_, _], [_, _], [_, _], [_, _, _, _, _]] (by kernel_rfl) (by kernel_rfl) rfl (H.out.kept (Kept.refl [] _).drew) (Txt.segs_cons ?_)
  have H := Lib.hid (H.out.kept (Kept.refl [] w6).drew)
  go_wp2_with (first
    | (with_reducible refine wpl_load_row (o := ⟨some 16, _, _, _, _, _⟩) structPr rfl (.tmp 5) rfl rfl H.out.t0 rfl ?_)
    | (go_at_call 43; refine (o0.out _).mono ?_; rintro e v ⟨rfl, kk⟩; have H := Lib.hid (H.out.kept kk); clear kk))
  refine ⟨rfl, H.out, Txt.segs_cons ?_⟩
  go_wp2_with (first
    | (with_reducible refine wpl_load_row (o := ⟨some 18, _, _, _, _, _⟩) structPr rfl (.tmp 6) rfl rfl H.out.t1 rfl ?_)
    | (go_at_call 43; refine (o1.out _).mono ?_; rintro e v ⟨rfl, kk⟩; have H := Lib.hid (H.out.kept kk); clear kk))
  refine ⟨rfl, H.out, Txt.segs_cons ?_⟩
  go_wp2_with (first
    | (with_reducible refine wpl_load_row (o := ⟨some 20, _, _, _, _, _⟩) structPr rfl (.tmp 7) rfl rfl H.out.t2 rfl ?_)
    | (go_at_call 43; refine (o2.out _).mono ?_; rintro e v ⟨rfl, kk⟩; have H := Lib.hid (H.out.kept kk); clear kk))
  refine ⟨rfl, H.out, Txt.segs_cons ?_⟩
  go_wp2_with (first
    | (with_reducible refine wpl_load_row (o := ⟨some 22, _, _, _, _, _⟩) structPr rfl (.tmp 8) rfl rfl H.out.t3 rfl ?_)
    | (go_at_call 43; refine (o3.out _).mono ?_; rintro e v ⟨rfl, kk⟩; have H := Lib.hid (H.out.kept kk); clear kk))
  refine ⟨rfl, H.out, Txt.segs_cons ?_⟩
  go_wp2_with (first
    | (with_reducible refine wpl_load_row (o := ⟨some 24, _, _, _, _, _⟩) structPr rfl (.tmp 9) rfl rfl H.out.t4 rfl ?_)
    | (go_at_call 43; refine (o4.out _).mono ?_; rintro e v ⟨rfl, kk⟩; have H := Lib.hid (H.out.kept kk); clear kk))
  refine ⟨rfl, H.out, Txt.segs_cons ?_⟩
  go_wp2_with fail
  refine ⟨rfl, H.out, Txt.segs_nil ⟨⟨by kernel_rfl, ?_⟩, ?_⟩⟩
  · intro j hj o ho _
    have hj2 : j = 0 ∨ j = 2 ∨ j = 4 ∨ j = 6 ∨ j = 8 := by simpa using hj
    rcases hj2 with rfl | rfl | rfl | rfl | rfl <;> cases ho
    · exact ⟨16, rfl, fun u hu => exec_load structPr (.tmp 5) rfl rfl hu.t0 rfl⟩
    · exact ⟨18, rfl, fun u hu => exec_load structPr (.tmp 6) rfl rfl hu.t1 rfl⟩
    · exact ⟨20, rfl, fun u hu => exec_load structPr (.tmp 7) rfl rfl hu.t2 rfl⟩
    · exact ⟨22, rfl, fun u hu => exec_load structPr (.tmp 8) rfl rfl hu.t3 rfl⟩
    · exact ⟨24, rfl, fun u hu => exec_load structPr (.tmp 9) rfl rfl hu.t4 rfl⟩
  obtain ⟨s0, s1, s2, s3, s4⟩ := S0.out
  obtain ⟨⟨q00, q01, q02, q03, q04⟩, q10, q11, q12, q13, q14⟩ := Q0.out
  have c0 : v.cell? ⟨g5, 1, none⟩ = some (.int .u64 (l64 x0 : Nat)) := Blk.uget (l := prs x0) H.out.t0 1 (by simp)
  have c1 : v.cell? ⟨g6, 1, none⟩ = some (.int .u64 (l64 x1 : Nat)) := Blk.uget (l := prs x1) H.out.t1 1 (by simp)
  have c2 : v.cell? ⟨g7, 1, none⟩ = some (.int .u64 (l64 x2 : Nat)) := Blk.uget (l := prs x2) H.out.t2 1 (by simp)
  have c3 : v.cell? ⟨g8, 1, none⟩ = some (.int .u64 (l64 x3 : Nat)) := Blk.uget (l := prs x3) H.out.t3 1 (by simp)
  have c4 : v.cell? ⟨g9, 1, none⟩ = some (.int .u64 (l64 x4 : Nat)) := Blk.uget (l := prs x4) H.out.t4 1 (by simp)
  have w0 := lo_word x0
  have w1 := lo_word x1
  have w2 := lo_word x2
  have w3 := lo_word x3
  have w4 := lo_word x4
  go_wp2_with (first
    | (with_reducible refine wpl_build1 (o := ⟨some 53, _, _, _, _, _⟩) rfl 0 (.tmp 52) rfl rfl (built_el R) ?_)
    | (go_at_call 31; refine (hcar.out _).mono ?_; rintro e w6 ⟨rfl, k6⟩; have H := Lib.hid (H.out.kept k6); clear k6)
    | (refine wpl_store_row structEl rfl (.tmp 10) (.tmp 54) rfl rfl rfl H.out.r rfl rfl (one_el _) ?_; intro w8 b8 k8))
  exact ret_row structEl rfl rfl b8 rfl rfl ⟨rfl, H.out.k.then1 k8 l10.out⟩
end Go.Proofs.Ythmpdhegodmjjaa
