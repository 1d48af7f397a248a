/-
  Field's laws: small numbers reckon as Go's do (FieldSmall).
-/
import Derived.Test.YthmpdhegodmjjaaFe21
namespace Go.Proofs.Ythmpdhegodmjjaa
open Go.RowKit Go.Mem Go.Txt

abbrev SmC (v : Nat) (F : Nat → Nat) : Prop := ∀ W, Calls Try.prog 12 #[.int .u64 (v : Int)] W fun e w' => e = .returned (el F) ∧ Kept [] W w'
abbrev AdC (F G R : Nat → Nat) : Prop := ∀ W, Calls Try.prog 13 #[el F, el G] W fun e w' => e = .returned (el R) ∧ Kept [] W w'
theorem small_c (v : Nat) (h : v < 18446744073709551616) : SmC v (smL v) := fun W => small_any v W h
theorem hash_c {F : Nat → Nat} {x y : Nat} (h : Rep F x) (e : x % PP = y) : HaC F y := fun W => hash_rep h e W
theorem odd_c {F : Nat → Nat} {x : Nat} (h : Rep F x) : OdC F (decide (x % PP % 2 = 1)) := fun W => by
  have := odd_any F W h.lim
  rwa [h.val] at this

theorem parity (a : Nat) : (decide (a % 2 = 1) == ((a : Int) % 2 == 1)) = true := by
  have : ((a : Int) % 2 == 1) = decide (a % 2 = 1) := by
    rw [Bool.eq_iff_iff]
    simp only [beq_iff_eq, decide_eq_true_eq]
    omega
  rw [this, beq_self_eq_true]

set_option maxRecDepth 100000 in
set_option maxHeartbeats 1600000 in
theorem small_walk1 (a b : Nat) (w : World) (ha : a < 4294967296) (hb : b < 4294967296) (hlt : b < a) :
    Calls Try.prog 3 #[.int .u32 (a : Int), .int .u32 (b : Int)] w fun e w' => e = .returned (.bool true) ∧ Kept [] w w' := by
  have hab : a * b < 18446744073709551616 := Nat.lt_of_le_of_lt (Nat.mul_le_mul (Nat.le_sub_one_of_lt ha) (Nat.le_sub_one_of_lt hb)) (by decide)
  have hlt2 : ¬ a < b := by omega
  have hle : b ≤ a := by omega
  have ra := Rep.small a (by omega)
  have rb := Rep.small b (by omega)
  have rd := Rep.small (a - b) (by omega)
  have rs := Rep.small (a + b) (by omega)
  have rm := Rep.small (a * b) hab
  have ca := small_c a (by omega)
  have cb := small_c b (by omega)
  have cd := small_c (a - b) (by omega)
  have cs := small_c (a + b) (by omega)
  have cm := small_c (a * b) hab
  have ad : AdC (smL a) (smL b) (carL (addL (smL a) (smL b))) := fun W => fadd_any _ _ W ra.lim rb.lim
  have ml : MlC (smL a) (smL b) (mlF (smL a) (smL b)) := mlF_any _ _ ra.lim rb.lim
  have sb : SuC (smL a) (smL b) (carL (subL (smL a) (smL b))) := fun W => fsub_any _ _ W ra.lim rb.lim
  obtain ⟨n1, hn1⟩ : ∃ n, n = (a + b) % PP := ⟨_, rfl⟩
  obtain ⟨n2, hn2⟩ : ∃ n, n = a * b % PP := ⟨_, rfl⟩
  obtain ⟨n3, hn3⟩ : ∃ n, n = (a - b) % PP := ⟨_, rfl⟩
  have h1 := hash_c (ra.add rb) hn1.symm
  have h2 := hash_c rs hn1.symm
  have h3 := hash_c (ra.ml rb) (show mlM a b % PP = n2 from by rw [hn2]; exact Nat.mod_mod _ _)
  have h4 := hash_c rm hn2.symm
  have h5 := hash_c (ra.sub rb (z := a - b) (by rw [Nat.sub_add_cancel hle])) hn3.symm
  have h6 := hash_c rd hn3.symm
  have od := odd_c ra
  rw [Nat.mod_eq_of_lt (show a < PP from Nat.lt_trans ha (by decide +kernel))] at od
  have q1 := eq_run n1 n1 (hn1 ▸ Nat.mod_lt _ PP_pos) (hn1 ▸ Nat.mod_lt _ PP_pos)
  have q2 := eq_run n2 n2 (hn2 ▸ Nat.mod_lt _ PP_pos) (hn2 ▸ Nat.mod_lt _ PP_pos)
  have q3 := eq_run n3 n3 (hn3 ▸ Nat.mod_lt _ PP_pos) (hn3 ▸ Nat.mod_lt _ PP_pos)
  rw [decide_eq_true rfl] at q1 q2 q3
  generalize carL (addL (smL a) (smL b)) = AB, mlF (smL a) (smL b) = M, carL (subL (smL a) (smL b)) = D at *
  generalize smL a = A, smL b = B, smL (a - b) = HL, smL (a + b) = S, smL (a * b) = AM at *
  clear hn1 hn2 hn3 ra rb rd rs rm
  obtain ⟨s, hs⟩ : ∃ s, s = a + b := ⟨_, rfl⟩
  obtain ⟨m, hm⟩ : ∃ m, m = a * b := ⟨_, rfl⟩
  obtain ⟨d, hd⟩ : ∃ d, d = a - b := ⟨_, rfl⟩
  rw [← hs] at cs
  rw [← hm] at cm hab
  rw [← hd] at cd
  have es : (a : Int) + (b : Int) = ((s : Nat) : Int) := by omega
  have em : (a : Int) * (b : Int) = ((m : Nat) : Int) := by rw [hm]; exact (Int.natCast_mul a b).symm
  have ed : (a : Int) - (b : Int) = ((d : Nat) : Int) := by omega
  have bs : s < 8589934592 := by omega
  replace ca := Lib.hid ca
  replace cb := Lib.hid cb
  replace cd := Lib.hid cd
  replace cs := Lib.hid cs
  replace cm := Lib.hid cm
  replace ad := Lib.hid ad
  replace ml := Lib.hid ml
  replace sb := Lib.hid sb
  replace h1 := Lib.hid h1
  replace h2 := Lib.hid h2
  replace h3 := Lib.hid h3
  replace h4 := Lib.hid h4
  replace h5 := Lib.hid h5
  replace h6 := Lib.hid h6
  replace od := Lib.hid od
  clear hs hm hd hle
  go_enter Try.func3, Try.ntmps3
  have H := Lib.hid (Els.none w)
  go_wp2_with (first
    | (go_at_call 11; refine (first_true _).mono ?_; rintro e w1 ⟨rfl, kk⟩; have H := Lib.hid (H.out.kept kk); clear kk)
    | (go_at_call 12; (with_reducible refine (ca.out _).mono ?_); rintro e w1 ⟨rfl, kk⟩; have H := Lib.hid (H.out.kept kk); clear kk)
    | (go_at_call 12; (with_reducible refine (cb.out _).mono ?_); rintro e w1 ⟨rfl, kk⟩; have H := Lib.hid (H.out.kept kk); clear kk)
    | ((with_reducible refine wpl_new (o := ⟨some 5, _, _, _, _, _⟩) rfl rfl zeroEl ?_); intro g5 x5 m5; have H := Lib.hid (H.out.put m5 m5.blk (Kept.refl _ _)); clear m5)
    | ((with_reducible refine wpl_new (o := ⟨some 6, _, _, _, _, _⟩) rfl rfl zeroEl ?_); intro g6 x6 m6; have N := Lib.hid (m6.ne (H.out.s (g5, nought) (by simp)).lt); have H := Lib.hid (H.out.put m6 m6.blk (Kept.refl _ _)); clear m6)
    | ((with_reducible refine wpl_store_row (o := ⟨none, .store 27 (.tmp 5) (.tmp 13), _, _, _, _⟩) structEl rfl (.tmp 5) (.tmp 13) rfl rfl rfl (H.out.s (g5, nought) (by simp)) rfl rfl (one_el _) ?_); intro v5 b5 k5; have B6 := Lib.hid ((H.out.s (g6, nought) (by simp)).kept k5 (by simpa using Ne.symm N.out)))
    | ((with_reducible refine wpl_store_row (o := ⟨none, .store 27 (.tmp 6) (.tmp 16), _, _, _, _⟩) structEl rfl (.tmp 6) (.tmp 16) rfl rfl rfl B6.out rfl rfl (one_el _) ?_); intro v6 b6 k6; have f5 := H.out.f (g5, nought) (by simp); have f6 := H.out.f (g6, nought) (by simp); have E := Lib.hid (show Els w [(g6, B), (g5, A)] v6 from ((show Els w [] v6 from ⟨fun _ h => absurd h (by simp), fun _ h => absurd h (by simp), (H.out.k.then1 k5 f5).then1 k6 f6⟩).cons (b5.kept k6 (by simpa using N.out)) f5).cons b6 f6); clear H B6 b5 k5 b6 k6 f5 f6 N; have H := Lib.hid E.out; clear E)
    | (with_reducible refine wpl_load_row (o := ⟨some 23, _, _, _, _, _⟩) structEl rfl (.tmp 5) rfl rfl (H.out.s (g5, A) (by simp)) rfl ?_)
    | (with_reducible refine wpl_load_row (o := ⟨some 24, _, _, _, _, _⟩) structEl rfl (.tmp 6) rfl rfl (H.out.s (g6, B) (by simp)) rfl ?_)
    | (go_at_call 13; (with_reducible refine (ad.out _).mono ?_); rintro e w1 ⟨rfl, kk⟩; have H := Lib.hid (H.out.kept kk); clear kk)
    | (go_at_call 14; (with_reducible refine (h1.out _).mono ?_); rintro e w1 ⟨rfl, kk⟩; have H := Lib.hid (H.out.kept kk); clear kk)
    | (go_at_call 12; (with_reducible refine (cs.out _).mono ?_); rintro e w1 ⟨rfl, kk⟩; have H := Lib.hid (H.out.kept kk); clear kk)
    | (go_at_call 14; (with_reducible refine (h2.out _).mono ?_); rintro e w1 ⟨rfl, kk⟩; have H := Lib.hid (H.out.kept kk); clear kk)
    | (with_reducible refine wpl_load_row (o := ⟨some 36, _, _, _, _, _⟩) structEl rfl (.tmp 5) rfl rfl (H.out.s (g5, A) (by simp)) rfl ?_)
    | (with_reducible refine wpl_load_row (o := ⟨some 37, _, _, _, _, _⟩) structEl rfl (.tmp 6) rfl rfl (H.out.s (g6, B) (by simp)) rfl ?_)
    | (go_at_call 15; refine (ml.out _).mono ?_; rintro e w1 ⟨rfl, kk⟩; have H := Lib.hid (H.out.kept kk); clear kk)
    | (go_at_call 14; (with_reducible refine (h3.out _).mono ?_); rintro e w1 ⟨rfl, kk⟩; have H := Lib.hid (H.out.kept kk); clear kk)
    | (go_at_call 12; (with_reducible refine (cm.out _).mono ?_); rintro e w1 ⟨rfl, kk⟩; have H := Lib.hid (H.out.kept kk); clear kk)
    | (go_at_call 14; (with_reducible refine (h4.out _).mono ?_); rintro e w1 ⟨rfl, kk⟩; have H := Lib.hid (H.out.kept kk); clear kk)
    | (go_at_call 12; (with_reducible refine (ca.out _).mono ?_); rintro e w1 ⟨rfl, kk⟩; have H := Lib.hid (H.out.kept kk); clear kk)
    | (go_at_call 12; (with_reducible refine (cb.out _).mono ?_); rintro e w1 ⟨rfl, kk⟩; have H := Lib.hid (H.out.kept kk); clear kk)
    | (go_at_call 16; (with_reducible refine (sb.out _).mono ?_); rintro e w1 ⟨rfl, kk⟩; have H := Lib.hid (H.out.kept kk); clear kk)
    | (go_at_call 14; (with_reducible refine (h5.out _).mono ?_); rintro e w1 ⟨rfl, kk⟩; have H := Lib.hid (H.out.kept kk); clear kk)
    | (go_at_call 12; (with_reducible refine (cd.out _).mono ?_); rintro e w1 ⟨rfl, kk⟩; have H := Lib.hid (H.out.kept kk); clear kk)
    | (go_at_call 14; (with_reducible refine (h6.out _).mono ?_); rintro e w1 ⟨rfl, kk⟩; have H := Lib.hid (H.out.kept kk); clear kk)
    | (with_reducible refine wpl_load_row (o := ⟨some 67, _, _, _, _, _⟩) structEl rfl (.tmp 5) rfl rfl (H.out.s (g5, A) (by simp)) rfl ?_)
    | (go_at_call 17; (with_reducible refine (od.out _).mono ?_); rintro e w1 ⟨rfl, kk⟩; have H := Lib.hid (H.out.kept kk); clear kk))
  go_ret
  exact ⟨by rw [parity a]; rfl, H.out.k⟩

set_option maxRecDepth 100000 in
set_option maxHeartbeats 1600000 in
theorem small_walk2 (a b : Nat) (w : World) (ha : a < 4294967296) (hb : b < 4294967296) (hlt : a < b) :
    Calls Try.prog 3 #[.int .u32 (a : Int), .int .u32 (b : Int)] w fun e w' => e = .returned (.bool true) ∧ Kept [] w w' := by
  have hab : a * b < 18446744073709551616 := Nat.lt_of_le_of_lt (Nat.mul_le_mul (Nat.le_sub_one_of_lt ha) (Nat.le_sub_one_of_lt hb)) (by decide)
  have hlt2 : ¬ b < a := by omega
  have hle : a ≤ b := by omega
  have ra := Rep.small a (by omega)
  have rb := Rep.small b (by omega)
  have rd := Rep.small (b - a) (by omega)
  have rs := Rep.small (a + b) (by omega)
  have rm := Rep.small (a * b) hab
  have ca := small_c a (by omega)
  have cb := small_c b (by omega)
  have cd := small_c (b - a) (by omega)
  have cs := small_c (a + b) (by omega)
  have cm := small_c (a * b) hab
  have ad : AdC (smL a) (smL b) (carL (addL (smL a) (smL b))) := fun W => fadd_any _ _ W ra.lim rb.lim
  have ml : MlC (smL a) (smL b) (mlF (smL a) (smL b)) := mlF_any _ _ ra.lim rb.lim
  have sb : SuC (smL b) (smL a) (carL (subL (smL b) (smL a))) := fun W => fsub_any _ _ W rb.lim ra.lim
  obtain ⟨n1, hn1⟩ : ∃ n, n = (a + b) % PP := ⟨_, rfl⟩
  obtain ⟨n2, hn2⟩ : ∃ n, n = a * b % PP := ⟨_, rfl⟩
  obtain ⟨n3, hn3⟩ : ∃ n, n = (b - a) % PP := ⟨_, rfl⟩
  have h1 := hash_c (ra.add rb) hn1.symm
  have h2 := hash_c rs hn1.symm
  have h3 := hash_c (ra.ml rb) (show mlM a b % PP = n2 from by rw [hn2]; exact Nat.mod_mod _ _)
  have h4 := hash_c rm hn2.symm
  have h5 := hash_c (rb.sub ra (z := b - a) (by rw [Nat.sub_add_cancel hle])) hn3.symm
  have h6 := hash_c rd hn3.symm
  have od := odd_c ra
  rw [Nat.mod_eq_of_lt (show a < PP from Nat.lt_trans ha (by decide +kernel))] at od
  have q1 := eq_run n1 n1 (hn1 ▸ Nat.mod_lt _ PP_pos) (hn1 ▸ Nat.mod_lt _ PP_pos)
  have q2 := eq_run n2 n2 (hn2 ▸ Nat.mod_lt _ PP_pos) (hn2 ▸ Nat.mod_lt _ PP_pos)
  have q3 := eq_run n3 n3 (hn3 ▸ Nat.mod_lt _ PP_pos) (hn3 ▸ Nat.mod_lt _ PP_pos)
  rw [decide_eq_true rfl] at q1 q2 q3
  generalize carL (addL (smL a) (smL b)) = AB, mlF (smL a) (smL b) = M, carL (subL (smL b) (smL a)) = D at *
  generalize smL a = A, smL b = B, smL (b - a) = HL, smL (a + b) = S, smL (a * b) = AM at *
  clear hn1 hn2 hn3 ra rb rd rs rm
  obtain ⟨s, hs⟩ : ∃ s, s = a + b := ⟨_, rfl⟩
  obtain ⟨m, hm⟩ : ∃ m, m = a * b := ⟨_, rfl⟩
  obtain ⟨d, hd⟩ : ∃ d, d = b - a := ⟨_, rfl⟩
  rw [← hs] at cs
  rw [← hm] at cm hab
  rw [← hd] at cd
  have es : (a : Int) + (b : Int) = ((s : Nat) : Int) := by omega
  have em : (a : Int) * (b : Int) = ((m : Nat) : Int) := by rw [hm]; exact (Int.natCast_mul a b).symm
  have ed : (b : Int) - (a : Int) = ((d : Nat) : Int) := by omega
  have bs : s < 8589934592 := by omega
  replace ca := Lib.hid ca
  replace cb := Lib.hid cb
  replace cd := Lib.hid cd
  replace cs := Lib.hid cs
  replace cm := Lib.hid cm
  replace ad := Lib.hid ad
  replace ml := Lib.hid ml
  replace sb := Lib.hid sb
  replace h1 := Lib.hid h1
  replace h2 := Lib.hid h2
  replace h3 := Lib.hid h3
  replace h4 := Lib.hid h4
  replace h5 := Lib.hid h5
  replace h6 := Lib.hid h6
  replace od := Lib.hid od
  clear hs hm hd hle
  go_enter Try.func3, Try.ntmps3
  have H := Lib.hid (Els.none w)
  go_wp2_with (first
    | (go_at_call 11; refine (first_true _).mono ?_; rintro e w1 ⟨rfl, kk⟩; have H := Lib.hid (H.out.kept kk); clear kk)
    | (go_at_call 12; (with_reducible refine (ca.out _).mono ?_); rintro e w1 ⟨rfl, kk⟩; have H := Lib.hid (H.out.kept kk); clear kk)
    | (go_at_call 12; (with_reducible refine (cb.out _).mono ?_); rintro e w1 ⟨rfl, kk⟩; have H := Lib.hid (H.out.kept kk); clear kk)
    | ((with_reducible refine wpl_new (o := ⟨some 5, _, _, _, _, _⟩) rfl rfl zeroEl ?_); intro g5 x5 m5; have H := Lib.hid (H.out.put m5 m5.blk (Kept.refl _ _)); clear m5)
    | ((with_reducible refine wpl_new (o := ⟨some 6, _, _, _, _, _⟩) rfl rfl zeroEl ?_); intro g6 x6 m6; have N := Lib.hid (m6.ne (H.out.s (g5, nought) (by simp)).lt); have H := Lib.hid (H.out.put m6 m6.blk (Kept.refl _ _)); clear m6)
    | ((with_reducible refine wpl_store_row (o := ⟨none, .store 27 (.tmp 5) (.tmp 13), _, _, _, _⟩) structEl rfl (.tmp 5) (.tmp 13) rfl rfl rfl (H.out.s (g5, nought) (by simp)) rfl rfl (one_el _) ?_); intro v5 b5 k5; have B6 := Lib.hid ((H.out.s (g6, nought) (by simp)).kept k5 (by simpa using Ne.symm N.out)))
    | ((with_reducible refine wpl_store_row (o := ⟨none, .store 27 (.tmp 6) (.tmp 16), _, _, _, _⟩) structEl rfl (.tmp 6) (.tmp 16) rfl rfl rfl B6.out rfl rfl (one_el _) ?_); intro v6 b6 k6; have f5 := H.out.f (g5, nought) (by simp); have f6 := H.out.f (g6, nought) (by simp); have E := Lib.hid (show Els w [(g6, B), (g5, A)] v6 from ((show Els w [] v6 from ⟨fun _ h => absurd h (by simp), fun _ h => absurd h (by simp), (H.out.k.then1 k5 f5).then1 k6 f6⟩).cons (b5.kept k6 (by simpa using N.out)) f5).cons b6 f6); clear H B6 b5 k5 b6 k6 f5 f6 N; have H := Lib.hid E.out; clear E)
    | (with_reducible refine wpl_load_row (o := ⟨some 23, _, _, _, _, _⟩) structEl rfl (.tmp 5) rfl rfl (H.out.s (g5, A) (by simp)) rfl ?_)
    | (with_reducible refine wpl_load_row (o := ⟨some 24, _, _, _, _, _⟩) structEl rfl (.tmp 6) rfl rfl (H.out.s (g6, B) (by simp)) rfl ?_)
    | (go_at_call 13; (with_reducible refine (ad.out _).mono ?_); rintro e w1 ⟨rfl, kk⟩; have H := Lib.hid (H.out.kept kk); clear kk)
    | (go_at_call 14; (with_reducible refine (h1.out _).mono ?_); rintro e w1 ⟨rfl, kk⟩; have H := Lib.hid (H.out.kept kk); clear kk)
    | (go_at_call 12; (with_reducible refine (cs.out _).mono ?_); rintro e w1 ⟨rfl, kk⟩; have H := Lib.hid (H.out.kept kk); clear kk)
    | (go_at_call 14; (with_reducible refine (h2.out _).mono ?_); rintro e w1 ⟨rfl, kk⟩; have H := Lib.hid (H.out.kept kk); clear kk)
    | (with_reducible refine wpl_load_row (o := ⟨some 36, _, _, _, _, _⟩) structEl rfl (.tmp 5) rfl rfl (H.out.s (g5, A) (by simp)) rfl ?_)
    | (with_reducible refine wpl_load_row (o := ⟨some 37, _, _, _, _, _⟩) structEl rfl (.tmp 6) rfl rfl (H.out.s (g6, B) (by simp)) rfl ?_)
    | (go_at_call 15; refine (ml.out _).mono ?_; rintro e w1 ⟨rfl, kk⟩; have H := Lib.hid (H.out.kept kk); clear kk)
    | (go_at_call 14; (with_reducible refine (h3.out _).mono ?_); rintro e w1 ⟨rfl, kk⟩; have H := Lib.hid (H.out.kept kk); clear kk)
    | (go_at_call 12; (with_reducible refine (cm.out _).mono ?_); rintro e w1 ⟨rfl, kk⟩; have H := Lib.hid (H.out.kept kk); clear kk)
    | (go_at_call 14; (with_reducible refine (h4.out _).mono ?_); rintro e w1 ⟨rfl, kk⟩; have H := Lib.hid (H.out.kept kk); clear kk)
    | (go_at_call 12; (with_reducible refine (ca.out _).mono ?_); rintro e w1 ⟨rfl, kk⟩; have H := Lib.hid (H.out.kept kk); clear kk)
    | (go_at_call 12; (with_reducible refine (cb.out _).mono ?_); rintro e w1 ⟨rfl, kk⟩; have H := Lib.hid (H.out.kept kk); clear kk)
    | (go_at_call 16; (with_reducible refine (sb.out _).mono ?_); rintro e w1 ⟨rfl, kk⟩; have H := Lib.hid (H.out.kept kk); clear kk)
    | (go_at_call 14; (with_reducible refine (h5.out _).mono ?_); rintro e w1 ⟨rfl, kk⟩; have H := Lib.hid (H.out.kept kk); clear kk)
    | (go_at_call 12; (with_reducible refine (cd.out _).mono ?_); rintro e w1 ⟨rfl, kk⟩; have H := Lib.hid (H.out.kept kk); clear kk)
    | (go_at_call 14; (with_reducible refine (h6.out _).mono ?_); rintro e w1 ⟨rfl, kk⟩; have H := Lib.hid (H.out.kept kk); clear kk)
    | (with_reducible refine wpl_load_row (o := ⟨some 67, _, _, _, _, _⟩) structEl rfl (.tmp 5) rfl rfl (H.out.s (g5, A) (by simp)) rfl ?_)
    | (go_at_call 17; (with_reducible refine (od.out _).mono ?_); rintro e w1 ⟨rfl, kk⟩; have H := Lib.hid (H.out.kept kk); clear kk))
  go_ret
  exact ⟨by rw [parity a]; rfl, H.out.k⟩
set_option maxRecDepth 100000 in
set_option maxHeartbeats 1600000 in
theorem small_walk3 (a : Nat) (w : World) (ha : a < 4294967296) :
    Calls Try.prog 3 #[.int .u32 (a : Int), .int .u32 (a : Int)] w fun e w' => e = .returned (.bool true) ∧ Kept [] w w' := by
  have hab : a * a < 18446744073709551616 := Nat.lt_of_le_of_lt (Nat.mul_le_mul (Nat.le_sub_one_of_lt ha) (Nat.le_sub_one_of_lt ha)) (by decide)
  have hle : a ≤ a := by omega
  have ra := Rep.small a (by omega)
  have rd := Rep.small (a - a) (by omega)
  have rs := Rep.small (a + a) (by omega)
  have rm := Rep.small (a * a) hab
  have ca := small_c a (by omega)
  have cd := small_c (a - a) (by omega)
  have cs := small_c (a + a) (by omega)
  have cm := small_c (a * a) hab
  have ad : AdC (smL a) (smL a) (carL (addL (smL a) (smL a))) := fun W => fadd_any _ _ W ra.lim ra.lim
  have ml : MlC (smL a) (smL a) (mlF (smL a) (smL a)) := mlF_any _ _ ra.lim ra.lim
  have sb : SuC (smL a) (smL a) (carL (subL (smL a) (smL a))) := fun W => fsub_any _ _ W ra.lim ra.lim
  obtain ⟨n1, hn1⟩ : ∃ n, n = (a + a) % PP := ⟨_, rfl⟩
  obtain ⟨n2, hn2⟩ : ∃ n, n = a * a % PP := ⟨_, rfl⟩
  obtain ⟨n3, hn3⟩ : ∃ n, n = (a - a) % PP := ⟨_, rfl⟩
  have h1 := hash_c (ra.add ra) hn1.symm
  have h2 := hash_c rs hn1.symm
  have h3 := hash_c (ra.ml ra) (show mlM a a % PP = n2 from by rw [hn2]; exact Nat.mod_mod _ _)
  have h4 := hash_c rm hn2.symm
  have h5 := hash_c (ra.sub ra (z := a - a) (by rw [Nat.sub_add_cancel hle])) hn3.symm
  have h6 := hash_c rd hn3.symm
  have od := odd_c ra
  rw [Nat.mod_eq_of_lt (show a < PP from Nat.lt_trans ha (by decide +kernel))] at od
  have q1 := eq_run n1 n1 (hn1 ▸ Nat.mod_lt _ PP_pos) (hn1 ▸ Nat.mod_lt _ PP_pos)
  have q2 := eq_run n2 n2 (hn2 ▸ Nat.mod_lt _ PP_pos) (hn2 ▸ Nat.mod_lt _ PP_pos)
  have q3 := eq_run n3 n3 (hn3 ▸ Nat.mod_lt _ PP_pos) (hn3 ▸ Nat.mod_lt _ PP_pos)
  rw [decide_eq_true rfl] at q1 q2 q3
  generalize carL (addL (smL a) (smL a)) = AB, mlF (smL a) (smL a) = M, carL (subL (smL a) (smL a)) = D at *
  generalize smL a = A, smL (a - a) = HL, smL (a + a) = S, smL (a * a) = AM at *
  clear hn1 hn2 hn3 ra rd rs rm
  obtain ⟨s, hs⟩ : ∃ s, s = a + a := ⟨_, rfl⟩
  obtain ⟨m, hm⟩ : ∃ m, m = a * a := ⟨_, rfl⟩
  obtain ⟨d, hd⟩ : ∃ d, d = a - a := ⟨_, rfl⟩
  rw [← hs] at cs
  rw [← hm] at cm hab
  rw [← hd] at cd
  have es : (a : Int) + (a : Int) = ((s : Nat) : Int) := by omega
  have em : (a : Int) * (a : Int) = ((m : Nat) : Int) := by rw [hm]; exact (Int.natCast_mul a a).symm
  have ed : (a : Int) - (a : Int) = ((d : Nat) : Int) := by omega
  have bs : s < 8589934592 := by omega
  replace ca := Lib.hid ca
  replace cd := Lib.hid cd
  replace cs := Lib.hid cs
  replace cm := Lib.hid cm
  replace ad := Lib.hid ad
  replace ml := Lib.hid ml
  replace sb := Lib.hid sb
  replace h1 := Lib.hid h1
  replace h2 := Lib.hid h2
  replace h3 := Lib.hid h3
  replace h4 := Lib.hid h4
  replace h5 := Lib.hid h5
  replace h6 := Lib.hid h6
  replace od := Lib.hid od
  clear hs hm hd hle
  go_enter Try.func3, Try.ntmps3
  have H := Lib.hid (Els.none w)
  go_wp2_with (first
    | (go_at_call 11; refine (first_true _).mono ?_; rintro e w1 ⟨rfl, kk⟩; have H := Lib.hid (H.out.kept kk); clear kk)
    | (go_at_call 12; (with_reducible refine (ca.out _).mono ?_); rintro e w1 ⟨rfl, kk⟩; have H := Lib.hid (H.out.kept kk); clear kk)
    | ((with_reducible refine wpl_new (o := ⟨some 5, _, _, _, _, _⟩) rfl rfl zeroEl ?_); intro g5 x5 m5; have H := Lib.hid (H.out.put m5 m5.blk (Kept.refl _ _)); clear m5)
    | ((with_reducible refine wpl_new (o := ⟨some 6, _, _, _, _, _⟩) rfl rfl zeroEl ?_); intro g6 x6 m6; have N := Lib.hid (m6.ne (H.out.s (g5, nought) (by simp)).lt); have H := Lib.hid (H.out.put m6 m6.blk (Kept.refl _ _)); clear m6)
    | ((with_reducible refine wpl_store_row (o := ⟨none, .store 27 (.tmp 5) (.tmp 13), _, _, _, _⟩) structEl rfl (.tmp 5) (.tmp 13) rfl rfl rfl (H.out.s (g5, nought) (by simp)) rfl rfl (one_el _) ?_); intro v5 b5 k5; have B6 := Lib.hid ((H.out.s (g6, nought) (by simp)).kept k5 (by simpa using Ne.symm N.out)))
    | ((with_reducible refine wpl_store_row (o := ⟨none, .store 27 (.tmp 6) (.tmp 16), _, _, _, _⟩) structEl rfl (.tmp 6) (.tmp 16) rfl rfl rfl B6.out rfl rfl (one_el _) ?_); intro v6 b6 k6; have f5 := H.out.f (g5, nought) (by simp); have f6 := H.out.f (g6, nought) (by simp); have E := Lib.hid (show Els w [(g6, A), (g5, A)] v6 from ((show Els w [] v6 from ⟨fun _ h => absurd h (by simp), fun _ h => absurd h (by simp), (H.out.k.then1 k5 f5).then1 k6 f6⟩).cons (b5.kept k6 (by simpa using N.out)) f5).cons b6 f6); clear H B6 b5 k5 b6 k6 f5 f6 N; have H := Lib.hid E.out; clear E)
    | (with_reducible refine wpl_load_row (o := ⟨some 23, _, _, _, _, _⟩) structEl rfl (.tmp 5) rfl rfl (H.out.s (g5, A) (by simp)) rfl ?_)
    | (with_reducible refine wpl_load_row (o := ⟨some 24, _, _, _, _, _⟩) structEl rfl (.tmp 6) rfl rfl (H.out.s (g6, A) (by simp)) rfl ?_)
    | (go_at_call 13; (with_reducible refine (ad.out _).mono ?_); rintro e w1 ⟨rfl, kk⟩; have H := Lib.hid (H.out.kept kk); clear kk)
    | (go_at_call 14; (with_reducible refine (h1.out _).mono ?_); rintro e w1 ⟨rfl, kk⟩; have H := Lib.hid (H.out.kept kk); clear kk)
    | (go_at_call 12; (with_reducible refine (cs.out _).mono ?_); rintro e w1 ⟨rfl, kk⟩; have H := Lib.hid (H.out.kept kk); clear kk)
    | (go_at_call 14; (with_reducible refine (h2.out _).mono ?_); rintro e w1 ⟨rfl, kk⟩; have H := Lib.hid (H.out.kept kk); clear kk)
    | (with_reducible refine wpl_load_row (o := ⟨some 36, _, _, _, _, _⟩) structEl rfl (.tmp 5) rfl rfl (H.out.s (g5, A) (by simp)) rfl ?_)
    | (with_reducible refine wpl_load_row (o := ⟨some 37, _, _, _, _, _⟩) structEl rfl (.tmp 6) rfl rfl (H.out.s (g6, A) (by simp)) rfl ?_)
    | (go_at_call 15; refine (ml.out _).mono ?_; rintro e w1 ⟨rfl, kk⟩; have H := Lib.hid (H.out.kept kk); clear kk)
    | (go_at_call 14; (with_reducible refine (h3.out _).mono ?_); rintro e w1 ⟨rfl, kk⟩; have H := Lib.hid (H.out.kept kk); clear kk)
    | (go_at_call 12; (with_reducible refine (cm.out _).mono ?_); rintro e w1 ⟨rfl, kk⟩; have H := Lib.hid (H.out.kept kk); clear kk)
    | (go_at_call 14; (with_reducible refine (h4.out _).mono ?_); rintro e w1 ⟨rfl, kk⟩; have H := Lib.hid (H.out.kept kk); clear kk)
    | (go_at_call 12; (with_reducible refine (ca.out _).mono ?_); rintro e w1 ⟨rfl, kk⟩; have H := Lib.hid (H.out.kept kk); clear kk)
    | (go_at_call 16; (with_reducible refine (sb.out _).mono ?_); rintro e w1 ⟨rfl, kk⟩; have H := Lib.hid (H.out.kept kk); clear kk)
    | (go_at_call 14; (with_reducible refine (h5.out _).mono ?_); rintro e w1 ⟨rfl, kk⟩; have H := Lib.hid (H.out.kept kk); clear kk)
    | (go_at_call 12; (with_reducible refine (cd.out _).mono ?_); rintro e w1 ⟨rfl, kk⟩; have H := Lib.hid (H.out.kept kk); clear kk)
    | (go_at_call 14; (with_reducible refine (h6.out _).mono ?_); rintro e w1 ⟨rfl, kk⟩; have H := Lib.hid (H.out.kept kk); clear kk)
    | (with_reducible refine wpl_load_row (o := ⟨some 67, _, _, _, _, _⟩) structEl rfl (.tmp 5) rfl rfl (H.out.s (g5, A) (by simp)) rfl ?_)
    | (go_at_call 17; (with_reducible refine (od.out _).mono ?_); rintro e w1 ⟨rfl, kk⟩; have H := Lib.hid (H.out.kept kk); clear kk))
  go_ret
  exact ⟨by rw [parity a]; rfl, H.out.k⟩


theorem small_law (a b : Int) (w : World) (ha : (Lit.int .u32 a).wf = true) (hb : (Lit.int .u32 b).wf = true) :
    Calls Try.prog 3 #[.int .u32 a, .int .u32 b] w fun e w' => e = .returned (.bool true) ∧ Kept [] w w' := by
  have h1 : 0 ≤ a ∧ a ≤ 4294967295 := by simpa [Lit.wf, IntKind.min, IntKind.max, IntKind.signed, IntKind.bits] using ha
  have h2 : 0 ≤ b ∧ b ≤ 4294967295 := by simpa [Lit.wf, IntKind.min, IntKind.max, IntKind.signed, IntKind.bits] using hb
  obtain ⟨m, rfl⟩ : ∃ m : Nat, a = m := ⟨a.toNat, by omega⟩
  obtain ⟨n, rfl⟩ : ∃ n : Nat, b = n := ⟨b.toNat, by omega⟩
  rcases Nat.lt_trichotomy n m with h | rfl | h
  · exact small_walk1 m n w (by omega) (by omega) h
  · exact small_walk3 n w (by omega)
  · exact small_walk2 m n w (by omega) (by omega) h
end Go.Proofs.Ythmpdhegodmjjaa
