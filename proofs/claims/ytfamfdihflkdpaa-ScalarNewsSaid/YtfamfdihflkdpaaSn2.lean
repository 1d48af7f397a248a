/-
  Scalars' laws: which bytes are numbers, what 64 bytes come to (ScalarNews).
-/
import Derived.Test.YtfamfdihflkdpaaSn1
import Derived.Test.YtfamfdihflkdpaaText5
namespace Go.Proofs.Ytfamfdihflkdpaa
open Go.RowKit Go.Mem

theorem byte_bit2 (bs : List UInt8) (k : Nat) (h : k / 8 < bs.length) : bs[k / 8].toNat / 2 ^ (k % 8) % 2 = leV bs / 2 ^ k % 2 := by
  rw [byte_bit bs (k / 8) (k % 8) h (by omega), show 8 * (k / 8) + k % 8 = k from by omega]
theorem build_b : Try.prog.built 22 [] = some (bv (noughts 32)).toArray := by kernel_rfl
theorem le_zero : le 0 32 = noughts 32 := by decide +kernel
theorem exec_build0 {P : Program} {u : World} {a : Act} {o : Oper} {t : TypeId} (ho : o.op = .build t #[]) {cs : Array Value} (hb : ∀ w, (Instr.build t #[]).run P w = .ok (.agg cs) w) : (execOp a.eval o).run P u = .ok (.value (.agg cs)) u := by
  simp [execOp, ho, hb]
theorem arrD : ArrT Try.prog 35 5 64 := ⟨Try.underlying35, by kernel_rfl⟩
theorem bit_zero (i : Int) : bitB 0 i = false := by
  unfold bitB; exact decide_eq_false fun h => by have := h.2.2; rw [Nat.zero_div] at this; exact absurd this (by decide)
theorem run_build_b : ∃ Z : List UInt8, Z = noughts 32 ∧ Try.prog.built 22 [] = some (bv Z).toArray ∧ ∀ w, (Instr.build 22 #[]).run Try.prog w = .ok (.agg (bv Z).toArray) w := ⟨_, rfl, build_b, fun w => by kernel_rfl⟩

/-- What lies in memory. -/
structure New3 (w0 : World) (g1 g2 g7 : Nat) (b wd : List UInt8) (y : Nat) (u : World) : Prop where
  b : Blk u g1 22 (bv b).toArray
  d : Blk u g2 35 (bv wd).toArray
  x : Blk u g7 27 (uv (ws4 y)).toArray
  k : Kept [] w0 u
theorem New3.kept {w0 : World} {g1 g2 g7 : Nat} {b wd : List UInt8} {y : Nat} {u u' : World} (h : New3 w0 g1 g2 g7 b wd y u) (hk : Kept [] u u') : New3 w0 g1 g2 g7 b wd y u' :=
  ⟨h.b.kept hk (by simp), h.d.kept hk (by simp), h.x.kept hk (by simp), h.k.then0 hk⟩

set_option maxRecDepth 100000 in
set_option maxHeartbeats 3200000 in
theorem news_walk (b wd : List UInt8) (bit : Int) (w : World) (hb : b.length = 32) (hd : wd.length = 64) (hbit : (Lit.int .i64 bit).wf = true) :
    Calls Try.prog 4 #[ab b, ab wd, .int .i64 bit] w fun e w' => e = .returned (.bool true) ∧ Kept [] w w' := by
  have hL := Lib.hid (And.intro hb hd)
  have hb2 := Lib.hid (show (bv b).length = 32 by simp [hb])
  have hd2 := Lib.hid (show (bv wd).length = 64 by simp [hd])
  have hlb : le (leV b) 32 = b := by have := le_leV b; rwa [hb] at this
  have hlb2 := Lib.hid hlb
  have hnew := Lib.hid (new_any b hb)
  obtain ⟨X, hX⟩ : ∃ X, X = leV wd % LL := ⟨_, rfl⟩
  have hwide := Lib.hid (fun W => wide_any wd hd W)
  have hmod := Lib.hid (fun (g : Nat) (W : World) (hB : Blk W g 35 (bv wd).toArray) => rmod_any (.slice (some ⟨g, 0, none⟩) 64 64) wd W (by rw [hd]; exact Blk.rd hB hd2.out (Nat.le_refl _)) (by omega))
  rw [← hX] at hwide hmod
  clear hX
  have hgood := Lib.hid (fun W => rgood_any b W hb)
  obtain ⟨y, hy⟩ : ∃ y, y = nw (leV b) := ⟨_, rfl⟩
  rw [← hy] at hnew
  obtain ⟨ok, hok⟩ : ∃ ok, ok = okB (leV b) := ⟨_, rfl⟩
  rw [← hok] at hnew hgood
  have hy2 := Lib.hid hy
  have hok2 := Lib.hid hok
  clear hb hd hlb hy hok
  go_enter Try.func4, Try.ntmps4
  go_wp2_with (first
    | ((with_reducible refine wpl_box (o := ⟨some 3, _, _, _, _, _⟩) (v := ab b) rfl (.tmp 0) rfl rfl ?_); intro g1 w1 m1)
    | ((with_reducible refine wpl_box (o := ⟨some 4, _, _, _, _, _⟩) (v := ab wd) rfl (.tmp 1) rfl rfl ?_); intro g2 w2 m2)
    | (go_at_call 8; refine (first_true _).mono ?_; rintro e w3 ⟨rfl, k3⟩; have b1 := Lib.hid (And.intro ((m1.blk.kept m2.kept (by simp)).kept k3 (by simp)) (m2.blk.kept k3 (by simp))); have K3 := Lib.hid ((m1.kept.then0 m2.kept).then0 k3); clear m1 m2 k3)
    | (refine wpl_load_arr arrB rfl (.tmp 3) rfl rfl b1.out.1 hb2.out ?_)
    | (go_at_call 16; refine (hnew.out _).mono ?_; rintro e w4 ⟨rfl, k4⟩; have B4 := Lib.hid (And.intro (b1.out.1.kept k4 (by simp)) (b1.out.2.kept k4 (by simp))); have K4 := Lib.hid (K3.out.then0 k4); clear k4)
    | ((with_reducible refine wpl_new (o := ⟨some 7, _, _, _, _, _⟩) rfl rfl zeroSc ?_); intro g7 w5 m7)
    | (refine wpl_store_row structSc rfl (.tmp 7) (.tmp 15) rfl rfl rfl m7.blk rfl rfl (one_uva _) ?_; intro w6 b6 k6))
  have H := Lib.hid (show New3 w g1 g2 g7 b wd y w6 from ⟨(B4.out.1.kept m7.kept (by simp)).kept k6 (by have := m7.ne B4.out.1.lt; simpa using this), (B4.out.2.kept m7.kept (by simp)).kept k6 (by have := m7.ne B4.out.2.lt; simpa using this), b6, (K4.out.then0 m7.kept).then1 k6 (Nat.le_trans K4.out.size m7.le)⟩)
  clear m7 k6 b6 B4 K4 b1 K3
  obtain ⟨Z, hZ, hZb, hZr⟩ := run_build_b
  have hZ2 := Lib.hid (And.intro hZ hZr)
  have hZl : Z.length = 32 := by rw [hZ]; rfl
  have hZl2 := Lib.hid hZl
  have hq0 := Lib.hid (show (le 0 32 == Z) = true by rw [hZ, le_zero]; exact beq_self_eq_true _)
  have z1 := fun W => run_eqIn_ab arrB Try.underlying5 (by kernel_rfl) (le 0 32) Z (le_len _ _) hZl W
  rw [hq0.out] at z1
  have hq1 := Lib.hid (show (le (leV b) 32 == b) = true by rw [hlb2.out]; exact beq_self_eq_true _)
  have z2 := fun W => run_eqIn_ab arrB Try.underlying5 (by kernel_rfl) (le (leV b) 32) b (le_len _ _) hL.out.1 W
  rw [hq1.out] at z2
  clear hZ hZr hZl
  cases ok
  · obtain rfl : y = 0 := by
      have h1 := hy2.out; have h2 := hok2.out
      unfold okB at h2; unfold nw at h1
      rw [if_neg (by intro h; rw [decide_eq_true h] at h2; cases h2)] at h1
      exact h1
    have hS := H.out.kept (Kept.refl [] w6).drew
    refine Txt.wp_textG [1, 7, 9, 10, 17, 19, 20] (New3 w g1 g2 g7 b wd 0) [[_, _, _], [_, _, _, _, _, _], [_, _, _, _, _, _, _, _, _, _], [_], [_, _, _]] (by kernel_rfl) (by kernel_rfl) rfl hS (Txt.segs_cons ?_)
    have H := Lib.hid hS
    clear hS
    iterate 4 (go_wp2_with (first
      | (refine wpl_load_arr arrB rfl (.tmp 3) rfl rfl H.out.b hb2.out ?_)
      | (refine wpl_load_row structSc rfl (.tmp 7) rfl rfl H.out.x rfl ?_)
      | (go_at_call 17; refine (hgood.out _).mono ?_; rintro e v ⟨rfl, kk⟩; have H := Lib.hid (H.out.kept kk); clear kk)
      | (go_at_call 10; refine (hash_any _ _).mono ?_; rintro e v ⟨rfl, kk⟩; have H := Lib.hid (H.out.kept kk); clear kk)
      | (refine wpl_build0 rfl rfl hZb ?_)); refine ⟨rfl, H.out, Txt.segs_cons ?_⟩)
    go_wp2_with fail
    refine ⟨rfl, H.out, Txt.segs_nil ⟨⟨by kernel_rfl, ?_⟩, ?_⟩⟩
    · intro j hj o ho hw
      have hj2 : j = 1 ∨ j = 7 ∨ j = 9 ∨ j = 10 ∨ j = 17 ∨ j = 19 ∨ j = 20 := by simpa using hj
      rcases hj2 with rfl | rfl | rfl | rfl | rfl | rfl | rfl <;> cases ho
      · exact ⟨18, rfl, fun u hu => exec_load arrB.row (.tmp 3) rfl rfl hu.b hb2.out⟩
      · exact absurd (hw : Region.wanted _ _ = true) (by rw [show Region.wanted _ _ = false from by kernel_rfl]; simp)
      · exact absurd (hw : Region.wanted _ _ = true) (by rw [show Region.wanted _ _ = false from by kernel_rfl]; simp)
      · exact absurd (hw : Region.wanted _ _ = true) (by rw [show Region.wanted _ _ = false from by kernel_rfl]; simp)
      · exact ⟨34, rfl, fun u hu => exec_load structSc (.tmp 7) rfl rfl hu.x rfl⟩
      · exact ⟨36, rfl, fun u _ => exec_build0 rfl hZ2.out.2⟩
      · exact ⟨37, rfl, fun u _ => (exec_neq_ab arrB Try.underlying5 (by kernel_rfl) (by kernel_rfl) (.tmp 35) (.tmp 36) rfl (xs := le 0 32) (ys := Z) rfl rfl (le_len _ _) hZl2.out).trans (by rw [hq0.out]; rfl)⟩
    go_wp2_with fail
    have H := Lib.hid H.out
    have f1 := Lib.hid (bit_at 0 bit false (bit_zero bit))
    have q := run_eqIn_ab arrB Try.underlying5 (by kernel_rfl) (le X 32) (le X 32) (le_len _ _) (le_len _ _)
    rw [beq_self_eq_true] at q
    refine Txt.wp_textG [0, 6, 11] (New3 w g1 g2 g7 b wd 0) [[_, _, _], [_, _, _, _, _], [_], [_, _], [_, _, _]] (by kernel_rfl) (by kernel_rfl) rfl (H.out.kept (Kept.refl [] _).drew) (Txt.segs_cons ?_)
    have H := Lib.hid (H.out.kept (Kept.refl [] _).drew)
    iterate 4 (go_wp2_with (first
      | (refine wpl_load_row structSc rfl (.tmp 7) rfl rfl H.out.x rfl ?_)
      | (refine wpl_load_arr arrD rfl (.tmp 4) rfl rfl H.out.d hd2.out ?_)
      | (go_at_call 18; refine (f1.out _).mono ?_; rintro e v ⟨rfl, kk⟩; have H := Lib.hid (H.out.kept kk); clear kk)
      | (go_at_call 19; refine (hwide.out _).mono ?_; rintro e v ⟨rfl, kk⟩; have H := Lib.hid (H.out.kept kk); clear kk)
      | (go_at_call 10; refine (hash_any _ _).mono ?_; rintro e v ⟨rfl, kk⟩; have H := Lib.hid (H.out.kept kk); clear kk)
      | (go_at_call 11; refine (hmod.out _ _ H.out.d).mono ?_; rintro e v ⟨rfl, kk⟩; have H := Lib.hid (H.out.kept kk); clear kk)); refine ⟨rfl, H.out, Txt.segs_cons ?_⟩)
    go_wp2_with fail
    refine ⟨rfl, H.out, Txt.segs_nil ⟨⟨by kernel_rfl, ?_⟩, ?_⟩⟩
    · intro j hj o ho hw
      have hj2 : j = 0 ∨ j = 6 ∨ j = 11 := by simpa using hj
      rcases hj2 with rfl | rfl | rfl <;> cases ho
      · exact ⟨59, rfl, fun u hu => exec_load structSc (.tmp 7) rfl rfl hu.x rfl⟩
      · exact ⟨65, rfl, fun u hu => exec_load arrD.row (.tmp 4) rfl rfl hu.d hd2.out⟩
      · exact ⟨70, rfl, fun u _ => (exec_eql_ab arrB Try.underlying5 (by kernel_rfl) (by kernel_rfl) (.tmp 67) (.tmp 69) rfl (xs := le X 32) (ys := le X 32) rfl rfl (le_len _ _) (le_len _ _)).trans (by rw [beq_self_eq_true]; rfl)⟩
    go_wp2_with fail
    go_ret
    exact ⟨rfl, H.out.k⟩
  · obtain rfl : y = leV b := by
      have h1 := hy2.out; have h2 := hok2.out
      unfold okB at h2; unfold nw at h1
      rw [if_pos (of_decide_eq_true h2.symm)] at h1
      exact h1
    have hS := H.out.kept (Kept.refl [] w6).drew
    refine Txt.wp_textG [1, 7, 9, 10, 17, 19, 20] (New3 w g1 g2 g7 b wd (leV b)) [[_, _, _], [_, _, _, _, _, _], [_, _, _, _, _, _, _, _, _, _], [_], [_, _, _]] (by kernel_rfl) (by kernel_rfl) rfl hS (Txt.segs_cons ?_)
    have H := Lib.hid hS
    clear hS
    iterate 4 (go_wp2_with (first
      | (refine wpl_load_arr arrB rfl (.tmp 3) rfl rfl H.out.b hb2.out ?_)
      | (refine wpl_load_row structSc rfl (.tmp 7) rfl rfl H.out.x rfl ?_)
      | (go_at_call 17; refine (hgood.out _).mono ?_; rintro e v ⟨rfl, kk⟩; have H := Lib.hid (H.out.kept kk); clear kk)
      | (go_at_call 10; refine (hash_any _ _).mono ?_; rintro e v ⟨rfl, kk⟩; have H := Lib.hid (H.out.kept kk); clear kk)
      | (refine wpl_build0 rfl rfl hZb ?_)); refine ⟨rfl, H.out, Txt.segs_cons ?_⟩)
    go_wp2_with fail
    refine ⟨rfl, H.out, Txt.segs_nil ⟨⟨by kernel_rfl, ?_⟩, ?_⟩⟩
    · intro j hj o ho hw
      have hj2 : j = 1 ∨ j = 7 ∨ j = 9 ∨ j = 10 ∨ j = 17 ∨ j = 19 ∨ j = 20 := by simpa using hj
      rcases hj2 with rfl | rfl | rfl | rfl | rfl | rfl | rfl <;> cases ho
      · exact ⟨18, rfl, fun u hu => exec_load arrB.row (.tmp 3) rfl rfl hu.b hb2.out⟩
      · exact ⟨24, rfl, fun u hu => exec_load structSc (.tmp 7) rfl rfl hu.x rfl⟩
      · exact ⟨26, rfl, fun u hu => exec_load arrB.row (.tmp 3) rfl rfl hu.b hb2.out⟩
      · exact ⟨27, rfl, fun u _ => (exec_neq_ab arrB Try.underlying5 (by kernel_rfl) (by kernel_rfl) (.tmp 25) (.tmp 26) rfl (xs := le (leV b) 32) (ys := b) rfl rfl (le_len _ _) hL.out.1).trans (by rw [hq1.out]; rfl)⟩
      · exact absurd (hw : Region.wanted _ _ = true) (by rw [show Region.wanted _ _ = false from by kernel_rfl]; simp)
      · exact absurd (hw : Region.wanted _ _ = true) (by rw [show Region.wanted _ _ = false from by kernel_rfl]; simp)
      · exact absurd (hw : Region.wanted _ _ = true) (by rw [show Region.wanted _ _ = false from by kernel_rfl]; simp)
    by_cases h0 : 0 ≤ bit
    · by_cases h1 : bit < 256
      · obtain ⟨k, rfl⟩ : ∃ k : Nat, bit = k := ⟨bit.toNat, by omega⟩
        have hk : k < 256 := by omega
        have hkb : k / 8 < b.length := by have := hL.out.1; omega
        have hbb := Lib.hid (byte_bit2 b k hkb)
        have c1 := H.out.b.bget (k / 8) hkb
        clear h0 h1
        have he : ((b[k / 8].toNat : Int) / (2 : Int) ^ (k % 8)).tmod 2 = ((leV b / 2 ^ k % 2 : Nat) : Int) := by
          have e : ((b[k / 8].toNat : Int) / (2 : Int) ^ (k % 8)) = ((b[k / 8].toNat / 2 ^ (k % 8) : Nat) : Int) := by push_cast; rfl
          rw [e, Int.tmod_eq_emod_of_nonneg (Int.natCast_nonneg _), ← hbb.out]
          rfl
        have hz : leV b / 2 ^ k % 2 = 0 ∨ leV b / 2 ^ k % 2 = 1 := by omega
        rcases hz with hz | hz
        · rw [hz] at he
          have hz2 := Lib.hid hz
          clear hz
          go_wp2_with fail
          have H := Lib.hid H.out
          have f1 := Lib.hid (bit_at (leV b) (k : Int) false (by rw [bitB_nat _ k hk]; exact decide_eq_false (by have := hz2.out; omega)))
          have q := run_eqIn_ab arrB Try.underlying5 (by kernel_rfl) (le X 32) (le X 32) (le_len _ _) (le_len _ _)
          rw [beq_self_eq_true] at q
          refine Txt.wp_textG [0, 6, 11] (New3 w g1 g2 g7 b wd (leV b)) [[_, _, _], [_, _, _, _, _], [_], [_, _], [_, _, _]] (by kernel_rfl) (by kernel_rfl) rfl (H.out.kept (Kept.refl [] _).drew) (Txt.segs_cons ?_)
          have H := Lib.hid (H.out.kept (Kept.refl [] _).drew)
          iterate 4 (go_wp2_with (first
            | (refine wpl_load_row structSc rfl (.tmp 7) rfl rfl H.out.x rfl ?_)
            | (refine wpl_load_arr arrD rfl (.tmp 4) rfl rfl H.out.d hd2.out ?_)
            | (go_at_call 18; refine (f1.out _).mono ?_; rintro e v ⟨rfl, kk⟩; have H := Lib.hid (H.out.kept kk); clear kk)
            | (go_at_call 19; refine (hwide.out _).mono ?_; rintro e v ⟨rfl, kk⟩; have H := Lib.hid (H.out.kept kk); clear kk)
            | (go_at_call 10; refine (hash_any _ _).mono ?_; rintro e v ⟨rfl, kk⟩; have H := Lib.hid (H.out.kept kk); clear kk)
            | (go_at_call 11; refine (hmod.out _ _ H.out.d).mono ?_; rintro e v ⟨rfl, kk⟩; have H := Lib.hid (H.out.kept kk); clear kk)); refine ⟨rfl, H.out, Txt.segs_cons ?_⟩)
          go_wp2_with fail
          refine ⟨rfl, H.out, Txt.segs_nil ⟨⟨by kernel_rfl, ?_⟩, ?_⟩⟩
          · intro j hj o ho hw
            have hj2 : j = 0 ∨ j = 6 ∨ j = 11 := by simpa using hj
            rcases hj2 with rfl | rfl | rfl <;> cases ho
            · exact ⟨59, rfl, fun u hu => exec_load structSc (.tmp 7) rfl rfl hu.x rfl⟩
            · exact ⟨65, rfl, fun u hu => exec_load arrD.row (.tmp 4) rfl rfl hu.d hd2.out⟩
            · exact ⟨70, rfl, fun u _ => (exec_eql_ab arrB Try.underlying5 (by kernel_rfl) (by kernel_rfl) (.tmp 67) (.tmp 69) rfl (xs := le X 32) (ys := le X 32) rfl rfl (le_len _ _) (le_len _ _)).trans (by rw [beq_self_eq_true]; rfl)⟩
          go_wp2_with fail
          go_ret
          exact ⟨rfl, H.out.k⟩
        · rw [hz] at he
          have hz2 := Lib.hid hz
          clear hz
          go_wp2_with fail
          have H := Lib.hid H.out
          have f1 := Lib.hid (bit_at (leV b) (k : Int) true (by rw [bitB_nat _ k hk]; exact decide_eq_true hz2.out))
          have q := run_eqIn_ab arrB Try.underlying5 (by kernel_rfl) (le X 32) (le X 32) (le_len _ _) (le_len _ _)
          rw [beq_self_eq_true] at q
          refine Txt.wp_textG [0, 6, 11] (New3 w g1 g2 g7 b wd (leV b)) [[_, _, _], [_, _, _, _, _], [_], [_, _], [_, _, _]] (by kernel_rfl) (by kernel_rfl) rfl (H.out.kept (Kept.refl [] _).drew) (Txt.segs_cons ?_)
          have H := Lib.hid (H.out.kept (Kept.refl [] _).drew)
          iterate 4 (go_wp2_with (first
            | (refine wpl_load_row structSc rfl (.tmp 7) rfl rfl H.out.x rfl ?_)
            | (refine wpl_load_arr arrD rfl (.tmp 4) rfl rfl H.out.d hd2.out ?_)
            | (go_at_call 18; refine (f1.out _).mono ?_; rintro e v ⟨rfl, kk⟩; have H := Lib.hid (H.out.kept kk); clear kk)
            | (go_at_call 19; refine (hwide.out _).mono ?_; rintro e v ⟨rfl, kk⟩; have H := Lib.hid (H.out.kept kk); clear kk)
            | (go_at_call 10; refine (hash_any _ _).mono ?_; rintro e v ⟨rfl, kk⟩; have H := Lib.hid (H.out.kept kk); clear kk)
            | (go_at_call 11; refine (hmod.out _ _ H.out.d).mono ?_; rintro e v ⟨rfl, kk⟩; have H := Lib.hid (H.out.kept kk); clear kk)); refine ⟨rfl, H.out, Txt.segs_cons ?_⟩)
          go_wp2_with fail
          refine ⟨rfl, H.out, Txt.segs_nil ⟨⟨by kernel_rfl, ?_⟩, ?_⟩⟩
          · intro j hj o ho hw
            have hj2 : j = 0 ∨ j = 6 ∨ j = 11 := by simpa using hj
            rcases hj2 with rfl | rfl | rfl <;> cases ho
            · exact ⟨59, rfl, fun u hu => exec_load structSc (.tmp 7) rfl rfl hu.x rfl⟩
            · exact ⟨65, rfl, fun u hu => exec_load arrD.row (.tmp 4) rfl rfl hu.d hd2.out⟩
            · exact ⟨70, rfl, fun u _ => (exec_eql_ab arrB Try.underlying5 (by kernel_rfl) (by kernel_rfl) (.tmp 67) (.tmp 69) rfl (xs := le X 32) (ys := le X 32) rfl rfl (le_len _ _) (le_len _ _)).trans (by rw [beq_self_eq_true]; rfl)⟩
          go_wp2_with fail
          go_ret
          exact ⟨rfl, H.out.k⟩
      · go_wp2_with fail
        have H := Lib.hid H.out
        have f1 := Lib.hid (bit_at (leV b) bit false (bitB_no _ _ (by omega)))
        have q := run_eqIn_ab arrB Try.underlying5 (by kernel_rfl) (le X 32) (le X 32) (le_len _ _) (le_len _ _)
        rw [beq_self_eq_true] at q
        refine Txt.wp_textG [0, 6, 11] (New3 w g1 g2 g7 b wd (leV b)) [[_, _, _], [_, _, _, _, _], [_], [_, _], [_, _, _]] (by kernel_rfl) (by kernel_rfl) rfl (H.out.kept (Kept.refl [] _).drew) (Txt.segs_cons ?_)
        have H := Lib.hid (H.out.kept (Kept.refl [] _).drew)
        iterate 4 (go_wp2_with (first
          | (refine wpl_load_row structSc rfl (.tmp 7) rfl rfl H.out.x rfl ?_)
          | (refine wpl_load_arr arrD rfl (.tmp 4) rfl rfl H.out.d hd2.out ?_)
          | (go_at_call 18; refine (f1.out _).mono ?_; rintro e v ⟨rfl, kk⟩; have H := Lib.hid (H.out.kept kk); clear kk)
          | (go_at_call 19; refine (hwide.out _).mono ?_; rintro e v ⟨rfl, kk⟩; have H := Lib.hid (H.out.kept kk); clear kk)
          | (go_at_call 10; refine (hash_any _ _).mono ?_; rintro e v ⟨rfl, kk⟩; have H := Lib.hid (H.out.kept kk); clear kk)
          | (go_at_call 11; refine (hmod.out _ _ H.out.d).mono ?_; rintro e v ⟨rfl, kk⟩; have H := Lib.hid (H.out.kept kk); clear kk)); refine ⟨rfl, H.out, Txt.segs_cons ?_⟩)
        go_wp2_with fail
        refine ⟨rfl, H.out, Txt.segs_nil ⟨⟨by kernel_rfl, ?_⟩, ?_⟩⟩
        · intro j hj o ho hw
          have hj2 : j = 0 ∨ j = 6 ∨ j = 11 := by simpa using hj
          rcases hj2 with rfl | rfl | rfl <;> cases ho
          · exact ⟨59, rfl, fun u hu => exec_load structSc (.tmp 7) rfl rfl hu.x rfl⟩
          · exact ⟨65, rfl, fun u hu => exec_load arrD.row (.tmp 4) rfl rfl hu.d hd2.out⟩
          · exact ⟨70, rfl, fun u _ => (exec_eql_ab arrB Try.underlying5 (by kernel_rfl) (by kernel_rfl) (.tmp 67) (.tmp 69) rfl (xs := le X 32) (ys := le X 32) rfl rfl (le_len _ _) (le_len _ _)).trans (by rw [beq_self_eq_true]; rfl)⟩
        go_wp2_with fail
        go_ret
        exact ⟨rfl, H.out.k⟩
    · go_wp2_with fail
      have H := Lib.hid H.out
      have f1 := Lib.hid (bit_at (leV b) bit false (bitB_no _ _ (by omega)))
      have q := run_eqIn_ab arrB Try.underlying5 (by kernel_rfl) (le X 32) (le X 32) (le_len _ _) (le_len _ _)
      rw [beq_self_eq_true] at q
      refine Txt.wp_textG [0, 6, 11] (New3 w g1 g2 g7 b wd (leV b)) [[_, _, _], [_, _, _, _, _], [_], [_, _], [_, _, _]] (by kernel_rfl) (by kernel_rfl) rfl (H.out.kept (Kept.refl [] _).drew) (Txt.segs_cons ?_)
      have H := Lib.hid (H.out.kept (Kept.refl [] _).drew)
      iterate 4 (go_wp2_with (first
        | (refine wpl_load_row structSc rfl (.tmp 7) rfl rfl H.out.x rfl ?_)
        | (refine wpl_load_arr arrD rfl (.tmp 4) rfl rfl H.out.d hd2.out ?_)
        | (go_at_call 18; refine (f1.out _).mono ?_; rintro e v ⟨rfl, kk⟩; have H := Lib.hid (H.out.kept kk); clear kk)
        | (go_at_call 19; refine (hwide.out _).mono ?_; rintro e v ⟨rfl, kk⟩; have H := Lib.hid (H.out.kept kk); clear kk)
        | (go_at_call 10; refine (hash_any _ _).mono ?_; rintro e v ⟨rfl, kk⟩; have H := Lib.hid (H.out.kept kk); clear kk)
        | (go_at_call 11; refine (hmod.out _ _ H.out.d).mono ?_; rintro e v ⟨rfl, kk⟩; have H := Lib.hid (H.out.kept kk); clear kk)); refine ⟨rfl, H.out, Txt.segs_cons ?_⟩)
      go_wp2_with fail
      refine ⟨rfl, H.out, Txt.segs_nil ⟨⟨by kernel_rfl, ?_⟩, ?_⟩⟩
      · intro j hj o ho hw
        have hj2 : j = 0 ∨ j = 6 ∨ j = 11 := by simpa using hj
        rcases hj2 with rfl | rfl | rfl <;> cases ho
        · exact ⟨59, rfl, fun u hu => exec_load structSc (.tmp 7) rfl rfl hu.x rfl⟩
        · exact ⟨65, rfl, fun u hu => exec_load arrD.row (.tmp 4) rfl rfl hu.d hd2.out⟩
        · exact ⟨70, rfl, fun u _ => (exec_eql_ab arrB Try.underlying5 (by kernel_rfl) (by kernel_rfl) (.tmp 67) (.tmp 69) rfl (xs := le X 32) (ys := le X 32) rfl rfl (le_len _ _) (le_len _ _)).trans (by rw [beq_self_eq_true]; rfl)⟩
      go_wp2_with fail
      go_ret
      exact ⟨rfl, H.out.k⟩
end Go.Proofs.Ytfamfdihflkdpaa
