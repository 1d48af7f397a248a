/-
  The document's field: products: the plain law.
  The document's field: products: the walk.
-/
import Derived.Test.YtkflljjcgihaoaaRf6
namespace Go.Proofs.Ytkflljjcgihaoaa
open Go.RowKit Go.Mem Go.Txt

/-- The first m places of row r. -/
def row (a b : Nat → Int) (r m k : Nat) : Int := if r ≤ k ∧ k < r + m then a r * b (k - r) else 0
/-- The first n rows. -/
def rows (a b : Nat → Int) : Nat → Nat → Int
  | 0, _ => 0
  | n + 1, k => rows a b n k + row a b n 16 k
/-- After n rows and m places of the next. -/
def tS (a b : Nat → Int) (n m k : Nat) : Int := rows a b n k + row a b n m k
theorem tS_zero (a b : Nat → Int) (k : Nat) : tS a b 0 0 k = 0 := by
  unfold tS row
  rw [if_neg (by omega)]; rfl
theorem tS_next (a b : Nat → Int) (n k : Nat) : tS a b (n + 1) 0 k = tS a b n 16 k := by
  unfold tS
  rw [show row a b (n + 1) 0 k = 0 from by unfold row; rw [if_neg (by omega)], show rows a b (n + 1) k = rows a b n k + row a b n 16 k from rfl]
  omega
theorem tS_step (a b : Nat → Int) (n m k : Nat) : tS a b n (m + 1) k = if k = n + m then tS a b n m (n + m) + a n * b m else tS a b n m k := by
  unfold tS row
  by_cases h : k = n + m
  · subst h
    rw [if_pos rfl, if_pos (by omega), if_neg (by omega), show n + m - n = m from by omega]
    omega
  · rw [if_neg h]
    by_cases h2 : n ≤ k ∧ k < n + m
    · rw [if_pos h2, if_pos (by omega)]
    · rw [if_neg h2, if_neg (by omega)]
theorem mul_bound {x y M : Int} (hx : -M ≤ x ∧ x ≤ M) (hy : -M ≤ y ∧ y ≤ M) : -(M * M) ≤ x * y ∧ x * y ≤ M * M := by
  have h1 : 0 ≤ (M - x) * (M - y) := Int.mul_nonneg (by omega) (by omega)
  have h2 : 0 ≤ (M + x) * (M + y) := Int.mul_nonneg (by omega) (by omega)
  have h3 : 0 ≤ (M - x) * (M + y) := Int.mul_nonneg (by omega) (by omega)
  have h4 : 0 ≤ (M + x) * (M - y) := Int.mul_nonneg (by omega) (by omega)
  constructor <;> grind
theorem row_bound {a b : Nat → Int} (ha : Sm 280000 a) (hb : Sm 280000 b) (r m k : Nat) (hr : r < 16) (hm : m ≤ 16) : -78400000000 ≤ row a b r m k ∧ row a b r m k ≤ 78400000000 := by
  unfold row
  split
  · have := mul_bound (ha r hr) (hb (k - r) (by omega))
    omega
  · omega
theorem rows_bound {a b : Nat → Int} (ha : Sm 280000 a) (hb : Sm 280000 b) (k : Nat) : ∀ n : Nat, n ≤ 16 → -(78400000000 * (n : Int)) ≤ rows a b n k ∧ rows a b n k ≤ 78400000000 * (n : Int)
  | 0, _ => by simp [rows]
  | n + 1, h => by
    have h1 := rows_bound ha hb k n (by omega)
    have h2 := row_bound ha hb n 16 k (by omega) (by omega)
    simp only [rows]
    omega
theorem tS_bound {a b : Nat → Int} (ha : Sm 280000 a) (hb : Sm 280000 b) (n m k : Nat) (hn : n < 16) (hm : m ≤ 16) : -1332800000000 ≤ tS a b n m k ∧ tS a b n m k ≤ 1332800000000 := by
  have h1 := rows_bound ha hb k n (by omega)
  have h2 := row_bound ha hb n m k hn hm
  unfold tS
  omega
/-- The product's digits, what lies above turned down. -/
def pr16 (a b : Nat → Int) (i : Nat) : Int := if i < 15 then rows a b 16 i + 38 * rows a b 16 (i + 16) else rows a b 16 i
theorem pr16_sm {a b : Nat → Int} (ha : Sm 280000 a) (hb : Sm 280000 b) : Sm 50000000000000 (pr16 a b) := fun i _ => by
  have h1 := rows_bound ha hb i 16 (by omega)
  have h2 := rows_bound ha hb (i + 16) 16 (by omega)
  unfold pr16
  split <;> omega
theorem dv_smul (c : Int) (b : Nat → Int) : ∀ n, dv (fun i => c * b i) n = c * dv b n
  | 0 => by simp [dv]
  | n + 1 => by rw [dv, dv, dv_smul c b n]; grind
theorem dv_plus (a b : Nat → Int) (n : Nat) : dv (fun i => a i + b i) n = dv a n + dv b n := dv_add a b n
theorem dv_nil : ∀ (n : Nat) (f : Nat → Int), (∀ i, i < n → f i = 0) → dv f n = 0
  | 0, _, _ => rfl
  | n + 1, f, h => by rw [dv, dv_nil n f fun i hi => h i (by omega), h n (by omega)]; simp
theorem dv_row (a b : Nat → Int) (r : Nat) (h : r < 16) : dv (row a b r 16) 31 = a r * 65536 ^ r * dv b 16 := by
  rw [show (31 : Nat) = r + (16 + (15 - r)) from by omega, dv_split (row a b r 16) r (16 + (15 - r)), dv_nil r _ fun i hi => by unfold row; rw [if_neg (by omega)], dv_split (fun j => row a b r 16 (r + j)) 16 (15 - r), dv_nil (15 - r) _ fun i _ => by unfold row; rw [if_neg (by omega)]]
  have e : dv (fun j => row a b r 16 (r + j)) 16 = dv (fun j => a r * b j) 16 := dv_ext 16 fun i hi => by unfold row; rw [if_pos (by omega), show r + i - r = i from by omega]
  rw [e, dv_smul]
  grind
theorem dv_rows (a b : Nat → Int) : ∀ n, n ≤ 16 → dv (rows a b n) 31 = dv a n * dv b 16
  | 0, _ => by rw [dv_nil 31 (rows a b 0) fun _ _ => rfl]; simp [dv]
  | n + 1, h => by
    rw [show rows a b (n + 1) = fun k => rows a b n k + row a b n 16 k from rfl, dv_plus, dv_rows a b n (by omega), dv_row a b n (by omega), show dv a (n + 1) = dv a n + a n * 65536 ^ n from rfl]
    generalize dv b 16 = B
    grind
theorem dv_pr16 (a b : Nat → Int) : dv (pr16 a b) 16 % PZ = dv a 16 * dv b 16 % PZ := by
  have h := dv_rows a b 16 (Nat.le_refl _)
  have hs := dv_split (rows a b 16) 16 15
  rw [show (16 + 15 : Nat) = 31 from rfl, h, B16_eq] at hs
  have e : dv (pr16 a b) 16 = dv (rows a b 16) 16 + 38 * dv (fun j => rows a b 16 (16 + j)) 15 := by
    have e1 : dv (pr16 a b) 15 = dv (rows a b 16) 15 + 38 * dv (fun j => rows a b 16 (16 + j)) 15 := by
      rw [← dv_smul, ← dv_plus]
      exact dv_ext 15 fun i hi => by unfold pr16; rw [if_pos hi, Nat.add_comm i 16]
    rw [show dv (pr16 a b) 16 = dv (pr16 a b) 15 + pr16 a b 15 * 65536 ^ 15 from rfl, e1, show pr16 a b 15 = rows a b 16 15 from by unfold pr16; rw [if_neg (by omega)], show dv (rows a b 16) 16 = dv (rows a b 16) 15 + rows a b 16 15 * 65536 ^ 15 from rfl]
    omega
  rw [e, hs]
  generalize dv (fun j => rows a b 16 (16 + j)) 15 = q
  rw [show dv (rows a b 16) 16 + B16 * q = dv (rows a b 16) 16 + 38 * q + PZ * (2 * q) from by rw [B16_PZ]; grind, Int.add_mul_emod_self_left]
/-- The product. -/
def muN (a b : Nat → Int) : Nat → Int := cy (cy (pr16 a b))
theorem cy2_sm {d : Nat → Int} (h : Sm 4611686018427387904 d) : Sm 70000 (cy (cy d)) := by
  have hv := cy_value (cy_small h) (fun i hi _ => cy_dg d i hi)
  have hc := dv_carry (cy d) 15
  have hb := dv_nat (cr (cy d)) (cr_bound _) 16
  rw [B16_eq] at hb hc
  have hq : -1 ≤ cq (cy d) 15 ∧ cq (cy d) 15 ≤ 1 := by
    have hc2 : dv (cy d) 16 = dv (cr (cy d)) 16 + cq (cy d) 15 * B16 := hc
    unfold B16 at *
    omega
  intro i _
  have h0 := cr_bound (cy d) 0
  have h1 := cr_bound (cy d) i
  rw [show cy (cy d) i = if i = 0 then cr (cy d) 0 + 38 * cq (cy d) 15 else cr (cy d) i from rfl]
  split <;> omega
theorem cy_mod (d : Nat → Int) : dv (cy d) 16 % PZ = dv d 16 % PZ := by rw [dv_cy, ← wr38, wr38_mod]
theorem muN_smB {a b : Nat → Int} (ha : Sm 280000 a) (hb : Sm 280000 b) : Sm 70000 (muN a b) := cy2_sm ((pr16_sm ha hb).le (by omega))
theorem muN_sm {a b : Nat → Int} (ha : Sm 70000 a) (hb : Sm 70000 b) : Sm 70000 (muN a b) := muN_smB (ha.le (by omega)) (hb.le (by omega))
theorem muN_val (a b : Nat → Int) : dv (muN a b) 16 % PZ = dv a 16 * dv b 16 % PZ := by
  unfold muN
  rw [cy_mod, cy_mod, dv_pr16]
end Go.Proofs.Ytkflljjcgihaoaa

namespace Go.Proofs.Ytkflljjcgihaoaa
open Go.RowKit Go.Mem Go.Txt

theorem zeroT : (Try.prog.info? 104).map (·.zero) = some (some (.agg (iv (fam 31 zd)).toArray)) := by kernel_rfl
abbrev Tb (u : World) (g : Nat) (d : Nat → Int) : Prop := Blk u g 104 (iv (fam 31 d)).toArray
theorem Tb.get {u : World} {g : Nat} {d : Nat → Int} (h : Tb u g d) (i : Nat) (hi : i < 31) : u.cell? ⟨g, i, none⟩ = some (.int .i64 (d i)) := Blk.fget (v := fun z : Int => Value.int .i64 z) h i hi
theorem Tb.same {u : World} {g : Nat} {d e : Nat → Int} (h : Tb u g d) (he : ∀ i, i < 31 → d i = e i) : Tb u g e := by
  have := fam_ext 31 he
  unfold Tb at h ⊢
  rwa [this] at h
theorem Tb.step {u : World} {g : Nat} {a b : Nat → Int} {n m : Nat} (h : Tb u g (tS a b n m)) : Tb (u.setCell ⟨g, n + m, none⟩ (.int .i64 (tS a b n m (n + m) + a n * b m))) g (tS a b n (m + 1)) :=
  Tb.same (Blk.fset (v := fun z : Int => Value.int .i64 z) h (n + m) _) fun i _ => (tS_step a b n m i).symm

/-- What lies in memory. -/
structure Mu (w0 : World) (g2 g3 g4 g5 : Nat) (a b T : Nat → Int) (u : World) : Prop where
  a : Nb u g2 a
  b : Nb u g3 b
  r : Nb u g4 zd
  t : Tb u g5 T
  k : Kept [] w0 u
structure Mu5 (w0 : World) (g2 g3 g4 g5 : Nat) : Prop where
  n2 : g2 ≠ g5
  n3 : g3 ≠ g5
  n4 : g4 ≠ g5
  l4 : w0.heap.size ≤ g4
  l5 : w0.heap.size ≤ g5
theorem Mu.kept {w0 : World} {g2 g3 g4 g5 : Nat} {a b T : Nat → Int} {u u' : World} (h : Mu w0 g2 g3 g4 g5 a b T u) (hk : Kept [] u u') : Mu w0 g2 g3 g4 g5 a b T u' :=
  ⟨Blk.kept h.a hk (by simp), Blk.kept h.b hk (by simp), Blk.kept h.r hk (by simp), Blk.kept h.t hk (by simp), h.k.then0 hk⟩
theorem Mu.put {w0 : World} {g2 g3 g4 g5 : Nat} {a b T T' : Nat → Int} {u u' : World} (h : Mu w0 g2 g3 g4 g5 a b T u) (n : Mu5 w0 g2 g3 g4 g5) (ht : Tb u' g5 T') (hk : Kept [g5] u u') : Mu w0 g2 g3 g4 g5 a b T' u' :=
  ⟨Blk.kept h.a hk (by simpa using n.n2), Blk.kept h.b hk (by simpa using n.n3), Blk.kept h.r hk (by simpa using n.n4), ht, h.k.then1 hk n.l5⟩
theorem Mu.drew {w0 : World} {g2 g3 g4 g5 : Nat} {a b T : Nat → Int} {u : World} (h : Mu w0 g2 g3 g4 g5 a b T u) : Mu w0 g2 g3 g4 g5 a b T u.drew := ⟨h.a, h.b, h.r, h.t, h.k.drew⟩
theorem Mu.same {w0 : World} {g2 g3 g4 g5 : Nat} {a b T T' : Nat → Int} {u : World} (h : Mu w0 g2 g3 g4 g5 a b T u) (he : ∀ i, i < 31 → T i = T' i) : Mu w0 g2 g3 g4 g5 a b T' u := ⟨h.a, h.b, h.r, Tb.same h.t he, h.k⟩
theorem pr_step1 {u : World} {g : Nat} {a b : Nat → Int} {k : Nat} (h : Nb u g (mix zd (pr16 a b) k)) : Nb ((u.setCell ⟨g, k, none⟩ (.int .i64 (rows a b 16 k))).setCell ⟨g, k, none⟩ (.int .i64 (pr16 a b k))) g (mix zd (pr16 a b) (k + 1)) := ((h.set k _).set k _).same fun i _ => by
  unfold mix
  by_cases e : i = k
  · rw [if_pos e, if_pos (by omega), e]
  · rw [if_neg e, if_neg e]
    by_cases h : i < k
    · rw [if_pos h, if_pos (by omega)]
    · rw [if_neg h, if_neg (by omega)]
theorem pr_step2 {u : World} {g : Nat} {a b : Nat → Int} (h : Nb u g (mix zd (pr16 a b) 15)) : Nb (u.setCell ⟨g, 15, none⟩ (.int .i64 (rows a b 16 15))) g (mix zd (pr16 a b) 16) :=
  Blk.fstep (v := fun z : Int => Value.int .i64 z) h

set_option maxRecDepth 100000 in
set_option maxHeartbeats 4000000 in
theorem rmul_big (a b : Nat → Int) (ha : Sm 280000 a) (hb : Sm 280000 b) (w : World) :
    Calls Try.prog 46 #[nu a, nu b] w fun e w' => e = .returned (nu (muN a b)) ∧ Kept [] w w' := by
  have hp := pr16_sm ha hb
  have c1 := Lib.hid (carry_any (pr16 a b) (hp.le (by omega)))
  have c2 := Lib.hid (carry_any (cy (pr16 a b)) ((cy_small (hp.le (by omega))).le (by omega)))
  have ha2 := Lib.hid ha
  have hb2 := Lib.hid hb
  clear ha hb hp
  go_enter Try.func46, Try.ntmps46
  go_wp2_with (first
    | ((with_reducible refine wpl_box (o := ⟨some 2, _, _, _, _, _⟩) (v := nu a) rfl (.tmp 0) rfl rfl ?_); intro g2 w2 m2)
    | ((with_reducible refine wpl_box (o := ⟨some 3, _, _, _, _, _⟩) (v := nu b) rfl (.tmp 1) rfl rfl ?_); intro g3 w3 m3)
    | ((with_reducible refine wpl_new (o := ⟨some 4, _, _, _, _, _⟩) rfl rfl zeroN ?_); intro g4 w4 m4)
    | ((with_reducible refine wpl_new (o := ⟨some 5, _, _, _, _, _⟩) rfl rfl zeroT ?_); intro g5 w5 m5))
  have K3 := m2.kept.then0 m3.kept
  have N := Lib.hid (show Mu5 w g2 g3 g4 g5 from ⟨m5.ne (((m2.blk.kept m3.kept (by simp)).kept m4.kept (by simp)).lt), m5.ne ((m3.blk.kept m4.kept (by simp)).lt), m5.ne m4.blk.lt, Nat.le_trans K3.size m4.le, Nat.le_trans (K3.then0 m4.kept).size m5.le⟩)
  have H0 := Lib.hid (show Mu w g2 g3 g4 g5 a b (tS a b 0 0) w5 from ⟨((m2.blk.kept m3.kept (by simp)).kept m4.kept (by simp)).kept m5.kept (by simp), (m3.blk.kept m4.kept (by simp)).kept m5.kept (by simp), m4.blk.kept m5.kept (by simp), Tb.same (d := zd) m5.blk fun i _ => (tS_zero a b i).symm, (K3.then0 m4.kept).then0 m5.kept⟩)
  clear m2 m3 m4 m5 K3
  go_loopg [6] 16 (fun f i wk => ∃ n : Nat, n ≤ 16 ∧ f + n = 16 ∧ i = .int .i64 n ∧ Mu w g2 g3 g4 g5 a b (tS a b n 0) wk)
  case atStart => exact ⟨0, Nat.zero_le _, rfl, rfl, H0.out⟩
  case round =>
    obtain ⟨n, hn, hf, rfl, hb⟩ := hrel
    have H := Lib.hid hb
    clear hb
    by_cases hlt : n < 16
    · go_wp2_with fail
      go_loopg [7] 16 (fun f i wk => ∃ m : Nat, m ≤ 16 ∧ f + m = 16 ∧ i = .int .i64 (m : Int) ∧ Mu w g2 g3 g4 g5 a b (tS a b n m) wk)
      case atStart => exact ⟨0, Nat.zero_le _, rfl, rfl, H.out⟩
      case round =>
        obtain ⟨m, hm, hf2, rfl, hb⟩ := hrel
        have H2 := Lib.hid hb
        clear hb
        by_cases hlt2 : m < 16
        · have ca := Nb.get H2.out.a n hlt
          have cb := Nb.get H2.out.b m hlt2
          have ct := Tb.get H2.out.t (n + m) (by omega)
          have z0 := Blk.frozen H2.out.t (n + m)
          have bp := mul_bound (ha2.out n hlt) (hb2.out m hlt2)
          have bt := tS_bound ha2.out hb2.out n m (n + m) hlt (by omega)
          have F := Lib.hid (H2.out.put N.out (Tb.step H2.out.t) ((Kept.refl [g5] wr).setCell (p := ⟨g5, n + m, none⟩) (.inl (by simp)) _))
          have ba := ha2.out n hlt
          have bb := hb2.out m hlt2
          obtain ⟨pv, hpv⟩ : ∃ x, x = a n * b m := ⟨_, rfl⟩
          rw [← hpv] at bp F
          replace hpv := hpv.symm
          generalize tS a b n m (n + m) = tv at *
          generalize a n = av at *
          generalize b m = bv2 at *
          obtain ⟨bp1, bp2⟩ := bp
          obtain ⟨bt1, bt2⟩ := bt
          obtain ⟨ba1, ba2⟩ := ba
          obtain ⟨bb1, bb2⟩ := bb
          go_wp2_with fail
          refine Txt.wp_text (by kernel_rfl) (by kernel_rfl) ?_
          go_wp2_with fail
          refine ⟨rfl, by kernel_rfl, ?_⟩
          go_wp2_with fail
          go_roundg (16 - (m + 1))
          case measure => omega
          case rel => exact ⟨m + 1, by omega, by omega, by go_num, F.out.drew⟩
        · obtain rfl : m = 16 := by omega
          go_wp2_with fail
          go_roundg (16 - (n + 1))
          case measure => omega
          case rel => exact ⟨n + 1, by omega, by omega, by go_num, H2.out.same fun i _ => (tS_next a b n i).symm⟩
    · obtain rfl : n = 16 := by omega
      go_wp2_with ((with_reducible refine wpl_new (o := ⟨some 8, _, _, _, _, _⟩) rfl rfl zeroN ?_); intro g8 w8 m8)
      have T := Lib.hid (show Tb w8 g5 (rows a b 16) from Tb.same (H.out.kept m8.kept).t fun i _ => by unfold tS row; rw [if_neg (by omega)]; omega)
      have R4 := Lib.hid (H.out.kept m8.kept).r
      have D := Lib.hid (show g5 ≠ g8 ∧ g4 ≠ g8 ∧ w.heap.size ≤ g8 ∧ Kept [] w w8 from ⟨m8.ne (Blk.lt H.out.t), m8.ne (Blk.lt H.out.r), Nat.le_trans H.out.k.size m8.le, (H.out.kept m8.kept).k⟩)
      have H8 := Lib.hid (show Nb w8 g8 (mix zd (pr16 a b) 0) from by unfold Nb; rw [mix_zero]; exact m8.blk)
      clear m8 H
      go_loopg [9] 16 (fun f i wk => ∃ k : Nat, k ≤ 16 ∧ f + k = 16 ∧ i = .int .i64 k ∧ Nb wk g8 (mix zd (pr16 a b) k) ∧ Kept [g8] w8 wk)
      case atStart => exact ⟨0, Nat.zero_le _, rfl, rfl, H8.out, Kept.refl _ _⟩
      case round =>
        obtain ⟨k, hk, hf3, rfl, hb, hkw⟩ := hrel
        have H := Lib.hid hb
        have HK := Lib.hid hkw
        clear hb hkw
        have b1 := rows_bound ha2.out hb2.out k 16 (by omega)
        have b2 := rows_bound ha2.out hb2.out (k + 16) 16 (by omega)
        obtain ⟨b11, b12⟩ := b1
        obtain ⟨b21, b22⟩ := b2
        have b11 : -1254400000000 ≤ rows a b 16 k := by omega
        have b12 : rows a b 16 k ≤ 1254400000000 := by omega
        have b21 : -1254400000000 ≤ rows a b 16 (k + 16) := by omega
        have b22 : rows a b 16 (k + 16) ≤ 1254400000000 := by omega
        by_cases hlt3 : k < 15
        · have c1 := Tb.get (T.out.kept HK.out (by simpa using D.out.1)) k (by omega)
          have e0 := H.out.get k (by omega)
          have z0 := Blk.frozen H.out k
          have HS := Lib.hid (H.out.set k (rows a b 16 k))
          have HSK := Lib.hid (HK.out.setCell (p := ⟨g8, k, none⟩) (.inl (by simp)) (Value.int .i64 (rows a b 16 k)))
          have c2 := Tb.get (T.out.kept HSK.out (by simpa using D.out.1)) (k + 16) (by omega)
          have c3 := HS.out.get k (by omega)
          rw [if_pos rfl] at c3
          have z1 := Blk.frozen HS.out k
          have F := Lib.hid (pr_step1 H.out)
          have FK := Lib.hid (HSK.out.setCell (p := ⟨g8, k, none⟩) (.inl (by simp)) (Value.int .i64 (pr16 a b k)))
          rw [show pr16 a b k = rows a b 16 k + 38 * rows a b 16 (k + 16) from if_pos hlt3] at F FK
          clear HS HSK
          generalize rows a b 16 k = x at *
          generalize rows a b 16 (k + 16) = y at *
          go_wp2_with fail
          refine Txt.wp_text (by kernel_rfl) (by kernel_rfl) ?_
          go_wp2_with fail
          refine ⟨rfl, by kernel_rfl, ?_⟩
          go_wp2_with fail
          go_roundg (16 - (k + 1))
          case measure => omega
          case rel => exact ⟨k + 1, by omega, by omega, by go_num, Blk.drew F.out, FK.out.drew⟩
        · by_cases hlt4 : k < 16
          · obtain rfl : k = 15 := by omega
            have c1 := Tb.get (T.out.kept HK.out (by simpa using D.out.1)) 15 (by omega)
            have e0 := H.out.get 15 (by omega)
            have z0 := Blk.frozen H.out 15
            have F := Lib.hid (pr_step2 H.out)
            have FK := Lib.hid (HK.out.setCell (p := ⟨g8, 15, none⟩) (.inl (by simp)) (Value.int .i64 (rows a b 16 15)))
            generalize rows a b 16 15 = x at *
            go_wp2_with fail
            go_roundg (16 - (15 + 1))
            case measure => omega
            case rel => exact ⟨15 + 1, by omega, by omega, by go_num, F.out, FK.out⟩
          · obtain rfl : k = 16 := by omega
            have F := Lib.hid (show Nb wr g8 (pr16 a b) from by have := H.out; unfold Nb at this; rwa [mix_full] at this)
            have R := Lib.hid (show Nb wr g4 zd from Blk.kept R4.out HK.out (by simpa using D.out.2.1))
            have K := Lib.hid (D.out.2.2.2.then1 HK.out D.out.2.2.1)
            clear b11 b12 b21 b22
            go_wp2_with (first
              | (with_reducible refine wpl_load_row (o := ⟨some 53, _, _, _, _, _⟩) arrN.row rfl (.tmp 8) rfl rfl F.out rfl ?_)
              | (go_at_call 77; (with_reducible refine (c1.out _).mono ?_); rintro e x1 ⟨rfl, kk1⟩)
              | (go_at_call 77; (with_reducible refine (c2.out _).mono ?_); rintro e x2 ⟨rfl, kk2⟩)
              | ((with_reducible refine wpl_store_row (o := ⟨none, .store 34 (.tmp 4) (.tmp 55), _, _, _, _⟩) arrN.row rfl (.tmp 4) (.tmp 55) rfl rfl rfl (Blk.kept (Blk.kept R.out kk1 (by simp)) kk2 (by simp)) rfl rfl (one_nu _) ?_); intro v2 b2 k2))
            exact ret_row arrN.row rfl rfl b2 rfl rfl ⟨rfl, ((K.out.then0 kk1).then0 kk2).then1 k2 N.out.l4⟩
theorem rmul_any (a b : Nat → Int) (ha : Sm 70000 a) (hb : Sm 70000 b) (w : World) :
    Calls Try.prog 46 #[nu a, nu b] w fun e w' => e = .returned (nu (muN a b)) ∧ Kept [] w w' := rmul_big a b (ha.le (by omega)) (hb.le (by omega)) w
end Go.Proofs.Ytkflljjcgihaoaa
