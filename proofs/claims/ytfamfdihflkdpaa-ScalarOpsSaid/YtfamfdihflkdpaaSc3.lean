/-
  Scalars: a long number modulo L.
-/
import Derived.Test.YtfamfdihflkdpaaSc2
namespace Go.Proofs.Ytfamfdihflkdpaa
open Go.RowKit Go.Mem

/-- The number of words. -/
def val : List Nat → Nat
  | [] => 0
  | a :: l => a + 18446744073709551616 * val l
theorem val_lt : ∀ (l : List Nat), (∀ z ∈ l, z < 18446744073709551616) → val l < 2 ^ (64 * l.length)
  | [], _ => by simp [val]
  | a :: l, h => by
    have h1 := val_lt l (fun z hz => h z (List.mem_cons_of_mem _ hz))
    have h2 := h a (by simp)
    simp only [val, List.length_cons]
    rw [show 64 * (l.length + 1) = 64 + 64 * l.length from by omega, Nat.pow_add]
    generalize 2 ^ (64 * l.length) = Q at *
    omega
theorem val_word : ∀ (l : List Nat) (i : Nat) (_ : ∀ z ∈ l, z < 18446744073709551616) (h : i < l.length), val l / 2 ^ (64 * i) % 18446744073709551616 = l[i]
  | a :: l, 0, hz, _ => by
    have h2 := hz a (by simp)
    simp only [val, List.getElem_cons_zero, Nat.mul_zero, Nat.pow_zero, Nat.div_one]
    omega
  | a :: l, i + 1, hz, h => by
    have h1 := val_word l i (fun z hh => hz z (List.mem_cons_of_mem _ hh)) (by simpa using h)
    have h2 := hz a (by simp)
    simp only [val, List.getElem_cons_succ]
    rw [← h1, show 64 * (i + 1) = 64 + 64 * i from by omega, Nat.pow_add, ← Nat.div_div_eq_div_mul]
    congr 2
    show (a + 18446744073709551616 * val l) / 18446744073709551616 = val l
    omega
/-- A bit of a word is a bit of the number. -/
theorem val_bit (l : List Nat) (i k : Nat) (hz : ∀ z ∈ l, z < 18446744073709551616) (h : i < l.length) (hk : k < 64) : l[i] / 2 ^ k % 2 = val l / 2 ^ (64 * i + k) % 2 := by
  rw [← val_word l i hz h, Nat.pow_add, ← Nat.div_div_eq_div_mul]
  generalize val l / 2 ^ (64 * i) = V
  have e : 18446744073709551616 = 2 ^ k * 2 ^ (64 - k) := by rw [← Nat.pow_add, show k + (64 - k) = 64 from by omega]
  rw [e, Nat.mod_mul_right_div_self, show 64 - k = 1 + (63 - k) from by omega, Nat.pow_add, Nat.pow_one, Nat.mod_mul_right_mod]

/-- The carry of a doubling. -/
def dc (x c j : Nat) : Nat := (2 * (x % 2 ^ (64 * j)) + c) / 2 ^ (64 * j)
theorem dc_zero (x c : Nat) : dc x c 0 = c := by simp [dc, Nat.mod_one]
theorem dc_step (x c j : Nat) (hj : j < 4) (hc : c ≤ 1) : wrd x j / 9223372036854775808 = dc x c (j + 1) ∧ dc x c j ≤ 1 ∧ wrd x j * 2 % 18446744073709551616 + dc x c j = wrd (2 * x + c) j := by
  rcases four hj with rfl | rfl | rfl | rfl
  · simp only [dc, wrd0, two0, two1]
    omega
  · simp only [dc, wrd1, two1, two2]
    omega
  · simp only [dc, wrd2, two2, two3]
    omega
  · simp only [dc, wrd3, two3, two4]
    omega
theorem or_even (a c : Nat) (ha : a < 18446744073709551616) (hc : c ≤ 1) : bits .or .u64 (IntKind.u64.wrap ((a : Int) * 2)) (c : Int) = ((a * 2 % 18446744073709551616 + c : Nat) : Int) := by
  have e1 : IntKind.u64.wrap ((a : Int) * 2) = ((a * 2 % 18446744073709551616 : Nat) : Int) := by rw [IntKind.wrap_u64]; omega
  rw [e1, bits_or_u64_nat _ _ (by omega) (by omega)]
  have h2 : a * 2 % 18446744073709551616 = 2 ^ 1 * (a % 9223372036854775808) := by omega
  rw [h2]
  congr 1
  exact (Nat.two_pow_add_eq_or_of_lt (i := 1) (b := c) (by omega) _).symm

/-- The words while they are doubled. -/
def qw (x y j : Nat) : List Nat := over (ws4 x) 0 ((ws4 y).take j)
theorem qw_len (x y k : Nat) : (qw x y k).length = 4 := by unfold qw; rw [over_len _ _ _ (by simp [ws4_len]; omega)]; rfl
theorem qw0 (x y : Nat) : qw x y 0 = ws4 x := rfl
theorem qw4 (x y : Nat) : qw x y 4 = ws4 y := rfl
theorem qw_step {w : World} {g : Nat} {bt : TypeId} (x y k : Nat) (hk : k < 4) (h : Blk w g bt (uv (qw x y k)).toArray) : Blk (w.setCell ⟨g, k, none⟩ (.int .u64 (wrd y k : Nat))) g bt (uv (qw x y (k + 1))).toArray := by
  have := h.set_ k (.int .u64 (wrd y k : Nat))
  have e := over_stepM (fun z : Nat => Value.int .u64 (z : Int)) (ws4 x) (ws4 y) k hk (Nat.le_refl 4)
  rw [ws4_get y k hk] at e
  unfold qw at this ⊢
  rwa [e] at this
theorem qw_cell {w : World} {g : Nat} {bt : TypeId} (x y k : Nat) (hk : k < 4) (h : Blk w g bt (uv (qw x y k)).toArray) : w.cell? ⟨g, k, none⟩ = some (.int .u64 (wrd x k : Nat)) := by
  rw [h.cell]
  rcases four hk with rfl | rfl | rfl | rfl <;> rfl

theorem long_step (V p : Nat) : (2 * (V / 2 ^ (p + 1) % LL) + V / 2 ^ p % 2) % LL = V / 2 ^ p % LL := by
  rw [Nat.pow_succ, ← Nat.div_div_eq_div_mul]
  generalize V / 2 ^ p = U
  have h : 2 * (U / 2 % LL) + U % 2 = (2 * (U / 2) + U % 2) - 2 * LL * (U / 2 / LL) := by
    have := Nat.div_add_mod (U / 2) LL
    have e : 2 * LL * (U / 2 / LL) = 2 * (LL * (U / 2 / LL)) := by rw [Nat.mul_assoc]
    omega
  rw [Nat.add_mod, Nat.mul_mod, Nat.mod_mod, ← Nat.mul_mod, ← Nat.add_mod]
  congr 1
  omega

theorem zeroSc : (Try.prog.info? 27).map (·.zero) = some (some (.agg #[.int .u64 0, .int .u64 0, .int .u64 0, .int .u64 0])) := by kernel_rfl
theorem structSc : RowT Try.prog 27 4 := ⟨⟨_, Try.underlying27, rfl⟩, by kernel_rfl⟩
theorem built_sc (x : Nat) : Try.prog.built 27 [(0, w4 x)] = some (uv (ws4 x)).toArray := by kernel_rfl
theorem zeroW4 : (Value.agg #[.int .u64 0, .int .u64 0, .int .u64 0, .int .u64 0]) = w4 0 := rfl

theorem two_lt {X c : Nat} (h : X < LL) (hc : c ≤ 1) : 2 * X + c < M4 := by
  have : 2 * LL < M4 := by decide +kernel
  omega
theorem LL_pos : 0 < LL := by decide +kernel
theorem and_bit (a k : Nat) (ha : a < 18446744073709551616) : bits .and .u64 ((a : Int) / 2 ^ k) 1 = ((a / 2 ^ k % 2 : Nat) : Int) := by
  have e : ((a : Int) / 2 ^ k) = ((a / 2 ^ k : Nat) : Int) := by simp
  have h := bits_and_u64_nat (a / 2 ^ k) 1 (Nat.lt_of_le_of_lt (Nat.div_le_self _ _) ha) (by omega)
  rw [e]
  simpa [Nat.and_one_is_mod] using h
theorem far_blk {w W : World} {xb xo c g n : Nat} {l l' : List Value} (_ : Rd W 1 (.slice (some ⟨xb, xo, none⟩) n c) n l') (hn : 0 < n) (h : Rd w 1 (.slice (some ⟨xb, xo, none⟩) n c) n l) (hg : w.heap.size ≤ g) : xb ∉ [g] := by
  obtain ⟨b, hb, hlt⟩ := h.lt (by omega) hn
  cases hb
  have hlt : xb < w.heap.size := hlt
  simp
  omega

set_option maxHeartbeats 800000 in
theorem long_any (v : Value) (ws : List Nat) (w : World) (hr : Rd w 1 v ws.length (uv ws)) (hz : ∀ z ∈ ws, z < 18446744073709551616) (hl : ws.length ≤ 1000000) :
    Calls Try.prog 25 #[v] w fun e w' => e = .returned (w4 (val ws % LL)) ∧ Kept [] w w' := by
  have hr2 := Lib.hid hr
  have hz2 := Lib.hid hz
  obtain ⟨A, c, rfl, _, _, _⟩ := hr
  clear hz
  go_enter Try.func25, Try.ntmps25
  go_wp2_with (first
    | ((with_reducible refine wpl_new (o := ⟨some 2, _, _, _, _, _⟩) rfl rfl zeroSc ?_); intro g2 w2 m2)
    | ((with_reducible refine wpl_new (o := ⟨some 3, _, _, _, _, _⟩) rfl rfl zeroW ?_); intro g3 w3 m3))
  have n23 := Lib.hid (m3.ne m2.blk.lt)
  have kw := Lib.hid (m2.kept.then0 m3.kept)
  have b2 := Lib.hid (m2.blk.kept m3.kept (by simp))
  have b3 := Lib.hid (show Blk w3 g3 25 (uv (ws4 (val ws / 2 ^ (64 * ws.length) % LL))).toArray from by
    rw [Nat.div_eq_of_lt (val_lt ws hz2.out)]; exact m3.blk)
  have ml := Lib.hid (And.intro m2.le (Nat.le_trans m2.kept.size m3.le))
  have far := Lib.hid (show ∀ W, Kept [g3] w3 W → Rd W 1 (.slice A ws.length c) ws.length (uv ws) from fun W hW => (hr2.out.kept0 kw.out).kept hW (fun hn g hg hm => by
    obtain ⟨b, hb, hlt⟩ := hr2.out.lt (by omega) hn
    rw [hg] at hb; cases hb
    have : g = g3 := by simpa using hm
    have := m3.le; have := m2.kept.size; omega))
  clear m2 m3
  go_loopg [4] ws.length (fun g i wk => ∃ m : Nat, g = m ∧ m ≤ ws.length ∧ i = .int .i64 ((m : Int) - 1) ∧ Blk wk g3 25 (uv (ws4 (val ws / 2 ^ (64 * m) % LL))).toArray ∧ Kept [g3] w3 wk)
  case atStart => exact ⟨ws.length, rfl, Nat.le_refl _, rfl, b3.out, Kept.refl _ _⟩
  case round =>
    obtain ⟨m, hg, hm, rfl, hb, hkw⟩ := hrel
    by_cases hm0 : 0 < m
    · have hi0 : (0 : Int) ≤ (m : Int) - 1 := by omega
      have hi1 : (1 : Int) ≤ (m : Int) := by omega
      have hx := (far.out _ hkw).at_ (by omega)
      obtain ⟨xb, xo, xc, hxe, _, hcell⟩ := hx
      cases hxe
      have hb2 := Lib.hid hb
      have hk2 := Lib.hid hkw
      have hc2 := Lib.hid hcell
      clear hb hkw hcell
      go_wp2_with fail
      obtain ⟨wo, rfl⟩ : ∃ wo : World, wo = wr := ⟨_, rfl⟩
      go_loopg [5] 64 (fun g k wk => ∃ q : Nat, g = q ∧ q ≤ 64 ∧ k = .int .i64 ((q : Int) - 1) ∧ Blk wk g3 25 (uv (ws4 (val ws / 2 ^ (64 * (m - 1) + q) % LL))).toArray ∧ Kept [g3] wo wk)
      case atStart => exact ⟨64, rfl, Nat.le_refl _, rfl, by rw [show 64 * (m - 1) + 64 = 64 * m from by omega]; exact hb2.out, Kept.refl _ _⟩
      case round =>
        obtain ⟨q, hg2, hq, rfl, hb3, hkw3⟩ := hrel
        by_cases hq0 : 0 < q
        · obtain ⟨cb, hcb⟩ : ∃ cb, cb = val ws / 2 ^ (64 * (m - 1) + (q - 1)) % 2 := ⟨_, rfl⟩
          obtain ⟨X, hX⟩ : ∃ X, X = val ws / 2 ^ (64 * (m - 1) + q) % LL := ⟨_, rfl⟩
          rw [← hX] at hb3
          have hc1 : cb ≤ 1 := by omega
          have hcm := hkw3.cell (S := [g3]) (hc2.out (m - 1) (.int .u64 (ws[m - 1] : Nat)) (by simp [show m - 1 < ws.length from by omega])) (far_blk (far.out _ hk2.out) (by omega) hr2.out (by have := ml.out.2; omega))
          have hbit : bits .and .u64 ((ws[m - 1] : Int) / 2 ^ (q - 1)) 1 = (cb : Int) := by
            rw [hcb, and_bit _ _ (hz2.out _ (List.getElem_mem _)), val_bit ws (m - 1) (q - 1) hz2.out (by omega) (by omega)]
          have hXL : X < LL := by rw [hX]; exact Nat.mod_lt _ LL_pos
          have hnext : red (2 * X + cb) = val ws / 2 ^ (64 * (m - 1) + (q - 1)) % LL := by
            rw [red_mod (by omega), hX, hcb]
            have := long_step (val ws) (64 * (m - 1) + (q - 1))
            rwa [show 64 * (m - 1) + (q - 1) + 1 = 64 * (m - 1) + q from by omega] at this
          have hn2 := Lib.hid hnext
          have hX2 := Lib.hid hXL
          have hb4 := Lib.hid hb3
          have hk4 := Lib.hid hkw3
          clear hcb hX hXL hnext hb3 hkw3
          go_wp2_with fail
          obtain ⟨wp, rfl⟩ : ∃ wp : World, wp = wr := ⟨_, rfl⟩
          go_loopg [27, 6] 4 (fun g i cv wk => ∃ j : Nat, j ≤ 4 ∧ g + j = 4 ∧ i = .int .i64 j ∧ cv = .int .u64 (dc X cb j : Nat) ∧ Blk wk g3 25 (uv (qw X (2 * X + cb) j)).toArray ∧ Kept [g3] wp wk)
          case atStart => exact ⟨0, by omega, rfl, rfl, by rw [dc_zero], hb4.out, Kept.refl _ _⟩
          case round =>
            obtain ⟨j, hj, hg3, rfl, rfl, hb5, hkw5⟩ := hrel
            by_cases hlt : j < 4
            · obtain ⟨d1, d2, d3⟩ := dc_step X cb j hlt hc1
              have c1 := qw_cell X (2 * X + cb) j hlt hb5
              have hf := hb5.frozen j
              have hor := or_even (wrd X j) (dc X cb j) (wrd_lt _ _) d2
              rw [d3] at hor
              have hsh : ((wrd X j : Nat) : Int) / 9223372036854775808 = (dc X cb (j + 1) : Nat) := by rw [← d1]; rfl
              have hst2 := Lib.hid (qw_step X (2 * X + cb) j hlt hb5)
              have hk6 := Lib.hid (hkw5.setCell (p := ⟨g3, j, none⟩) (.inl (by simp)) (Value.int .u64 (wrd (2 * X + cb) j : Nat)))
              clear hb5 hkw5 d1 d2 d3
              go_wp2_with fail
              refine Txt.wp_text (by kernel_rfl) (by kernel_rfl) ?_
              go_wp2_with fail
              refine ⟨rfl, by kernel_rfl, ?_⟩
              go_wp2_with fail
              go_roundg (4 - (j + 1))
              case measure => omega
              case rel => exact ⟨j + 1, by omega, by omega, by go_num, rfl, hst2.out.drew, hk6.out.drew⟩
            · obtain rfl : j = 4 := by omega
              have hb6 := Lib.hid hb5
              have hk7 := Lib.hid hkw5
              clear hb5 hkw5
              rw [qw4] at hb6
              go_wp2_with (first
                | (refine wpl_load_arr arrW rfl (.tmp 3) rfl rfl hb6.out rfl ?_)
                | (go_at_call 23; refine (reduced_any (2 * X + cb) (two_lt hX2.out hc1) _).mono ?_; rintro e w6 ⟨rfl, hk8⟩; have hb7 := Lib.hid (hb6.out.kept hk8 (by simp)); have hk9 := Lib.hid ((hk4.out.trans' hk7.out).then0 hk8); clear hk8)
                | (refine wpl_store_arr arrW rfl (.tmp 3) (.tmp 44) rfl rfl rfl hb7.out rfl rfl (one_uva _) ?_; intro w7 b8 k8))
              go_roundg (q - 1)
              case measure => omega
              case rel => exact ⟨q - 1, by omega, by omega, by go_num, by rw [hn2.out] at b8; exact b8, hk9.out.trans' k8⟩
        · obtain rfl : q = 0 := by omega
          have hb4 := Lib.hid hb3
          have hk4 := Lib.hid hkw3
          clear hb3 hkw3
          go_wp2_with fail
          go_roundg (m - 1)
          case measure => omega
          case rel => exact ⟨m - 1, by omega, by omega, by go_num, by have := hb4.out; rwa [Nat.add_zero] at this, hk2.out.trans' hk4.out⟩
    · obtain rfl : m = 0 := by omega
      have hb4 := Lib.hid hb
      have hk4 := Lib.hid hkw
      clear hb hkw
      rw [Nat.mul_zero, Nat.pow_zero, Nat.div_one] at hb4
      go_wp2_with (first
        | (refine wpl_load_arr arrW rfl (.tmp 3) rfl rfl hb4.out rfl ?_)
        | (refine wpl_build1 rfl 0 (.tmp 45) rfl rfl (built_sc _) ?_)
        | (refine wpl_store_row structSc rfl (.tmp 2) (.tmp 46) rfl rfl rfl (b2.out.kept hk4.out (by simpa using n23.out)) rfl rfl (one_uva _) ?_; intro w7 b8 k8))
      exact ret_row structSc rfl rfl b8 rfl rfl ⟨rfl, (kw.out.then1 hk4.out ml.out.2).then1 k8 ml.out.1⟩
theorem long_at (v : Value) (ws : List Nat) (n : Nat) (w : World) (hn : ws.length = n) (hr : Rd w 1 v ws.length (uv ws)) (hz : ∀ z ∈ ws, z < 18446744073709551616) (hl : n ≤ 1000000) :
    Calls Try.prog 25 #[v] w fun e w' => e = .returned (w4 (val ws % LL)) ∧ Kept [] w w' := by
  subst hn
  exact long_any v ws w hr hz hl
end Go.Proofs.Ytfamfdihflkdpaa
