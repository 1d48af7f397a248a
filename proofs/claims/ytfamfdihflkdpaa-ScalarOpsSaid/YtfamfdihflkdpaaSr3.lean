/-
  Scalars, the document's answer: a long number modulo L.
-/
import Derived.Test.YtfamfdihflkdpaaSr2
namespace Go.Proofs.Ytfamfdihflkdpaa
open Go.RowKit Go.Mem

/-- The carry of a doubling, by digits. -/
def dq (x c k : Nat) : Nat := (2 * (x % 256 ^ k) + c) / 256 ^ k
theorem dq_zero (x c : Nat) : dq x c 0 = c := by simp [dq, Nat.mod_one]
theorem dq_step (x c k : Nat) (hc : c ≤ 1) : dq x c k ≤ 1 ∧ (2 * dg x k + dq x c k) % 256 = dg (2 * x + c) k ∧ (2 * dg x k + dq x c k) / 256 = dq x c (k + 1) := by
  have hp : 0 < 256 ^ k := Nat.pow_pos (by decide)
  have m1 := mod_dg x k
  have l1 : x % 256 ^ k < 256 ^ k := Nat.mod_lt _ hp
  have e1 : x = 256 ^ k * (x / 256 ^ k) + x % 256 ^ k := (Nat.div_add_mod x (256 ^ k)).symm
  have hd : dg x k = x / 256 ^ k % 256 := rfl
  have hy : dg (2 * x + c) k = (2 * x + c) / 256 ^ k % 256 := rfl
  have h1 : (2 * x + c) / 256 ^ k = 2 * (x / 256 ^ k) + dq x c k := by
    have : 2 * x + c = 256 ^ k * (2 * (x / 256 ^ k)) + (2 * (x % 256 ^ k) + c) := by
      rw [Nat.mul_left_comm]; omega
    rw [this, Nat.mul_add_div hp]; rfl
  have h2 : dq x c (k + 1) = (2 * dg x k + dq x c k) / 256 := by
    show (2 * (x % 256 ^ (k + 1)) + c) / 256 ^ (k + 1) = _
    rw [m1, Nat.pow_succ, ← Nat.div_div_eq_div_mul]
    congr 1
    have : 2 * (x % 256 ^ k + 256 ^ k * dg x k) + c = 256 ^ k * (2 * dg x k) + (2 * (x % 256 ^ k) + c) := by
      rw [Nat.mul_add, Nat.mul_left_comm]; omega
    rw [this, Nat.mul_add_div hp]; rfl
  have h3 : dq x c k ≤ 1 := by
    have : dq x c k < 2 := by
      unfold dq
      rw [Nat.div_lt_iff_lt_mul hp]; omega
    omega
  refine ⟨h3, ?_, h2.symm⟩
  rw [hy, h1, hd]
  omega
def dmix (x y k : Nat) : List Int := over (dgs x) 0 ((dgs y).take k)
theorem dmix_len (x y k : Nat) : (dmix x y k).length = 33 := by unfold dmix; rw [over_len _ _ _ (by simp [dgs_len]; omega)]; exact dgs_len x
theorem dmix0 (x y : Nat) : dmix x y 0 = dgs x := by unfold dmix; rw [over0]; simp
theorem dmix33 (x y : Nat) : dmix x y 33 = dgs y := by
  unfold dmix
  rw [List.take_of_length_le (by rw [dgs_len]; exact Nat.le_refl _), over_all _ _ (by rw [dgs_len, dgs_len])]
theorem dmix_get (x y k : Nat) (hk : k < 33) : (dmix x y k)[k]? = some (dg x k : Int) := by
  unfold dmix
  rw [over_get _ _ (by simp [dgs_len]; omega)]
  rw [if_neg (by simp; omega)]
  simp [dgs, hk]
theorem dmix_set (x y k : Nat) (hk : k < 33) : (dmix x y k).set k (dg y k : Int) = dmix x y (k + 1) := by
  have := over_step (dgs x) (dgs y) k (by rw [dgs_len]; exact hk) (by rw [dgs_len, dgs_len]; exact Nat.le_refl _)
  rw [dgs_get y k hk] at this
  exact this

theorem byte_bit (bs : List UInt8) (i t : Nat) (h : i < bs.length) (ht : t < 8) : bs[i].toNat / 2 ^ t % 2 = leV bs / 2 ^ (8 * i + t) % 2 := by
  have h1 : bs[i].toNat = leV bs / 2 ^ (8 * i) % 256 := by
    have e := le_leV bs
    have h2 : bs[i] = (le (leV bs) bs.length)[i]'(by rw [le_len]; exact h) := by simp only [e]
    rw [h2, le_get _ _ _ h, UInt8.toNat_ofNat']
    omega
  rw [h1, Nat.pow_add, ← Nat.div_div_eq_div_mul]
  generalize leV bs / 2 ^ (8 * i) = U
  have e : 256 = 2 ^ t * 2 ^ (8 - t) := by rw [← Nat.pow_add, show t + (8 - t) = 8 from by omega]
  rw [e, Nat.mod_mul_right_div_self, show 8 - t = 1 + (7 - t) from by omega, Nat.pow_add, Nat.pow_one, Nat.mod_mul_right_mod]
theorem half_pow (q : Nat) (h : 0 < q) : 2 ^ q / 2 = 2 ^ (q - 1) := by
  obtain ⟨m, rfl⟩ : ∃ m, q = m + 1 := ⟨q - 1, by omega⟩
  rw [Nat.pow_succ, Nat.mul_div_cancel _ (by decide)]; rfl
theorem le_dg (x i : Nat) (h : i < 32) : (((le x 32)[i]'(by rw [le_len]; exact h)).toNat : Int) = (dg x i : Int) := by
  rw [le_get x 32 i h, UInt8.toNat_ofNat']
  unfold dg
  rw [show (256 : Nat) ^ i = 2 ^ (8 * i) from by rw [Nat.pow_mul]]
  omega
theorem lt33 {x : Nat} (h : x < 2 * LL) : x < 256 ^ 33 := Nat.lt_trans h (by decide +kernel)
theorem sub_mod {x : Nat} (h : x < 2 * LL) (hg : LL ≤ x) : x - LL = x % LL := by
  rw [Nat.mod_eq_sub_mod hg, Nat.mod_eq_of_lt (by omega)]
theorem nil33 : madeCells #[.int .i64 0] 33 = (iv (dgs 0)).toArray := by kernel_rfl
theorem mk33 : ∃ Z : Array Value, Z = (iv (dgs 0)).toArray ∧ ∀ W : World, (Instr.makeSlice 44 (.int .i64 33) (.int .i64 33)).run Try.prog W = .ok (.slice (some ⟨W.heap.size, 0, none⟩) 33 33) (W.alloc (.cells Z 3)) :=
  ⟨_, nil33, fun W => run_mk intT 33 (by omega) (by omega) W⟩

theorem Row.lt {w : World} {g o c : Nat} {l : List Int} (h : Row w g o c l) : g < w.heap.size := h.ow.lt rfl
theorem Row.keep {w w' : World} {g o c k : Nat} {l : List Int} (h : Row w g o c l) (hk : Kept [k] w w') (hn : g ≠ k) : Row w' g o c l := ⟨h.ow.kept hk (fun x hx hm => by
  have h1 : g = x := by simpa [Value.ownBlock] using hx
  have h2 : x = k := by simpa using hm
  exact hn (h1.trans h2))⟩

/-- The row of the reckoning. -/
structure Acc (w0 w : World) (v : Value) (l : List Int) : Prop where
  ex : ∃ g o c, v = .slice (some ⟨g, o, none⟩) 33 c ∧ Row w g o c l ∧ w0.heap.size ≤ g
  k : Kept [] w0 w

set_option maxRecDepth 100000 in
set_option maxHeartbeats 3200000 in
theorem rmod_any (v : Value) (bs : List UInt8) (w : World) (hr : Rd w 1 v bs.length (bv bs)) (hl : bs.length ≤ 1000) :
    Calls Try.prog 11 #[v] w fun e w' => e = .returned (ab (le (leV bs % LL) 32)) ∧ Kept [] w w' := by
  have hr2 := Lib.hid hr
  obtain ⟨A, c, rfl, _, _, _⟩ := hr
  obtain ⟨Z, hZ, hmk⟩ := mk33
  have hZ2 := Lib.hid hZ
  clear hZ
  go_enter Try.func11, Try.ntmps11
  go_wp2_with ((with_reducible refine wpl_new (o := ⟨some 2, _, _, _, _, _⟩) rfl rfl zeroB ?_); intro g2 w2 m2)
  have hA0 : Acc w2 (w2.alloc (.cells Z 3)) (.slice (some ⟨w2.heap.size, 0, none⟩) 33 33) (dgs (leV bs / 2 ^ (8 * bs.length) % LL)) := by
    rw [Nat.div_eq_of_lt (leV_lt2 bs)]
    exact ⟨⟨_, _, _, rfl, ⟨Ow.of_own (own_alloc_at (xs := iv (dgs 0)) rfl (by rw [hZ2.out]) (by simp [dgs_len]) (by omega))⟩, Nat.le_refl _⟩, (Kept.refl [] w2).alloc _⟩
  have A0 := Lib.hid hA0
  have M := Lib.hid m2
  have far := Lib.hid (show ∀ W, Kept [] w2 W → Rd W 1 (.slice A bs.length c) bs.length (bv bs) from fun W hW => (hr2.out.kept0 m2.kept).kept0 hW)
  clear hA0 m2
  go_loopg [4, 3] bs.length (fun f i rv wk => ∃ m : Nat, f = m ∧ m ≤ bs.length ∧ i = .int .i64 ((m : Int) - 1) ∧ Acc w2 wk rv (dgs (leV bs / 2 ^ (8 * m) % LL)))
  case atStart => exact ⟨bs.length, rfl, Nat.le_refl _, rfl, A0.out⟩
  case round =>
    obtain ⟨m, hf, hm, rfl, ⟨g, o, cc, rfl, hrow, hge⟩, hkw⟩ := hrel
    have R := Lib.hid hrow
    have HK := Lib.hid (And.intro hkw hge)
    clear hrow hkw hge
    by_cases hm0 : 0 < m
    · have hi0 : (0 : Int) ≤ (m : Int) - 1 := by omega
      have hi1 : (1 : Int) ≤ (m : Int) := by omega
      go_wp2_with fail
      obtain ⟨wo, rfl⟩ : ∃ wo : World, wo = wr := ⟨_, rfl⟩
      go_loopg [5, 3] 8 (fun f bt rv wk => ∃ q B : Nat, f = q ∧ q ≤ 8 ∧ bt = .int .i64 (B : Int) ∧ B = 2 ^ q / 2 ∧ Acc w2 wk rv (dgs (leV bs / 2 ^ (8 * (m - 1) + q) % LL)))
      case atStart => exact ⟨8, 128, rfl, Nat.le_refl _, rfl, rfl, ⟨_, _, _, rfl, by rw [show 8 * (m - 1) + 8 = 8 * m from by omega]; exact R.out, HK.out.2⟩, HK.out.1⟩
      case round =>
        obtain ⟨q, B, hf2, hq, rfl, hB, ⟨g', o', cc', rfl, hrow, hge⟩, hkw⟩ := hrel
        have R2 := Lib.hid hrow
        have HK2 := Lib.hid (And.intro hkw hge)
        have hB2 := Lib.hid hB
        clear hrow hkw hge
        by_cases hq0 : 0 < q
        · have hB1 : 1 ≤ B := by rw [hB, half_pow q hq0]; exact Nat.one_le_two_pow
          have hB8 : B ≤ 128 := by
            rw [hB, half_pow q hq0]
            exact Nat.le_trans (Nat.pow_le_pow_right (by decide) (show q - 1 ≤ 7 from by omega)) (by decide)
          obtain ⟨cb, hcb⟩ : ∃ cb, cb = leV bs / 2 ^ (8 * (m - 1) + (q - 1)) % 2 := ⟨_, rfl⟩
          obtain ⟨X, hX⟩ : ∃ X, X = leV bs / 2 ^ (8 * (m - 1) + q) % LL := ⟨_, rfl⟩
          rw [← hX] at R2
          have hXL : X < LL := by rw [hX]; exact Nat.mod_lt _ LL_pos
          have hc1 : cb ≤ 1 := by omega
          have hbit : (wrap64 (((bs[m - 1].toNat : Nat) : Int) / (B : Int))).tmod 2 = (cb : Int) := by
            obtain ⟨Q, hQ⟩ : ∃ Q, Q = bs[m - 1].toNat / B := ⟨_, rfl⟩
            have h1 : ((bs[m - 1].toNat : Nat) : Int) / (B : Int) = (Q : Int) := by rw [hQ]; rfl
            have h2 : Q ≤ bs[m - 1].toNat := by rw [hQ]; exact Nat.div_le_self _ _
            have h3 := UInt8.toNat_lt bs[m - 1]
            have e : cb = Q % 2 := by rw [hcb, ← byte_bit bs (m - 1) (q - 1) (by omega) (by omega), ← half_pow q hq0, ← hB, hQ]
            rw [h1, IntWalk.wrap64_in _ ⟨by omega, by omega⟩, Int.tmod_eq_emod_of_nonneg (by omega), e]
            rfl
          have hnext : (2 * X + cb) % LL = leV bs / 2 ^ (8 * (m - 1) + (q - 1)) % LL := by
            rw [hX, hcb]
            have := long_step (leV bs) (8 * (m - 1) + (q - 1))
            rwa [show 8 * (m - 1) + (q - 1) + 1 = 8 * (m - 1) + q from by omega] at this
          obtain ⟨xb, xo, xc, hxe, _, hcell⟩ := (far.out _ HK2.out.1).at_ (by omega)
          cases hxe
          have c0 := hcell (m - 1) (byteV bs[m - 1]) (by simp [show m - 1 < bs.length from by omega])
          unfold byteV at c0
          have F := Lib.hid (And.intro hXL hnext)
          have bb := UInt8.toNat_lt bs[m - 1]
          clear hB hcb hX hXL hnext hcell
          go_wp2_with fail
          obtain ⟨wp, rfl⟩ : ∃ wp : World, wp = wr := ⟨_, rfl⟩
          have R3 := Lib.hid (show Row wp g' o' cc' (dmix X (2 * X + cb) 0) by rw [dmix0]; exact R2.out)
          go_loopg [7, 6] 33 (fun f i cv wk => ∃ k : Nat, k ≤ 33 ∧ f + k = 33 ∧ i = .int .i64 k ∧ cv = .int .i64 (dq X cb k : Nat) ∧ Row wk g' o' cc' (dmix X (2 * X + cb) k) ∧ Kept [g'] wp wk)
          case atStart => exact ⟨0, by omega, rfl, rfl, by rw [dq_zero], R3.out, Kept.refl _ _⟩
          case round =>
            obtain ⟨k, hk, hf3, rfl, rfl, hrk, hkk⟩ := hrel
            by_cases hlt : k < 33
            · obtain ⟨d1, d2, d3⟩ := dq_step X cb k hc1
              have c1 := hrk.cell k (dg X k : Nat) (dmix_get X _ k hlt)
              have hf1 := hrk.frozen (o' + k)
              have b1 := dg_lt X k
              have e1 : (2 * ((dg X k : Nat) : Int) + ((dq X cb k : Nat) : Int)) % 256 = ((dg (2 * X + cb) k : Nat) : Int) := by rw [← d2]; omega
              have e2 : (2 * ((dg X k : Nat) : Int) + ((dq X cb k : Nat) : Int)) / 256 = ((dq X cb (k + 1) : Nat) : Int) := by rw [← d3]; omega
              have H5 := hrk.set_ k (dg (2 * X + cb) k : Nat) hlt
              rw [dmix_set _ _ _ hlt] at H5
              have H6 := Lib.hid H5
              have HK6 := Lib.hid (hkk.setCell (p := ⟨g', o' + k, none⟩) (.inl (by simp)) (Value.int .i64 (dg (2 * X + cb) k : Nat)))
              clear hrk hkk H5 d2 d3
              go_wp2_with fail
              go_roundg (33 - (k + 1))
              case measure => omega
              case rel => exact ⟨k + 1, by omega, by omega, by go_num, by rw [e2], H6.out, HK6.out⟩
            · obtain rfl : k = 33 := by omega
              rw [dmix33] at hrk
              have hY : 2 * X + cb < 2 * LL := by have := F.out.1; omega
              have hrd := Lib.hid (Rd.of_ow hrk.ow)
              have H7 := Lib.hid hrk
              have HK7 := Lib.hid (HK2.out.1.then1 hkk HK2.out.2)
              have hY2 := Lib.hid hY
              clear hrk hkk hY
              by_cases hYL : 2 * X + cb < LL
              · have hb1 : belowB (2 * X + cb) = true := decide_eq_true hYL
                have hn := Lib.hid (show 2 * X + cb = leV bs / 2 ^ (8 * (m - 1) + (q - 1)) % LL by rw [← F.out.2, Nat.mod_eq_of_lt hYL])
                clear hYL
                go_wp2_with (go_at_call 20; refine (rbelow_any _ (2 * X + cb) _ hrd.out (lt33 hY2.out)).mono ?_; rw [hb1]; rintro e w6 ⟨rfl, k6⟩; have H8 := Lib.hid (H7.out.kept k6); have HK8 := Lib.hid (HK7.out.then0 k6); clear k6)
                go_roundg (q - 1)
                case measure => omega
                case rel => exact ⟨q - 1, B / 2, by omega, by omega, by go_num, by rw [hB2.out, half_pow q hq0], ⟨_, _, _, rfl, by have := H8.out; rwa [hn.out] at this, HK2.out.2⟩, HK8.out⟩
              · have hb1 : belowB (2 * X + cb) = false := decide_eq_false hYL
                have hn := Lib.hid (show 2 * X + cb - LL = leV bs / 2 ^ (8 * (m - 1) + (q - 1)) % LL by rw [sub_mod hY2.out (by omega), F.out.2])
                have hge := Lib.hid (show LL ≤ 2 * X + cb by omega)
                clear hYL
                go_wp2_with (first
                  | (go_at_call 20; refine (rbelow_any _ (2 * X + cb) _ hrd.out (lt33 hY2.out)).mono ?_; rw [hb1]; rintro e w6 ⟨rfl, k6⟩; have hrd2 := Lib.hid (hrd.out.kept0 k6); have HK8 := Lib.hid (HK7.out.then0 k6); clear k6)
                  | (go_at_call 21; refine (rless_any _ (2 * X + cb) _ hrd2.out hge.out (lt33 hY2.out)).mono ?_; rintro e w7 ⟨g9, o9, c9, rfl, r9, k9, l9⟩; have H9 := Lib.hid (And.intro r9 (And.intro (HK8.out.then0 k9) (Nat.le_trans HK8.out.size l9))); clear r9 k9 l9))
                go_roundg (q - 1)
                case measure => omega
                case rel => exact ⟨q - 1, B / 2, by omega, by omega, by go_num, by rw [hB2.out, half_pow q hq0], ⟨_, _, _, rfl, by have := H9.out.1; rwa [hn.out] at this, H9.out.2.2⟩, H9.out.2.1⟩
        · obtain rfl : q = 0 := by omega
          have hB0 : B = 0 := by rw [hB]
          clear hB hB2
          subst hB0
          rw [Nat.add_zero] at R2
          go_wp2_with fail
          go_roundg (m - 1)
          case measure => omega
          case rel => exact ⟨m - 1, by omega, by omega, by go_num, ⟨_, _, _, rfl, R2.out, HK2.out.2⟩, HK2.out.1⟩
    · obtain rfl : m = 0 := by omega
      rw [Nat.mul_zero, Nat.pow_zero, Nat.div_one] at R
      obtain ⟨X, hX⟩ : ∃ X, X = leV bs % LL := ⟨_, rfl⟩
      rw [← hX] at R
      have hX2 := Lib.hid hX
      clear hX
      go_wp2_with ((with_reducible refine wpl_new (o := ⟨some 9, _, _, _, _, _⟩) rfl rfl zeroB ?_); intro g5 w5 m5)
      have R5 := Lib.hid (R.out.kept m5.kept)
      have B5 := Lib.hid m5.blk
      have N := Lib.hid (And.intro (M.out.kept.then0 (HK.out.1.then0 m5.kept)) (And.intro (Nat.le_trans M.out.kept.size (Nat.le_trans HK.out.1.size m5.le)) (And.intro (m5.ne (HK.out.1.lt M.out.blk.lt)) (m5.ne R.out.lt))))
      have B2 := Lib.hid ((M.out.blk.kept HK.out.1 (by simp)).kept m5.kept (by simp))
      clear m5
      go_loopg [54] 32 (fun f i wk => ∃ k : Nat, k ≤ 32 ∧ f + k = 32 ∧ i = .int .i64 k ∧ Blk wk g5 22 (bv (over (noughts 32) 0 ((le X 32).take k))).toArray ∧ Kept [g5] w5 wk)
      case atStart => exact ⟨0, Nat.zero_le _, rfl, rfl, B5.out, Kept.refl _ _⟩
      case round =>
        obtain ⟨k, hk, hf, rfl, hb, hkw⟩ := hrel
        by_cases hlt : k < 32
        · have hr5 : Row wr g o cc (dgs X) := R5.out.keep hkw N.out.2.2.2
          have c1 := hr5.cell k (dg X k : Nat) (by simp [dgs, show k < 33 from by omega])
          have hfz := hb.frozen k
          have c3 := hb.bget k (by rw [over_len _ _ _ (by simp [le_len]; omega)]; simpa using hlt)
          have b1 := dg_lt X k
          have hst := hb.set_ k (byteV ((le X 32)[k]'(by rw [le_len]; exact hlt)))
          rw [over_stepB (noughts 32) (le X 32) k (by rw [le_len]; exact hlt) (by simp [le_len])] at hst
          have hk2 := hkw.setCell (p := ⟨g5, k, none⟩) (.inl (by simp)) (byteV ((le X 32)[k]'(by rw [le_len]; exact hlt)))
          unfold byteV at hst hk2
          rw [le_dg X k hlt] at hst hk2
          have hst2 := Lib.hid hst
          have hk3 := Lib.hid hk2
          have hw8 : IntKind.u8.wrap ((dg X k : Nat) : Int) = ((dg X k : Nat) : Int) := by simp [IntKind.wrap, IntKind.bits, IntKind.signed]; omega
          have hw9 : ((dg X k : Nat) : Int) % 256 = ((dg X k : Nat) : Int) := by omega
          clear hst hk2 hb hkw hr5
          go_wp2_with fail
          go_roundg (32 - (k + 1))
          case measure => omega
          case rel => exact ⟨k + 1, by omega, by omega, by go_num, hst2.out, hk3.out⟩
        · obtain rfl : k = 32 := by omega
          have hb2 := Lib.hid hb
          have hk2 := Lib.hid hkw
          clear hb hkw
          rw [List.take_of_length_le (by rw [le_len]; exact Nat.le_refl _), over_all _ _ (by rw [le_len]; rfl)] at hb2
          go_wp2_with (first
            | (refine wpl_load_arr arrB rfl (.tmp 9) rfl rfl hb2.out (by simp [le_len]) ?_)
            | (refine wpl_store_arr arrB rfl (.tmp 2) (.tmp 65) rfl rfl rfl (B2.out.kept hk2.out (by have := N.out.2.2.1; simpa using this)) rfl (by simp [le_len]) (one_ab _) ?_; intro w6 b6 k6))
          exact ret_arr arrB rfl rfl b6 (by simp [le_len]) rfl ⟨by rw [hX2.out], (N.out.1.then1 hk2.out N.out.2.1).then1 k6 M.out.le⟩
end Go.Proofs.Ytfamfdihflkdpaa
