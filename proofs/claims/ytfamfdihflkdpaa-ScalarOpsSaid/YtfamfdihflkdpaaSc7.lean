/-
  Scalars: products.
-/
import Derived.Test.YtfamfdihflkdpaaSc6
import Derived.Test.YtfamfdihflkdpaaMul
namespace Go.Proofs.Ytfamfdihflkdpaa
open Go.RowKit Go.Mem

theorem val_set : ∀ (l : List Nat) (k v : Nat), k < l.length → val (l.set k v) + l.getD k 0 * 2 ^ (64 * k) = val l + v * 2 ^ (64 * k)
  | a :: l, 0, v, _ => by simp [val]; omega
  | a :: l, k + 1, v, h => by
    have ih := val_set l k v (by simpa using h)
    simp only [List.set_cons_succ, val, List.getD_cons_succ]
    rw [show 64 * (k + 1) = 64 + 64 * k from by omega, Nat.pow_add]
    show a + 18446744073709551616 * val (l.set k v) + l.getD k 0 * (18446744073709551616 * 2 ^ (64 * k)) = a + 18446744073709551616 * val l + v * (18446744073709551616 * 2 ^ (64 * k))
    rw [Nat.mul_left_comm, Nat.mul_left_comm v]
    omega

/-- Row i of the product, j words of it, and what is carried. -/
structure MulInv (x y i j c : Nat) (ts : List Nat) : Prop where
  len : ts.length = 8
  lt : ∀ z ∈ ts, z < 18446744073709551616
  clt : c < 18446744073709551616
  eq : val ts + c * 2 ^ (64 * (i + j)) = (x % 2 ^ (64 * i)) * y + wrd x i * 2 ^ (64 * i) * (y % 2 ^ (64 * j))
  zero : ∀ k, i + 4 ≤ k → ts.getD k 0 = 0

theorem mul_start (x y : Nat) : MulInv x y 0 0 0 (List.replicate 8 0) :=
  ⟨rfl, by decide, by decide, by simp [Nat.mod_one]; rfl, fun k _ => by
    simp only [List.getD_eq_getElem?_getD, List.getElem?_replicate]
    split <;> rfl⟩
theorem mod_succ (x k : Nat) : x % 2 ^ (64 * (k + 1)) = x % 2 ^ (64 * k) + 2 ^ (64 * k) * wrd x k := by
  rw [show 64 * (k + 1) = 64 * k + 64 from by omega, Nat.pow_add, Nat.mod_mul]; rfl
theorem mul_step {x y i j c : Nat} {ts : List Nat} (h : MulInv x y i j c ts) (hi : i < 4) (hj : j < 4) {new c' : Nat} (hn : new < 18446744073709551616) (hc : c' < 18446744073709551616)
    (he : new + 18446744073709551616 * c' = wrd x i * wrd y j + ts.getD (i + j) 0 + c) : MulInv x y i (j + 1) c' (ts.set (i + j) new) := by
  refine ⟨by rw [List.length_set]; exact h.len, fun z hz => ?_, hc, ?_, fun k hk => ?_⟩
  · rcases List.mem_or_eq_of_mem_set hz with hz | rfl
    · exact h.lt z hz
    · exact hn
  · have h1 := val_set ts (i + j) new (by rw [h.len]; omega)
    have h2 := h.eq
    have h3 : 2 ^ (64 * (i + (j + 1))) = 18446744073709551616 * 2 ^ (64 * (i + j)) := by
      rw [show 64 * (i + (j + 1)) = 64 + 64 * (i + j) from by omega, Nat.pow_add]
    have h4 : 2 ^ (64 * (i + j)) = 2 ^ (64 * i) * 2 ^ (64 * j) := by rw [Nat.mul_add, Nat.pow_add]
    rw [h3, mod_succ y j]
    rw [h4] at h1 h2 ⊢
    generalize ts.getD (i + j) 0 = u at *
    generalize 2 ^ (64 * i) = P at *
    generalize 2 ^ (64 * j) = Q at *
    generalize val (ts.set (i + j) new) = V' at *
    generalize val ts = V at *
    generalize wrd x i = a at *
    generalize wrd y j = b at *
    generalize x % P = X at *
    generalize y % Q = Y at *
    have h5 : (new + 18446744073709551616 * c') * (P * Q) = (a * b + u + c) * (P * Q) := by rw [he]
    grind
  · rw [List.getD_eq_getElem?_getD, List.getElem?_set_ne (by omega), ← List.getD_eq_getElem?_getD]
    exact h.zero k hk
theorem mul_row {x y i c : Nat} {ts : List Nat} (h : MulInv x y i 4 c ts) (hi : i < 4) (hy : y < M4) : MulInv x y (i + 1) 0 0 (ts.set (i + 4) c) := by
  refine ⟨by rw [List.length_set]; exact h.len, fun z hz => ?_, by decide, ?_, fun k hk => ?_⟩
  · rcases List.mem_or_eq_of_mem_set hz with hz | rfl
    · exact h.lt z hz
    · exact h.clt
  · have h1 := val_set ts (i + 4) c (by rw [h.len]; omega)
    rw [h.zero (i + 4) (Nat.le_refl _), Nat.zero_mul, Nat.add_zero] at h1
    have h2 := h.eq
    have h3 : y % 2 ^ (64 * 4) = y := Nat.mod_eq_of_lt hy
    rw [h3] at h2
    rw [h1, h2, mod_succ x i, Nat.mul_zero, Nat.pow_zero, Nat.mod_one, Nat.mul_zero, Nat.zero_mul, Nat.add_zero, Nat.add_zero, Nat.add_mul, Nat.mul_comm (2 ^ (64 * i))]
  · rw [List.getD_eq_getElem?_getD, List.getElem?_set_ne (by omega), ← List.getD_eq_getElem?_getD]
    exact h.zero k (by omega)
theorem mul_end {x y : Nat} {ts : List Nat} (h : MulInv x y 4 0 0 ts) (hx : x < M4) : val ts = x * y := by
  have h2 := h.eq
  have h3 : x % 2 ^ (64 * 4) = x := Nat.mod_eq_of_lt hx
  rw [h3] at h2
  simpa [Nat.mod_one] using h2

theorem mul_parts (a b u c : Nat) (ha : a < 18446744073709551616) (hb : b < 18446744073709551616) (hu : u < 18446744073709551616) (hc : c < 18446744073709551616) :
    ∃ hi lo lo1 c1 lo2 c2, hi = a * b / 18446744073709551616 ∧ lo = a * b % 18446744073709551616 ∧ lo1 = (lo + u) % 18446744073709551616 ∧ c1 = (lo + u) / 18446744073709551616 ∧ lo2 = (lo1 + c) % 18446744073709551616 ∧ c2 = (lo1 + c) / 18446744073709551616 ∧
      hi + c1 ≤ 18446744073709551615 ∧ hi + c1 + c2 ≤ 18446744073709551615 ∧ lo2 < 18446744073709551616 ∧ lo2 + 18446744073709551616 * (hi + c1 + c2) = a * b + u + c := by
  refine ⟨_, _, _, _, _, _, rfl, rfl, rfl, rfl, rfl, rfl, ?_⟩
  have h : a * b ≤ 18446744073709551615 * 18446744073709551615 := Nat.mul_le_mul (by omega) (by omega)
  generalize a * b = p at *
  omega

theorem call_add0 (x y : Nat) (w : World) : (callFunc 22 #[.int .u64 x, .int .u64 y, .int .u64 0]).run Try.prog w =
    .ok (.value (.tuple #[.int .u64 ((x + y) % 18446744073709551616 : Nat), .int .u64 ((x + y) / 18446744073709551616 : Nat)])) w := call_add64 x y 0 (by omega) w

theorem zero8 : (Try.prog.info? 50).map (·.zero) = some (some (.agg (uv (List.replicate 8 0)).toArray)) := by kernel_rfl

set_option maxRecDepth 100000 in
set_option maxHeartbeats 1600000 in
theorem mul_any (x y : Nat) (hx : x < M4) (hy : y < M4) (w : World) : Calls Try.prog 14 #[w4 x, w4 y] w fun e w' => e = .returned (w4 (x * y % LL)) ∧ Kept [] w w' := by
  have hs := Lib.hid (And.intro hx hy)
  clear hx hy
  go_enter Try.func14, Try.ntmps14
  go_wp2_with (first
    | ((with_reducible refine wpl_box (o := ⟨some 2, _, _, _, _, _⟩) (v := w4 x) rfl (.tmp 0) rfl rfl ?_); intro g1 w1 m1)
    | ((with_reducible refine wpl_box (o := ⟨some 3, _, _, _, _, _⟩) (v := w4 y) rfl (.tmp 1) rfl rfl ?_); intro g2 w2 m2)
    | ((with_reducible refine wpl_new (o := ⟨some 4, _, _, _, _, _⟩) rfl rfl zeroSc ?_); intro g3 w3 m3)
    | ((with_reducible refine wpl_new (o := ⟨some 5, _, _, _, _, _⟩) rfl rfl zero8 ?_); intro g4 w4 m4)
    | (refine wpl_load_arr arrW rfl (.tmp 14) rfl rfl (((m1.blk.kept m2.kept (by simp)).kept m3.kept (by simp)).kept m4.kept (by simp)) rfl ?_))
  have N := Lib.hid (And.intro (m4.ne (m3.kept.lt (m2.kept.lt m1.blk.lt))) (And.intro (m4.ne (m3.kept.lt m2.blk.lt)) (m4.ne m3.blk.lt)))
  have b2 := Lib.hid ((m2.blk.kept m3.kept (by simp)).kept m4.kept (by simp))
  have b3 := Lib.hid (m3.blk.kept m4.kept (by simp))
  have b4 := Lib.hid m4.blk
  have M := Lib.hid (And.intro (((m1.kept.then0 m2.kept).then0 m3.kept).then0 m4.kept) (And.intro (Nat.le_trans (m1.kept.then0 m2.kept).size m3.le) (Nat.le_trans ((m1.kept.then0 m2.kept).then0 m3.kept).size m4.le)))
  clear m1 m2 m3 m4
  go_loopg [16] 4 (fun f i wk => ∃ (k : Nat) (ts : List Nat), k ≤ 4 ∧ f + k = 4 ∧ i = .int .i64 k ∧ MulInv x y k 0 0 ts ∧ Blk wk g4 50 (uv ts).toArray ∧ Kept [g4] w4 wk)
  case atStart => exact ⟨0, _, Nat.zero_le _, rfl, rfl, mul_start x y, b4.out, Kept.refl _ _⟩
  case round =>
    obtain ⟨k, ts, hk, hf, rfl, hI, hb, hkw⟩ := hrel
    by_cases hlt : k < 4
    · have hix := run_index_w4 x k hlt
      have hI2 := Lib.hid hI
      have hb2 := Lib.hid hb
      have hk2 := Lib.hid hkw
      clear hI hb hkw
      go_wp2_with (refine wpl_load_arr arrW rfl (.tmp 20) rfl rfl (b2.out.kept hk2.out (by have := N.out.2.1; simpa using this)) rfl ?_)
      obtain ⟨wo, rfl⟩ : ∃ wo : World, wo = wr := ⟨_, rfl⟩
      go_loopg [22, 8] 4 (fun f i cv wk => ∃ (j c : Nat) (us : List Nat), j ≤ 4 ∧ f + j = 4 ∧ i = .int .i64 j ∧ cv = .int .u64 c ∧ MulInv x y k j c us ∧ Blk wk g4 50 (uv us).toArray ∧ Kept [g4] wo wk)
      case atStart => exact ⟨0, 0, ts, Nat.zero_le _, rfl, rfl, rfl, hI2.out, hb2.out, Kept.refl _ _⟩
      case round =>
        obtain ⟨j, c, us, hj, hf2, rfl, rfl, hJ, hbj, hkj⟩ := hrel
        by_cases hlj : j < 4
        · have hiy := run_index_w4 y j hlj
          have hlen := hJ.len
          have hkj8 : k + j < us.length := by rw [hlen]; omega
          have c1 := hbj.uget (k + j) hkj8
          have hg : us.getD (k + j) 0 = us[k + j] := by simp [hkj8]
          obtain ⟨hi, lo, lo1, q1, lo2, q2, e1, e2, e3, e4, e5, e6, e7, e8, e9, e10⟩ := mul_parts (wrd x k) (wrd y j) us[k + j] c (wrd_lt _ _) (wrd_lt _ _) (hJ.lt _ (List.getElem_mem _)) hJ.clt
          have hm := mul64_any (wrd x k) (wrd y j) (wrd_lt _ _) (wrd_lt _ _)
          rw [← e1, ← e2] at hm
          have ha1 := call_add0 lo us[k + j]
          rw [← e3, ← e4] at ha1
          have ha2 := call_add0 lo1 c
          rw [← e5, ← e6] at ha2
          have hst := mul_step (c' := hi + q1 + q2) hJ hlt hlj e9 (by omega) (by rw [hg]; exact e10)
          have hfz := hbj.frozen (k + j)
          have hbs := hbj.set_ (k + j) (.int .u64 (lo2 : Nat))
          have es : (uv us).toArray.setIfInBounds (k + j) (.int .u64 (lo2 : Nat)) = (uv (us.set (k + j) lo2)).toArray := by simp
          rw [es] at hbs
          have hm2 := Lib.hid hm
          have H := Lib.hid (And.intro hst (And.intro hbs (hkj.setCell (p := ⟨g4, k + j, none⟩) (.inl (by simp)) (Value.int .u64 (lo2 : Nat)))))
          clear hm hst hbs hkj hbj hJ e1 e2 e3 e4 e5 e6 e10 es hg hlen
          go_wp2_with (go_at_call 24; refine (hm2.out _).mono ?_; rintro e w6 ⟨rfl, rfl⟩)
          go_roundg (4 - (j + 1))
          case measure => omega
          case rel => exact ⟨j + 1, hi + q1 + q2, _, by omega, by omega, by go_num, by go_num, H.out.1, H.out.2.1, H.out.2.2⟩
        · obtain rfl : j = 4 := by omega
          have hk8 : k + 4 < us.length := by rw [hJ.len]; omega
          have c1 := hbj.uget (k + 4) hk8
          have hfz := hbj.frozen (k + 4)
          have hbs := hbj.set_ (k + 4) (.int .u64 (c : Nat))
          have es : (uv us).toArray.setIfInBounds (k + 4) (.int .u64 (c : Nat)) = (uv (us.set (k + 4) c)).toArray := by simp
          rw [es] at hbs
          have H := Lib.hid (And.intro (mul_row hJ hlt hs.out.2) (And.intro hbs (hkj.setCell (p := ⟨g4, k + 4, none⟩) (.inl (by simp)) (Value.int .u64 (c : Nat)))))
          clear hbs hkj hbj hJ es
          go_wp2_with fail
          go_roundg (4 - (k + 1))
          case measure => omega
          case rel => exact ⟨k + 1, _, by omega, by omega, by go_num, H.out.1, H.out.2.1, hk2.out.trans' H.out.2.2⟩
    · obtain rfl : k = 4 := by omega
      have hv := Lib.hid (mul_end hI hs.out.1)
      have hlen := hI.len
      have hrd : Rd wr 1 (.slice (some ⟨g4, 0, none⟩) 8 8) ts.length (uv ts) := by
        rw [hlen]; exact hb.rd (by simp [hlen]) (Nat.le_refl _)
      have H := Lib.hid (And.intro hI hrd)
      have hl2 := Lib.hid hlen
      have hk2 := Lib.hid hkw
      clear hI hb hkw hlen hrd
      go_wp2_with (first
        | (go_at_call 25; refine (long_at _ ts 8 _ hl2.out H.out.2 H.out.1.lt (by omega)).mono ?_; rintro e w6 ⟨rfl, k6⟩; have k7 := Lib.hid k6; clear k6)
        | (refine wpl_store_row structSc rfl (.tmp 4) (.tmp 66) rfl rfl rfl ((b3.out.kept hk2.out (by have := N.out.2.2; simpa using this)).kept k7.out (by simp)) rfl rfl (one_uva _) ?_; intro w7 b8 k8))
      refine ret_row structSc rfl rfl b8 rfl rfl ⟨?_, ((M.out.1.then1 hk2.out M.out.2.2).then0 k7.out).then1 k8 M.out.2.1⟩
      rw [hv.out]
end Go.Proofs.Ytfamfdihflkdpaa
