/-
  The document's curve: small points, multiples.
-/
import Derived.Test.YtkflljjcgihaoaaRr3
namespace Go.Proofs.Ytkflljjcgihaoaa
open Go.RowKit Go.Mem Go.Txt

def upR (f : Nat → R4) (n : Nat) (r : R4) (k : Nat) : R4 := if k ≤ n then f k else r
theorem upR_le {f : Nat → R4} {n : Nat} {r : R4} {k : Nat} (h : k ≤ n) : upR f n r k = f k := if_pos h
theorem upR_gt {f : Nat → R4} {n : Nat} {r : R4} {k : Nat} (h : ¬ k ≤ n) : upR f n r k = r := if_neg h
def upL (f : Nat → R4) (n : Nat) (r : R4) (k : Nat) : R4 := if k < n then f k else r
theorem upL_lt {f : Nat → R4} {n : Nat} {r : R4} {k : Nat} (h : k < n) : upL f n r k = f k := if_pos h
theorem upL_ge {f : Nat → R4} {n : Nat} {r : R4} {k : Nat} (h : ¬ k < n) : upL f n r k = r := if_neg h
theorem small_seq {dc : Nat → Int} {p : R4} {P : Ed.Pt} (hD : Dq 70000 dc Ed.D) (hp : Rr p P) : ∀ n, ∃ f : Nat → R4, f 0 = p ∧ (∀ k, k < n → RaddC dc (f k) (f k) (f (k + 1))) ∧ Rr (f n) (Ed.Pt.mul (2 ^ n) P)
  | 0 => ⟨fun _ => p, rfl, fun k h => absurd h (by omega), by rw [Nat.pow_zero, Ed.Pt.mul_1]; exact hp⟩
  | n + 1 => by
    obtain ⟨f, h0, h1, h2⟩ := small_seq hD hp n
    obtain ⟨r, c, hr⟩ := radd_r hD h2 h2
    rw [← Ed.Pt.mul_add, ← Nat.two_mul, Nat.mul_comm, ← Nat.pow_succ] at hr
    refine ⟨upR f n r, by rw [upR_le (Nat.zero_le _)]; exact h0, fun k hk => ?_, by rw [upR_gt (by omega)]; exact hr⟩
    rw [upR_le (show k ≤ n by omega)]
    by_cases hkn : k = n
    · subst hkn
      rw [upR_gt (by omega)]
      exact c
    · rw [upR_le (show k + 1 ≤ n by omega)]
      exact h1 k (by omega)
abbrev RsmC (d : Nat → Int) (p : R4) (b : Bool) : Prop := ∀ W, Calls Try.prog 16 #[nu d, p.v] W fun e w' => e = .returned (.bool b) ∧ Kept [] W w'
theorem enters_bytes (xs : Array Value) (w : World) : (callFunc 24 xs).run Try.prog w = .ok (.enter 24 xs) w := enters_of (c := _) Try.func24 (by kernel_rfl) rfl xs w
set_option maxRecDepth 100000 in
set_option maxHeartbeats 1600000 in
theorem rsmall_r {dc : Nat → Int} {p : R4} {P : Ed.Pt} (hD : Dq 70000 dc Ed.D) (hp : Rr p P) : RsmC dc p (decide (enc (Ed.Pt.mul 8 P) = 1)) := by
  obtain ⟨f, f0, cf, hf⟩ := small_seq hD hp 3
  obtain ⟨z, cz, hz⟩ := zero_r
  have c1 := rbytes hf
  have c2 := rbytes hz
  rw [show (2 : Nat) ^ 3 = 8 from rfl] at c1
  rw [enc_zero] at c2
  have q : (le (enc (Ed.Pt.mul 8 P)) 32 == le 1 32) = decide (enc (Ed.Pt.mul 8 P) = 1) := le_beq2 _ _ (lt_pow (enc_lt _)) (lt_pow one_lt)
  generalize decide (enc (Ed.Pt.mul 8 P) = 1) = b at *
  obtain ⟨l1, e1, n1⟩ : ∃ l, l = le (enc (Ed.Pt.mul 8 P)) 32 ∧ l.length = 32 := ⟨_, rfl, le_len _ _⟩
  obtain ⟨l2, e2, n2⟩ : ∃ l, l = le 1 32 ∧ l.length = 32 := ⟨_, rfl, le_len _ _⟩
  rw [← e1] at c1
  rw [← e2] at c2
  rw [← e1, ← e2] at q
  have q2 := eql_run q n1 n2
  have hb0 := f0
  intro w
  replace c1 := Lib.hid c1
  replace c2 := Lib.hid c2
  replace cz := Lib.hid cz
  replace cf := Lib.hid cf
  subst hb0
  clear e1 e2 n1 n2 q hf hz hD hp
  go_enter Try.func16, Try.ntmps16
  have t := Lib.hid (Pm.none w)
  go_wp2_with (first
    | ((with_reducible refine wpl_box (o := ⟨some 2, _, _, _, _, _⟩) (v := nu dc) rfl (.tmp 0) rfl rfl ?_); intro g2 w2 m2; replace t := Lib.hid ((t.out.kept m2.kept).cons (show Blk w2 g2 36 (iv (fam 16 dc)).toArray from m2.blk)); clear m2)
    | ((with_reducible refine wpl_box (o := ⟨some 3, _, _, _, _, _⟩) (v := (f 0).v) rfl (.tmp 1) rfl rfl ?_); intro g3 w3 m3; have N3 := Lib.hid (fun p hp => m3.ne (t.out.s p hp).lt); have L3 := Lib.hid (Nat.le_trans t.out.k.size m3.le); replace t := Lib.hid ((t.out.kept m3.kept).cons (show Blk w3 g3 39 (f 0).c.toArray from m3.blk)); clear m3))
  go_loopg [5] 3 (fun fu i wk => ∃ k : Nat, k ≤ 3 ∧ fu + k = 3 ∧ i = .int .i64 k ∧ Pm w [(g3, 39, (f k).c.toArray), (g2, 36, (iv (fam 16 dc)).toArray)] wk)
  case atStart => exact ⟨0, Nat.zero_le _, rfl, rfl, t.out⟩
  case round =>
    obtain ⟨k, hk, hfu, rfl, hp⟩ := hrel
    have t := Lib.hid hp
    clear hp
    by_cases hlt : k < 3
    · have ca := Lib.hid (cf.out k hlt)
      have s1 := Lib.hid (R4.size (f (k + 1)))
      have s2 := Lib.hid (R4.one (f (k + 1)))
      generalize hfk : f (k + 1) = f1 at *
      replace hfk := Lib.hid hfk
      go_wp2_with (first
        | (with_reducible refine wpl_load_row (o := ⟨some 10, _, _, _, _, _⟩) structCv rfl (.tmp 2) rfl rfl (t.out.s (g2, 36, (iv (fam 16 dc)).toArray) (by simp)) rfl ?_)
        | (with_reducible refine wpl_load_row (o := ⟨some 11, _, _, _, _, _⟩) structRt rfl (.tmp 3) rfl rfl (t.out.s (g3, 39, (f k).c.toArray) (by simp)) (R4.size _) ?_)
        | (with_reducible refine wpl_load_row (o := ⟨some 12, _, _, _, _, _⟩) structRt rfl (.tmp 3) rfl rfl (t.out.s (g3, 39, (f k).c.toArray) (by simp)) (R4.size _) ?_)
        | (go_at_call 25; (with_reducible refine (ca.out _).mono ?_); rintro e v ⟨rfl, kk⟩; replace t := Lib.hid (t.out.kept kk); clear kk)
        | ((refine wpl_store_row (o := ⟨none, .store 39 (.tmp 3) (.tmp 13), _, _, _, _⟩) structRt rfl (.tmp 3) (.tmp 13) rfl rfl rfl (t.out.s (g3, 39, (f k).c.toArray) (by simp)) (R4.size (f k)) s1.out s2.out ?_); intro v3 b3 k3; replace t := Lib.hid (t.out.again L3.out N3.out b3 k3); clear b3 k3))
      go_roundg (3 - (k + 1))
      case measure => omega
      case rel => exact ⟨k + 1, by omega, by omega, by go_num, by rw [hfk.out]; exact t.out⟩
    · obtain rfl : k = 3 := by omega
      clear cf
      go_wp2_with (first
        | (with_reducible refine wpl_load_row (o := ⟨some 14, _, _, _, _, _⟩) structRt rfl (.tmp 3) rfl rfl (t.out.s (g3, 39, (f 3).c.toArray) (by simp)) (R4.size _) ?_)
        | (go_at_call 24; (with_reducible refine (c1.out _).mono ?_); rintro e v ⟨rfl, kk⟩; replace t := Lib.hid (t.out.kept kk); clear kk)
        | (go_at_call 21; (with_reducible refine (cz.out _).mono ?_); rintro e v ⟨rfl, kk⟩; replace t := Lib.hid (t.out.kept kk); clear kk)
        | (go_at_call 24; (with_reducible refine (c2.out _).mono ?_); rintro e v ⟨rfl, kk⟩; replace t := Lib.hid (t.out.kept kk); clear kk))
      go_ret
      exact ⟨rfl, t.out.k⟩

theorem mul_seq {dc : Nat → Int} {p z : R4} {P : Ed.Pt} (hD : Dq 70000 dc Ed.D) (hp : Rr p P) (hz : Rr z Ed.Pt.zero) {X : Nat} (hX : X < T256) : ∀ n, n ≤ 256 → ∃ f g : Nat → R4, f 0 = z ∧ (∀ k, k < n → RaddC dc (f k) (f k) (g k) ∧ (tb X (255 - k) = true → RaddC dc (g k) p (f (k + 1))) ∧ (tb X (255 - k) = false → f (k + 1) = g k)) ∧ Rr (f n) (Ed.Pt.mul (X / 2 ^ (256 - n)) P)
  | 0, _ => ⟨fun _ => z, fun _ => z, rfl, fun k h => absurd h (by omega), by rw [Nat.sub_zero, Nat.div_eq_of_lt (by rw [T256_pow] at hX; exact hX), Ed.Pt.mul_0]; exact hz⟩
  | n + 1, hn => by
    obtain ⟨f, g, h0, h1, h2⟩ := mul_seq hD hp hz hX n (by omega)
    obtain ⟨r, c, hr⟩ := radd_r hD h2 h2
    obtain ⟨r2, c2, hr2⟩ := radd_r hD hr hp
    rw [← Ed.Pt.mul_add, ← Nat.two_mul] at hr
    rw [← Ed.Pt.mul_add, ← Nat.two_mul, ← Ed.Pt.mul_succ] at hr2
    have e : X / 2 ^ (256 - (n + 1)) = 2 * (X / 2 ^ (256 - n)) + (if tb X (255 - n) = true then 1 else 0) := by
      rw [show 256 - n = (255 - n) + 1 from by omega, show 256 - (n + 1) = 255 - n from by omega, Nat.pow_succ, ← Nat.div_div_eq_div_mul]
      unfold tb
      generalize X / 2 ^ (255 - n) = y
      by_cases hy : y % 2 = 1
      · rw [if_pos (by simpa using hy)]; omega
      · rw [if_neg (by simpa using hy)]; omega
    refine ⟨upR f n (if tb X (255 - n) = true then r2 else r), upL g n r, by rw [upR_le (Nat.zero_le _)]; exact h0, fun k hk => ?_, ?_⟩
    · rw [upR_le (show k ≤ n by omega)]
      by_cases hkn : k = n
      · subst hkn
        rw [upL_ge (show ¬ k < k by omega), upR_gt (show ¬ k + 1 ≤ k by omega)]
        exact ⟨c, fun h => by rw [if_pos h]; exact c2, fun h => by rw [if_neg (by rw [h]; decide)]⟩
      · rw [upL_lt (show k < n by omega), upR_le (show k + 1 ≤ n by omega)]
        exact h1 k (by omega)
    · rw [upR_gt (by omega), e]
      by_cases h : tb X (255 - n) = true
      · rw [if_pos h, if_pos h]; exact hr2
      · rw [if_neg h, if_neg h, Nat.add_zero]; exact hr
abbrev RmuC (d : Nat → Int) (p : R4) (l : List UInt8) (r : R4) : Prop := ∀ W, Calls Try.prog 22 #[nu d, p.v, ab l] W fun e w' => e = .returned r.v ∧ Kept [] W w'
theorem tbk {X k : Nat} (_ : k < 256) : (((byt X (k / 8) : Nat) : Int) / 2 ^ (k % 8)).tmod 2 = if tb X k = true then 1 else 0 := by
  have h := tb_byt X (k / 8) (k % 8) (Nat.mod_lt _ (by decide))
  rw [Nat.div_add_mod] at h
  have hc : (((byt X (k / 8) : Nat) : Int) / 2 ^ (k % 8)) = ((byt X (k / 8) / 2 ^ (k % 8) : Nat) : Int) := by push_cast; rfl
  rw [hc]
  generalize byt X (k / 8) / 2 ^ (k % 8) = y at *
  rw [Int.tmod_eq_emod_of_nonneg (by omega)]
  unfold tb
  rw [← h]
  by_cases hy : y % 2 = 1
  · rw [if_pos (by simpa using hy)]; omega
  · rw [if_neg (by simpa using hy)]; omega
set_option maxRecDepth 100000 in
set_option maxHeartbeats 3200000 in
theorem rmult_r {dc : Nat → Int} {p : R4} {P : Ed.Pt} (hD : Dq 70000 dc Ed.D) (hp : Rr p P) {l : List UInt8} (hl : l.length = 32) : ∃ r, RmuC dc p l r ∧ Rr r (Ed.Pt.mul (leV l) P) := by
  obtain ⟨z, cz, hz⟩ := zero_r
  obtain ⟨f, g, f0, cf, hf⟩ := mul_seq hD hp hz (leV_T hl) 256 (by omega)
  rw [show 256 - 256 = 0 from rfl, Nat.pow_zero, Nat.div_one] at hf
  refine ⟨f 256, ?_, hf⟩
  intro w
  have hle := le_of hl
  obtain ⟨X, hX⟩ : ∃ X, X = leV l := ⟨_, rfl⟩
  rw [← hX] at cf hle
  subst hle
  subst f0
  replace cz := Lib.hid cz
  replace cf := Lib.hid cf
  clear hf hX hz hD hp hl
  have tk := fun k h => tbk (X := X) (k := k) h
  replace tk := Lib.hid tk
  go_enter Try.func22, Try.ntmps22
  have t := Lib.hid (Pm.none w)
  go_wp2_with (first
    | ((with_reducible refine wpl_box (o := ⟨some 3, _, _, _, _, _⟩) (v := nu dc) rfl (.tmp 0) rfl rfl ?_); intro g3 w3 m3; replace t := Lib.hid ((t.out.kept m3.kept).cons (show Blk w3 g3 36 (iv (fam 16 dc)).toArray from m3.blk)); clear m3)
    | ((with_reducible refine wpl_box (o := ⟨some 4, _, _, _, _, _⟩) (v := p.v) rfl (.tmp 1) rfl rfl ?_); intro g4 w4 m4; replace t := Lib.hid ((t.out.kept m4.kept).cons (show Blk w4 g4 39 p.c.toArray from m4.blk)); clear m4)
    | ((with_reducible refine wpl_box (o := ⟨some 5, _, _, _, _, _⟩) (v := ab (le X 32)) rfl (.tmp 2) rfl rfl ?_); intro g5 w5 m5; replace t := Lib.hid ((t.out.kept m5.kept).cons (show Blk w5 g5 22 (bv (le X 32)).toArray from m5.blk)); clear m5)
    | ((with_reducible refine wpl_new (o := ⟨some 6, _, _, _, _, _⟩) rfl rfl zeroRt ?_); intro g6 w6 m6; have L6 := Lib.hid (Nat.le_trans t.out.k.size m6.le); replace t := Lib.hid ((t.out.kept m6.kept).cons (show Blk w6 g6 39 rz.c.toArray from m6.blk)); clear m6)
    | (go_at_call 21; (with_reducible refine (cz.out _).mono ?_); rintro e v ⟨rfl, kk⟩; replace t := Lib.hid (t.out.kept kk); clear kk)
    | ((with_reducible refine wpl_new (o := ⟨some 7, _, _, _, _, _⟩) rfl rfl zeroRt ?_); intro g7 w7 m7; have N7 := Lib.hid (fun p hp => m7.ne (t.out.s p hp).lt); have L7 := Lib.hid (Nat.le_trans t.out.k.size m7.le); replace t := Lib.hid ((t.out.kept m7.kept).cons (show Blk w7 g7 39 rz.c.toArray from m7.blk)); clear m7)
    | ((refine wpl_store_row (o := ⟨none, .store 39 (.tmp 7) (.tmp 9), _, _, _, _⟩) structRt rfl (.tmp 7) (.tmp 9) rfl rfl rfl (t.out.s (g7, 39, rz.c.toArray) (by simp)) (R4.size rz) (R4.size (f 0)) (R4.one (f 0)) ?_); intro v7 b7 k7; replace t := Lib.hid (t.out.again L7.out N7.out b7 k7); clear b7 k7))
  go_loopg [8] 256 (fun fu i wk => ∃ m : Nat, fu = m ∧ m ≤ 256 ∧ (∃ z : Int, i = .int .i64 z ∧ z = (m : Int) - 1) ∧ Pm w [(g7, 39, (f (256 - m)).c.toArray), (g6, 39, rz.c.toArray), (g5, 22, (bv (le X 32)).toArray), (g4, 39, p.c.toArray), (g3, 36, (iv (fam 16 dc)).toArray)] wk)
  case atStart => exact ⟨256, rfl, Nat.le_refl _, ⟨_, rfl, rfl⟩, t.out⟩
  case round =>
    obtain ⟨m, hfu, hm, ⟨z, rfl, hz⟩, hp⟩ := hrel
    have t := Lib.hid hp
    clear hp
    by_cases hm0 : 0 < m
    · obtain ⟨k, rfl⟩ : ∃ k, m = k + 1 := ⟨m - 1, by omega⟩
      obtain rfl : z = (k : Int) := by omega
      clear hz hm0
      have hk : k < 256 := by omega
      have hk8 : k / 8 < 32 := by omega
      obtain ⟨ca, cb, ce⟩ := cf.out (256 - (k + 1)) (by omega)
      rw [show 255 - (256 - (k + 1)) = k from by omega, show 256 - (k + 1) + 1 = 256 - k from by omega] at cb ce
      replace ca := Lib.hid ca
      have tk := tk.out k hk
      have s0 := Lib.hid (R4.size (f (256 - (k + 1))))
      have s1 := Lib.hid (R4.size (g (256 - (k + 1))))
      have s2 := Lib.hid (R4.one (g (256 - (k + 1))))
      have s3 := Lib.hid (R4.size (f (256 - k)))
      have s4 := Lib.hid (R4.one (f (256 - k)))
      generalize hf1 : f (256 - k) = f1 at *
      generalize hf0 : f (256 - (k + 1)) = f0 at *
      generalize g (256 - (k + 1)) = g1 at *
      replace hf1 := Lib.hid hf1
      clear hf0
      by_cases htb : tb X k = true
      · rw [if_pos htb] at tk
        have cb := Lib.hid (cb htb)
        clear ce htb
        have hbl : (0 : Int) ≤ (byt X (k / 8) : Nat) := by omega
        go_wp2_with (first
          | (with_reducible refine wpl_load_row (o := ⟨some 14, _, _, _, _, _⟩) structCv rfl (.tmp 3) rfl rfl (t.out.s (g3, 36, (iv (fam 16 dc)).toArray) (by simp)) rfl ?_)
          | (with_reducible refine wpl_load_row (o := ⟨some 15, _, _, _, _, _⟩) structRt rfl (.tmp 7) rfl rfl (t.out.s (g7, 39, f0.c.toArray) (by simp)) s0.out ?_)
          | (with_reducible refine wpl_load_row (o := ⟨some 16, _, _, _, _, _⟩) structRt rfl (.tmp 7) rfl rfl (t.out.s (g7, 39, f0.c.toArray) (by simp)) s0.out ?_)
          | (go_at_call 25; (with_reducible refine (ca.out _).mono ?_); rintro e v ⟨rfl, kk⟩; replace t := Lib.hid (t.out.kept kk); clear kk)
          | ((refine wpl_store_row (o := ⟨none, .store 39 (.tmp 7) (.tmp 17), _, _, _, _⟩) structRt rfl (.tmp 7) (.tmp 17) rfl rfl rfl (t.out.s (g7, 39, f0.c.toArray) (by simp)) s0.out s1.out s2.out ?_); intro v7 b7 k7; replace t := Lib.hid (t.out.again L7.out N7.out b7 k7); clear b7 k7; have q1 := Blk.getb (t.out.s (g5, 22, (bv (le X 32)).toArray) (by simp)) hk8)
          | (with_reducible refine wpl_load_row (o := ⟨some 28, _, _, _, _, _⟩) structCv rfl (.tmp 3) rfl rfl (t.out.s (g3, 36, (iv (fam 16 dc)).toArray) (by simp)) rfl ?_)
          | (with_reducible refine wpl_load_row (o := ⟨some 29, _, _, _, _, _⟩) structRt rfl (.tmp 7) rfl rfl (t.out.s (g7, 39, g1.c.toArray) (by simp)) s1.out ?_)
          | (with_reducible refine wpl_load_row (o := ⟨some 30, _, _, _, _, _⟩) structRt rfl (.tmp 4) rfl rfl (t.out.s (g4, 39, p.c.toArray) (by simp)) (R4.size p) ?_)
          | (go_at_call 25; (with_reducible refine (cb.out _).mono ?_); rintro e v ⟨rfl, kk⟩; replace t := Lib.hid (t.out.kept kk); clear kk)
          | ((refine wpl_store_row (o := ⟨none, .store 39 (.tmp 7) (.tmp 31), _, _, _, _⟩) structRt rfl (.tmp 7) (.tmp 31) rfl rfl rfl (t.out.s (g7, 39, g1.c.toArray) (by simp)) s1.out s3.out s4.out ?_); intro v8 b8 k8; replace t := Lib.hid (t.out.again L7.out N7.out b8 k8); clear b8 k8))
        clear q1
        go_roundg k
        case measure => omega
        case rel => exact ⟨k, rfl, by omega, ⟨_, by go_num, rfl⟩, by rw [hf1.out]; exact t.out⟩
      · rw [if_neg htb] at tk
        have ce := Lib.hid (ce (by simpa using htb))
        clear cb htb
        go_wp2_with (first
          | (with_reducible refine wpl_load_row (o := ⟨some 14, _, _, _, _, _⟩) structCv rfl (.tmp 3) rfl rfl (t.out.s (g3, 36, (iv (fam 16 dc)).toArray) (by simp)) rfl ?_)
          | (with_reducible refine wpl_load_row (o := ⟨some 15, _, _, _, _, _⟩) structRt rfl (.tmp 7) rfl rfl (t.out.s (g7, 39, f0.c.toArray) (by simp)) s0.out ?_)
          | (with_reducible refine wpl_load_row (o := ⟨some 16, _, _, _, _, _⟩) structRt rfl (.tmp 7) rfl rfl (t.out.s (g7, 39, f0.c.toArray) (by simp)) s0.out ?_)
          | (go_at_call 25; (with_reducible refine (ca.out _).mono ?_); rintro e v ⟨rfl, kk⟩; replace t := Lib.hid (t.out.kept kk); clear kk)
          | ((refine wpl_store_row (o := ⟨none, .store 39 (.tmp 7) (.tmp 17), _, _, _, _⟩) structRt rfl (.tmp 7) (.tmp 17) rfl rfl rfl (t.out.s (g7, 39, f0.c.toArray) (by simp)) s0.out s1.out s2.out ?_); intro v7 b7 k7; replace t := Lib.hid (t.out.again L7.out N7.out b7 k7); clear b7 k7; have q1 := Blk.getb (t.out.s (g5, 22, (bv (le X 32)).toArray) (by simp)) hk8))
        clear q1
        go_roundg k
        case measure => omega
        case rel => exact ⟨k, rfl, by omega, ⟨_, by go_num, rfl⟩, by rw [hf1.out, ce.out]; exact t.out⟩
    · obtain rfl : m = 0 := by omega
      obtain rfl : z = -1 := by omega
      clear hz cf tk
      rw [show 256 - 0 = 256 from rfl] at t
      have s0 := Lib.hid (R4.size (f 256))
      have s1 := Lib.hid (R4.one (f 256))
      generalize hf2 : f 256 = f0 at *
      replace hf2 := Lib.hid hf2
      go_wp2_with (first
        | (with_reducible refine wpl_load_row (o := ⟨some 32, _, _, _, _, _⟩) structRt rfl (.tmp 7) rfl rfl (t.out.s (g7, 39, f0.c.toArray) (by simp)) s0.out ?_)
        | ((refine wpl_store_row (o := ⟨none, .store 39 (.tmp 6) (.tmp 32), _, _, _, _⟩) structRt rfl (.tmp 6) (.tmp 32) rfl rfl rfl (t.out.s (g6, 39, rz.c.toArray) (by simp)) (R4.size rz) s0.out s1.out ?_); intro v7 b7 k7))
      exact ret_row structRt rfl rfl b7 s0.out rfl ⟨by rw [hf2.out], t.out.k.then1 k7 L6.out⟩
end Go.Proofs.Ytkflljjcgihaoaa
