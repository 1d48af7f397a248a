/-
  The document's field: powers: the walk.
-/
import Derived.Test.YtkflljjcgihaoaaRf9
namespace Go.Proofs.Ytkflljjcgihaoaa
open Go.RowKit Go.Mem Go.Txt

theorem boolT : SliceT Try.prog 109 4 1 1 (.bool false) := ⟨Try.underlying109, by kernel_rfl, rfl, by omega⟩
abbrev Eb (u : World) (g N : Nat) (f : Nat → Bool) : Prop := Blk u g 4 ((fam N f).map Value.bool).toArray
theorem Eb.get {u : World} {g N : Nat} {f : Nat → Bool} (h : Eb u g N f) (i : Nat) (hi : i < N) : u.cell? ⟨g, i, none⟩ = some (.bool (f i)) := Blk.fget (v := Value.bool) h i hi
theorem Eb.same {u : World} {g N : Nat} {f f' : Nat → Bool} (h : Eb u g N f) (he : ∀ i, i < N → f i = f' i) : Eb u g N f' := by
  have := fam_ext N he
  unfold Eb at h ⊢
  rwa [this] at h
theorem mk_bool (N : Nat) (h : N ≤ 2000) : ∃ Z : Array Value, Z = ((fam N (fun _ => false)).map Value.bool).toArray ∧ ∀ W : World, (Instr.makeSlice 109 (.int .i64 N) (.int .i64 N)).run Try.prog W = .ok (.slice (some ⟨W.heap.size, 0, none⟩) N N) (W.alloc (.cells Z 4)) := by
  refine ⟨madeCells #[.bool false] N, made_no N, fun W => ?_⟩
  exact run_mk boolT N (by omega) (by omega) W
/-- By the bits of X below N, from the highest: c of them. -/
def pwd (a : Nat → Int) (X N : Nat) : Nat → Nat → Int
  | 0 => dgN 1
  | c + 1 => if X.testBit (N - c - 1) then muN (muN (pwd a X N c) (pwd a X N c)) a else muN (pwd a X N c) (pwd a X N c)
/-- What stands for a number, the digits somewhat greater. -/
structure Db (d : Nat → Int) (x : Nat) : Prop where
  sm : Sm 280000 d
  val : dv d 16 % PZ = ((x % PP : Nat) : Int)
theorem Dr.b {d : Nat → Int} {x : Nat} (h : Dr d x) : Db d x := ⟨h.sm.le (by omega), h.val⟩
theorem Dr.mub {a b : Nat → Int} {x y : Nat} (h : Dr a x) (h2 : Db b y) : Dr (muN a b) (x * y) := by
  refine ⟨muN_smB (h.sm.le (by omega)) h2.sm, ?_⟩
  rw [muN_val, Int.mul_emod, h.val, h2.val, PZ_eq, ← Int.natCast_mul, ← Int.natCast_emod, ← Nat.mul_mod]
theorem dr_pwd {a : Nat → Int} {A X N : Nat} (ha : Db a A) (hX : X < 2 ^ N) : ∀ c, c ≤ N → Dr (pwd a X N c) (A ^ (X / 2 ^ (N - c)))
  | 0, _ => by rw [Nat.sub_zero, Nat.div_eq_of_lt hX]; exact dr_dgN 1 (by decide)
  | c + 1, h => by
    have ih := dr_pwd ha hX c (by omega)
    have hs := pow_step A X (N - c) (by omega)
    rw [show N - (c + 1) = N - c - 1 from by omega, hs, pwd]
    split
    · exact (ih.mu ih).mub ha
    · exact ih.mu ih
/-- By the power 2^n - less. -/
def powN (a : Nat → Int) (n less : Nat) : Nat → Int := pwd a (2 ^ n - less) (n + 1) (n + 1)
theorem dr_powB {a : Nat → Int} {A : Nat} (ha : Db a A) (n less : Nat) : Dr (powN a n less) (A ^ (2 ^ n - less)) := by
  have := dr_pwd (X := 2 ^ n - less) (N := n + 1) ha (Nat.lt_of_le_of_lt (Nat.sub_le _ _) (Nat.pow_lt_pow_right (by omega) (by omega))) (n + 1) (Nat.le_refl _)
  rwa [Nat.sub_self, Nat.pow_zero, Nat.div_one] at this
theorem dr_pow {a : Nat → Int} {A : Nat} (ha : Dr a A) (n less : Nat) : Dr (powN a n less) (A ^ (2 ^ n - less)) := dr_powB ha.b n less
/-- What lies in memory. -/
structure PwM (w0 : World) (g3 g6 ge : Nat) (a : Nat → Int) (N : Nat) (f : Nat → Bool) (u : World) : Prop where
  a : Nb u g3 a
  r : Nb u g6 zd
  e : Eb u ge N f
  k : Kept [] w0 u
structure PwF (w0 : World) (g3 g6 ge : Nat) : Prop where
  n3 : g3 ≠ ge
  n6 : g6 ≠ ge
  le : w0.heap.size ≤ ge
  l6 : w0.heap.size ≤ g6
theorem PwM.kept {w0 : World} {g3 g6 ge : Nat} {a : Nat → Int} {N : Nat} {f : Nat → Bool} {u u' : World} (h : PwM w0 g3 g6 ge a N f u) (hk : Kept [] u u') : PwM w0 g3 g6 ge a N f u' :=
  ⟨Blk.kept h.a hk (by simp), Blk.kept h.r hk (by simp), Blk.kept h.e hk (by simp), h.k.then0 hk⟩
theorem PwM.set_ {w0 : World} {g3 g6 ge : Nat} {a : Nat → Int} {N : Nat} {f : Nat → Bool} {u : World} (h : PwM w0 g3 g6 ge a N f u) (n : PwF w0 g3 g6 ge) (i : Nat) (b : Bool) : PwM w0 g3 g6 ge a N (fun j => if j = i then b else f j) (u.setCell ⟨ge, i, none⟩ (.bool b)) :=
  have hk : Kept [ge] u (u.setCell ⟨ge, i, none⟩ (.bool b)) := (Kept.refl [ge] u).setCell (.inl (by simp)) _
  ⟨Blk.kept h.a hk (by simpa using n.n3), Blk.kept h.r hk (by simpa using n.n6), Blk.fset (v := Value.bool) h.e i b, h.k.then1 hk n.le⟩
theorem PwM.same {w0 : World} {g3 g6 ge : Nat} {a : Nat → Int} {N : Nat} {f f' : Nat → Bool} {u : World} (h : PwM w0 g3 g6 ge a N f u) (he : ∀ i, i < N → f i = f' i) : PwM w0 g3 g6 ge a N f' u := ⟨h.a, h.r, Eb.same h.e he, h.k⟩
theorem PwM.lt {w0 : World} {g3 g6 ge : Nat} {a : Nat → Int} {N : Nat} {f : Nat → Bool} {u : World} (h : PwM w0 g3 g6 ge a N f u) : g3 < u.heap.size ∧ g6 < u.heap.size ∧ ge < u.heap.size := ⟨Blk.lt h.a, Blk.lt h.r, Blk.lt h.e⟩

set_option maxRecDepth 100000 in
set_option maxHeartbeats 4000000 in
theorem power_big (a : Nat → Int) (A n less : Nat) (ha : Db a A) (hn : n ≤ 1000) (hl : less ≤ 2 ^ n) (hl2 : less < 1000) (w : World) :
    Calls Try.prog 75 #[nu a, .int .i64 n, .int .u64 less] w fun e w' => e = .returned (nu (powN a n less)) ∧ Kept [] w w' := by
  unfold powN
  obtain ⟨N, hN⟩ : ∃ N : Nat, N = n + 1 := ⟨_, rfl⟩
  rw [← hN]
  have eN : (n : Int) + 1 = (N : Int) := by omega
  have lN : n < N := by omega
  have lN2 : N ≤ 1001 := by omega
  obtain ⟨Z, hZ, hmk⟩ := mk_bool N (by omega)
  have hZh := Lib.hid hZ
  have haH := Lib.hid ha
  have hlH := Lib.hid hl
  have hNH := Lib.hid hN
  have c1 := Lib.hid (show ∀ W, Calls Try.prog 48 #[.int .u64 1] W fun e w' => e = .returned (nu (dgN 1)) ∧ Kept [] W w' from fun W => of_any 1 (by omega) W)
  clear ha hl hN hZ
  go_enter Try.func75, Try.ntmps75
  go_wp2_with (first
    | ((with_reducible refine wpl_box (o := ⟨some 3, _, _, _, _, _⟩) (v := nu a) rfl (.tmp 0) rfl rfl ?_); intro g3 w3 m3)
    | ((with_reducible refine wpl_new (o := ⟨some 6, _, _, _, _, _⟩) rfl rfl zeroN ?_); intro g6 w6 m6; have E0 : Eb (w6.alloc (.cells Z 4)) w6.heap.size N (fun _ => false) := (by rw [hZh.out]; exact Blk.new _ _ _); have e0 := E0.get n lN; have z0 := Blk.frozen E0 n))
  have ak : Kept [] w6 (w6.alloc (.cells Z 4)) := (Kept.refl [] w6).alloc _
  have P := Lib.hid (show PwF w g3 g6 w6.heap.size from ⟨fun h => by have := (m3.blk.kept m6.kept (by simp)).lt; omega, fun h => by have := m6.blk.lt; omega, (m3.kept.then0 m6.kept).size, Nat.le_trans m3.kept.size m6.le⟩)
  have M0 := Lib.hid (show PwM w g3 g6 w6.heap.size a N ((2 ^ n - 0).testBit) ((w6.alloc (.cells Z 4)).setCell ⟨w6.heap.size, n, none⟩ (.bool true)) from
    (PwM.set_ (f := fun _ => false) ⟨(m3.blk.kept m6.kept (by simp)).kept ak (by simp), m6.blk.kept ak (by simp), E0, (m3.kept.then0 m6.kept).then0 ak⟩ P.out n true).same fun i _ => by
      rw [Nat.sub_zero, Nat.testBit_two_pow]
      by_cases h : i = n
      · rw [if_pos h, h]; simp
      · rw [if_neg h]; exact (decide_eq_false (fun e => h e.symm)).symm)
  clear m3 m6 E0 e0 z0 ak
  rw [show (w6.alloc (.cells Z 4)).setCell ⟨w6.heap.size, n, none⟩ (.bool true) = w6.alloc (.cells (Z.setIfInBounds n (.bool true)) 4) from World.setCell_alloc_new _ _ _ _] at M0
  generalize w6.alloc (.cells (Z.setIfInBounds n (.bool true)) 4) = wb at *
  generalize w6.heap.size = ge at *
  go_loopg [8] less (fun f i wk => ∃ j : Nat, j ≤ less ∧ f + j = less ∧ i = .int .u64 (j : Int) ∧ PwM w g3 g6 ge a N ((2 ^ n - j).testBit) wk)
  case atStart => exact ⟨0, Nat.zero_le _, rfl, rfl, M0.out⟩
  case round =>
    obtain ⟨j, hj, hf, rfl, hb⟩ := hrel
    have H := Lib.hid hb
    clear hb
    by_cases hlt : j < less
    · obtain ⟨E, hE⟩ : ∃ E, E = 2 ^ n - j := ⟨_, rfl⟩
      have hE0 : 0 < E := by have := hlH.out; omega
      have hnext : 2 ^ n - (j + 1) = E - 1 := by omega
      obtain ⟨z, m, hzm⟩ := low_bit E hE0
      have hzn : z ≤ n := bit_le (z := z) (m := m) (n := n) (by omega)
      rw [← hE] at H
      replace hE := Lib.hid hE
      replace hzm := Lib.hid hzm
      replace hnext := Lib.hid hnext
      go_wp2_with fail
      go_loopg [9] z (fun f i wk => ∃ q : Nat, q ≤ z ∧ f + q = z ∧ i = .int .i64 (q : Int) ∧ PwM w g3 g6 ge a N (fun i => if i < q then true else E.testBit i) wk)
      case atStart => exact ⟨0, Nat.zero_le _, rfl, rfl, H.out.same fun i _ => (if_neg (by omega)).symm⟩
      case round =>
        obtain ⟨q, hq, hf2, rfl, hb⟩ := hrel
        have H2 := Lib.hid hb
        clear hb
        have c0 := H2.out.e.get q (by omega)
        rw [if_neg (by omega)] at c0
        have z0 := Blk.frozen H2.out.e q
        by_cases hlt2 : q < z
        · rw [hzm.out, bit_under z m q hlt2] at c0
          have F := Lib.hid (show PwM w g3 g6 ge a N (fun i => if i < q + 1 then true else E.testBit i) (wr.setCell ⟨ge, q, none⟩ (.bool true)) from (H2.out.set_ P.out q true).same fun i _ => by
            by_cases h : i = q
            · rw [if_pos h, if_pos (by omega)]
            · rw [if_neg h]
              by_cases h2 : i < q
              · rw [if_pos h2, if_pos (by omega)]
              · rw [if_neg h2, if_neg (by omega)])
          go_wp2_with fail
          go_roundg (z - (q + 1))
          case measure => omega
          case rel => exact ⟨q + 1, by omega, by omega, by go_num, F.out⟩
        · obtain rfl : q = z := by omega
          have hbt := bit_at q m
          rw [← hzm.out] at hbt
          rw [hbt] at c0
          have F := Lib.hid (show PwM w g3 g6 ge a N ((2 ^ n - (j + 1)).testBit) (wr.setCell ⟨ge, q, none⟩ (.bool false)) from (H2.out.set_ P.out q false).same fun i _ => by
            have := bit_less q m i
            rw [← hzm.out] at this
            rw [hnext.out, this]
            by_cases h : i = q
            · rw [if_pos h, if_neg (by omega), if_pos h]
            · rw [if_neg h]
              by_cases h2 : i < q
              · rw [if_pos h2, if_pos h2]
              · rw [if_neg h2, if_neg h2, if_neg h])
          clear hbt
          go_wp2_with fail
          go_roundg (less - (j + 1))
          case measure => omega
          case rel => exact ⟨j + 1, by omega, by omega, by go_num, F.out⟩
    · obtain rfl : j = less := by omega
      clear hlt M0
      go_wp2_with (first
        | (go_at_call 48; (with_reducible refine (c1.out _).mono ?_); rintro e x1 ⟨rfl, kk1⟩)
        | ((with_reducible refine wpl_new (o := ⟨some 10, _, _, _, _, _⟩) rfl rfl zeroN ?_); intro g10 w10 m10)
        | ((with_reducible refine wpl_store_row (o := ⟨none, .store 34 (.tmp 10) (.tmp 36), _, _, _, _⟩) arrN.row rfl (.tmp 10) (.tmp 36) rfl rfl rfl m10.blk rfl rfl (one_nu _) ?_); intro v10 b10 k10))
      have hx := (H.out.kept kk1).lt
      have G := Lib.hid (show g3 ≠ g10 ∧ g6 ≠ g10 ∧ ge ≠ g10 ∧ w.heap.size ≤ g10 from ⟨m10.ne hx.1, m10.ne hx.2.1, m10.ne hx.2.2, Nat.le_trans (H.out.kept kk1).k.size m10.le⟩)
      have HM := Lib.hid (show PwM w g3 g6 ge a N ((2 ^ n - j).testBit) v10 from by
        have h := (H.out.kept kk1).kept m10.kept
        exact ⟨Blk.kept h.a k10 (by simpa using G.out.1), Blk.kept h.r k10 (by simpa using G.out.2.1), Blk.kept h.e k10 (by simpa using G.out.2.2.1), h.k.then1 k10 G.out.2.2.2⟩)
      have R0 := Lib.hid (show Nb v10 g10 (dgN 1) from b10)
      clear kk1 m10 b10 k10 hx H
      obtain ⟨X, hX⟩ : ∃ X, X = 2 ^ n - j := ⟨_, rfl⟩
      have hX0 : X < 2 ^ N := (by rw [hX, hNH.out]; exact Nat.lt_of_le_of_lt (Nat.sub_le _ _) (Nat.pow_lt_pow_right (by omega) (by omega)))
      rw [← hX] at HM
      replace hX := Lib.hid hX
      replace hX0 := Lib.hid hX0
      clear hlH
      go_loopg [11] N (fun f i wk => ∃ m : Nat, f = m ∧ m ≤ N ∧ i = .int .i64 ((m : Int) - 1) ∧ ∃ d, d = pwd a X N (N - m) ∧ Nb wk g10 d ∧ Kept [g10] v10 wk)
      case atStart => exact ⟨N, rfl, Nat.le_refl _, by rw [← eN]; go_num, dgN 1, by rw [Nat.sub_self]; rfl, R0.out, Kept.refl _ _⟩
      case round =>
        obtain ⟨m, hf3, hm, rfl, d, hd, hb, hkw⟩ := hrel
        have hde := Lib.hid hd
        have hdH := Lib.hid (show Dr d (A ^ (X / 2 ^ m)) from by have := dr_pwd haH.out hX0.out (N - m) (by omega); rwa [← hd, show N - (N - m) = m from by omega] at this)
        have H := Lib.hid hb
        have HK := Lib.hid hkw
        clear hd hb hkw
        by_cases hm0 : 0 < m
        · have hi0 : (0 : Int) ≤ (m : Int) - 1 := by omega
          have hi1 : (1 : Int) ≤ (m : Int) := by omega
          have hst := Lib.hid (show pwd a X N (N - (m - 1)) = if X.testBit (m - 1) then muN (muN d d) a else muN d d from by rw [show N - (m - 1) = (N - m) + 1 from by omega, pwd, ← hde.out, show N - (N - m) - 1 = m - 1 from by omega])
          have cm := Lib.hid (rmul_any d d hdH.out.sm hdH.out.sm)
          have hsq := Lib.hid (hdH.out.mu hdH.out)
          have cm2 := Lib.hid (rmul_big (muN d d) a (hsq.out.sm.le (by omega)) haH.out.sm)
          by_cases hbt : X.testBit (m - 1) = true
          · replace hbt := Lib.hid hbt
            go_wp2_with (first
              | (with_reducible refine wpl_load_row (o := ⟨some 42, _, _, _, _, _⟩) arrN.row rfl (.tmp 10) rfl rfl H.out rfl ?_)
              | (with_reducible refine wpl_load_row (o := ⟨some 43, _, _, _, _, _⟩) arrN.row rfl (.tmp 10) rfl rfl H.out rfl ?_)
              | (go_at_call 46; (with_reducible refine (cm.out _).mono ?_); rintro e y1 ⟨rfl, kk1⟩)
              | ((with_reducible refine wpl_store_row (o := ⟨none, .store 34 (.tmp 10) (.tmp 44), _, _, _, _⟩) arrN.row rfl (.tmp 10) (.tmp 44) rfl rfl rfl (Blk.kept H.out kk1 (by simp)) rfl rfl (one_nu _) ?_); intro v5 b5 k5; have KK := Lib.hid ((HK.out.then0 kk1).trans k5 (fun _ _ h => h) (fun _ _ h => h)); have c0 := Eb.get (Blk.kept HM.out.e KK.out (by simpa using G.out.2.2.1)) (m - 1) (by omega); rw [hbt.out] at c0)
              | (with_reducible refine wpl_load_row (o := ⟨some 49, _, _, _, _, _⟩) arrN.row rfl (.tmp 10) rfl rfl b5 rfl ?_)
              | (with_reducible refine wpl_load_row (o := ⟨some 50, _, _, _, _, _⟩) arrN.row rfl (.tmp 3) rfl rfl (Blk.kept HM.out.a KK.out (by simpa using G.out.1)) rfl ?_)
              | (go_at_call 46; (with_reducible refine (cm2.out _).mono ?_); rintro e y2 ⟨rfl, kk2⟩)
              | ((with_reducible refine wpl_store_row (o := ⟨none, .store 34 (.tmp 10) (.tmp 51), _, _, _, _⟩) arrN.row rfl (.tmp 10) (.tmp 51) rfl rfl rfl (Blk.kept b5 kk2 (by simp)) rfl rfl (one_nu _) ?_); intro v6 b6 k6))
            go_roundg (m - 1)
            case measure => omega
            case rel =>
              refine ⟨m - 1, rfl, by omega, by go_num, _, ?_, b6, (KK.out.then0 kk2).trans k6 (fun _ _ h => h) (fun _ _ h => h)⟩
              rw [hst.out, if_pos hbt.out]
          · replace hbt := Lib.hid (show X.testBit (m - 1) = false from by simpa using hbt)
            go_wp2_with (first
              | (with_reducible refine wpl_load_row (o := ⟨some 42, _, _, _, _, _⟩) arrN.row rfl (.tmp 10) rfl rfl H.out rfl ?_)
              | (with_reducible refine wpl_load_row (o := ⟨some 43, _, _, _, _, _⟩) arrN.row rfl (.tmp 10) rfl rfl H.out rfl ?_)
              | (go_at_call 46; (with_reducible refine (cm.out _).mono ?_); rintro e y1 ⟨rfl, kk1⟩)
              | ((with_reducible refine wpl_store_row (o := ⟨none, .store 34 (.tmp 10) (.tmp 44), _, _, _, _⟩) arrN.row rfl (.tmp 10) (.tmp 44) rfl rfl rfl (Blk.kept H.out kk1 (by simp)) rfl rfl (one_nu _) ?_); intro v5 b5 k5; have KK := Lib.hid ((HK.out.then0 kk1).trans k5 (fun _ _ h => h) (fun _ _ h => h)); have c0 := Eb.get (Blk.kept HM.out.e KK.out (by simpa using G.out.2.2.1)) (m - 1) (by omega); rw [hbt.out] at c0))
            go_roundg (m - 1)
            case measure => omega
            case rel =>
              refine ⟨m - 1, rfl, by omega, by go_num, _, ?_, b5, KK.out⟩
              rw [hst.out, if_neg (by rw [hbt.out]; simp)]
        · obtain rfl : m = 0 := by omega
          go_wp2_with (first
            | (with_reducible refine wpl_load_row (o := ⟨some 52, _, _, _, _, _⟩) arrN.row rfl (.tmp 10) rfl rfl H.out rfl ?_)
            | ((with_reducible refine wpl_store_row (o := ⟨none, .store 34 (.tmp 6) (.tmp 52), _, _, _, _⟩) arrN.row rfl (.tmp 6) (.tmp 52) rfl rfl rfl (Blk.kept HM.out.r HK.out (by simpa using G.out.2.1)) rfl rfl (one_nu _) ?_); intro v6 b6 k6))
          exact ret_row arrN.row rfl rfl b6 rfl rfl ⟨by rw [hde.out, Nat.sub_zero, hX.out], (HM.out.k.then1 HK.out G.out.2.2.2).then1 k6 P.out.l6⟩
theorem power_any (a : Nat → Int) (A n less : Nat) (ha : Dr a A) (hn : n ≤ 1000) (hl : less ≤ 2 ^ n) (hl2 : less < 1000) (w : World) :
    Calls Try.prog 75 #[nu a, .int .i64 n, .int .u64 less] w fun e w' => e = .returned (nu (powN a n less)) ∧ Kept [] w w' := power_big a A n less ha.b hn hl hl2 w
end Go.Proofs.Ytkflljjcgihaoaa
