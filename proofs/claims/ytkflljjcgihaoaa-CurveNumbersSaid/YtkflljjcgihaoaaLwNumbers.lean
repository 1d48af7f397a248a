/-
  The curve's laws: multiples reckon as numbers modulo L (CurveNumbers).
-/
import Derived.Test.YtkflljjcgihaoaaLw1
import Derived.Test.YtkflljjcgihaoaaSz
namespace Go.Proofs.Ytkflljjcgihaoaa
open Go.RowKit Go.Mem Go.Txt

theorem zle (x n : Nat) : Z.le x n = le x n := rfl
theorem zleV : ∀ l : List UInt8, Z.leV l = leV l
  | [] => rfl
  | a :: l => by rw [Z.leV, leV, zleV l]
theorem zLL : Z.LL = LL := rfl
theorem bytesT : SliceT Try.prog 60 5 1 1 (.int .u8 0) := ⟨Try.underlying60, by kernel_rfl, rfl, by omega⟩
theorem arrL : ArrT Try.prog 59 5 64 := ⟨Try.underlying59, by kernel_rfl⟩
theorem zeroL : (Try.prog.info? 59).map (·.zero) = some (some (ab (noughts 64))) := by kernel_rfl
theorem zeroSc : (Try.prog.info? 63).map (·.zero) = some (some (Z.w4 0)) := by kernel_rfl
theorem bsize64 {l : List UInt8} (h : l.length = 64) : (bv l).toArray.size = 64 := by simp [h]
theorem exec_neb {a : Act} {o : Oper} {u : World} {l m : List UInt8} {b : Bool} (x y : Operand) {r : TypeId} (ho : o.op = .binOp .neq 22 x y r) (hx : a.eval x = ab l) (hy : a.eval y = ab m) (h : (l == m) = b) (h1 : l.length = 32) (h2 : m.length = 32) : (execOp a.eval o).run Try.prog u = .ok (.value (.bool (!b))) u :=
  (exec_neq_ab arrB Try.underlying5 (by kernel_rfl) (by kernel_rfl) x y ho hx hy h1 h2).trans (by rw [h])
theorem enters_swide (xs : Array Value) (w : World) : (callFunc 28 xs).run Try.prog w = .ok (.enter 28 xs) w := enters_of (c := _) Try.func28 (by kernel_rfl) rfl xs w
abbrev WzC (l : List UInt8) (u : Nat) : Prop := ∀ W, Calls Try.prog 28 #[ab l] W fun e w' => e = .returned (Z.w4 u) ∧ Kept [] W w'
abbrev HzC (u : Nat) (l : List UInt8) : Prop := ∀ W, Calls Try.prog 29 #[Z.w4 u] W fun e w' => e = .returned (ab l) ∧ Kept [] W w'
abbrev AzC (u v r : Nat) : Prop := ∀ W, Calls Try.prog 30 #[Z.w4 u, Z.w4 v] W fun e w' => e = .returned (Z.w4 r) ∧ Kept [] W w'
abbrev PzC (u v r : Nat) : Prop := ∀ W, Calls Try.prog 31 #[Z.w4 u, Z.w4 v] W fun e w' => e = .returned (Z.w4 r) ∧ Kept [] W w'
theorem leV_pad : ∀ (a : List UInt8) (n : Nat), leV (a ++ noughts n) = leV a
  | [], n => leV_noughts n
  | x :: a, n => by
    show leV (x :: (a ++ noughts n)) = _
    rw [leV, leV, leV_pad a n]
theorem wide_z {a l : List UInt8} (_ : a.length = 32) (e : l = a ++ noughts 32) (hl : l.length = 64) : ∃ u, WzC l u ∧ u < LL ∧ u = leV a % LL := by
  have h : ∀ W, Calls Try.prog 28 #[ab l] W fun e w' => e = .returned (Z.w4 (Z.leV l % Z.LL)) ∧ Kept [] W w' := fun W => Z.wide_any l hl W
  have e2 : Z.leV l % Z.LL = leV a % LL := by rw [zleV, e, leV_pad, zLL]
  rw [e2] at h
  exact ⟨_, h, Nat.mod_lt _ Z.LL_pos, rfl⟩
theorem LL_T256 {u : Nat} (h : u < LL) : u < 2 ^ (8 * 32) := Nat.lt_trans h (show LL < 2 ^ (8 * 32) by decide +kernel)
theorem hash_z {u : Nat} (h : u < LL) : ∃ l : List UInt8, HzC u l ∧ l.length = 32 ∧ leV l = u := ⟨le u 32, fun W => Z.hash_any u W, le_len _ _, by rw [leV_le]; exact Nat.mod_eq_of_lt (LL_T256 h)⟩
theorem add_z {u v : Nat} (h : u < LL) (h2 : v < LL) : ∃ r, AzC u v r ∧ r < LL ∧ r = (u + v) % LL := ⟨_, fun W => Z.add_any u v h h2 W, Nat.mod_lt _ Z.LL_pos, rfl⟩
theorem mul_z {u v : Nat} (h : u < LL) (h2 : v < LL) : ∃ r, PzC u v r ∧ r < LL ∧ r = u * v % LL := ⟨_, fun W => Z.mul_any u v (Nat.lt_trans h Z.LL_lt) (Nat.lt_trans h2 Z.LL_lt) W, Nat.mod_lt _ Z.LL_pos, rfl⟩
theorem over_pad (a : List UInt8) (h : a.length = 32) : (over (ab (noughts 64)).cells.toList 0 (List.take 64 (bv a))).toArray = (bv (a ++ noughts 32)).toArray := by
  rw [List.take_of_length_le (by simp [h])]
  have e : over (noughts 64) 0 a = a ++ noughts 32 := by rw [over0, h]; rfl
  rw [← e]
  exact congrArg _ (over_bv (noughts 64) _ 0)

set_option maxRecDepth 100000 in
set_option maxHeartbeats 4000000 in
theorem numbers_walk (x y : List UInt8) (w : World) (nx : x.length = 32) (ny : y.length = 32) : Calls Try.prog 9 #[ab x, ab y] w fun e w' => e = .returned (.bool true) ∧ Kept [] w w' := by
  have cf := Lib.hid first_any
  obtain ⟨x64, ex64, nx64⟩ : ∃ l : List UInt8, l = x ++ noughts 32 ∧ l.length = 64 := ⟨_, rfl, by simp [nx]⟩
  obtain ⟨y64, ey64, ny64⟩ : ∃ l : List UInt8, l = y ++ noughts 32 ∧ l.length = 64 := ⟨_, rfl, by simp [ny]⟩
  have ox := over_pad x nx
  rw [← ex64] at ox
  have oy := over_pad y ny
  rw [← ey64] at oy
  have bx := (show (bv x).length = 32 by simp [nx])
  have by_ := (show (bv y).length = 32 by simp [ny])
  obtain ⟨su, csu, ltsu, esu⟩ := wide_z nx ex64 nx64
  obtain ⟨sv, csv, ltsv, esv⟩ := wide_z ny ey64 ny64
  obtain ⟨b, cb, hb⟩ := base_e
  obtain ⟨r1, c1, h1⟩ := mul_s hb nx
  obtain ⟨H0, hH0, nH0⟩ : ∃ l : List UInt8, l = le (enc (Ed.Pt.mul (leV x) BB)) 32 ∧ l.length = 32 := ⟨_, rfl, le_len _ _⟩
  have c2 : HsC r1 H0 := hash_l hH0 h1 rfl
  obtain ⟨Zsu, cZsu, nZsu, eZsu⟩ := hash_z ltsu
  obtain ⟨r3, c3, h3⟩ := mul_s hb nZsu
  have c4 : HsC r3 H0 := hash_l hH0 h3 (by rw [eZsu, esu]; exact (Ed.Pt.mul_mod BB order_B _).symm)
  obtain ⟨sa, csa, ltsa, esa⟩ := add_z ltsu ltsv
  obtain ⟨Zsa, cZsa, nZsa, eZsa⟩ := hash_z ltsa
  obtain ⟨r5, c5, h5⟩ := mul_s hb nZsa
  obtain ⟨H1, hH1, nH1⟩ : ∃ l : List UInt8, l = le (enc (Ed.Pt.mul su BB + Ed.Pt.mul sv BB)) 32 ∧ l.length = 32 := ⟨_, rfl, le_len _ _⟩
  have c6 : HsC r5 H1 := hash_l hH1 h5 (by rw [eZsa, esa, ← Ed.Pt.mul_mod BB order_B, Ed.Pt.mul_add])
  obtain ⟨Zsv, cZsv, nZsv, eZsv⟩ := hash_z ltsv
  obtain ⟨r7, c7, h7⟩ := mul_s hb nZsv
  obtain ⟨r8, c8, h8⟩ := add_e h3 h7
  have c9 : HsC r8 H1 := hash_l hH1 h8 (by rw [eZsu, eZsv])
  obtain ⟨sp, csp, ltsp, esp⟩ := mul_z ltsu ltsv
  obtain ⟨Zsp, cZsp, nZsp, eZsp⟩ := hash_z ltsp
  obtain ⟨r10, c10, h10⟩ := mul_s hb nZsp
  obtain ⟨H2, hH2, nH2⟩ : ∃ l : List UInt8, l = le (enc (Ed.Pt.mul sv (Ed.Pt.mul su BB))) 32 ∧ l.length = 32 := ⟨_, rfl, le_len _ _⟩
  have c11 : HsC r10 H2 := hash_l hH2 h10 (by rw [eZsp, esp, ← Ed.Pt.mul_mod BB order_B, Ed.Pt.mul_mul])
  obtain ⟨r12, c12, h12⟩ := mul_s h3 nZsv
  have c13 : HsC r12 H2 := hash_l hH2 h12 (by rw [eZsv, eZsu])
  have Q32 : (H0 == H0) = true := beq_self_eq_true _
  have q32 := eql_run Q32 nH0 nH0
  have Q50 : (H1 == H1) = true := beq_self_eq_true _
  have q50 := eql_run Q50 nH1 nH1
  have Q67 : (H2 == H2) = true := beq_self_eq_true _
  have q67 := eql_run Q67 nH2 nH2
  replace Q32 := Lib.hid Q32
  replace Q50 := Lib.hid Q50
  replace Q67 := Lib.hid Q67
  replace c1 := Lib.hid c1
  replace c10 := Lib.hid c10
  replace c11 := Lib.hid c11
  replace c12 := Lib.hid c12
  replace c13 := Lib.hid c13
  replace c2 := Lib.hid c2
  replace c3 := Lib.hid c3
  replace c4 := Lib.hid c4
  replace c5 := Lib.hid c5
  replace c6 := Lib.hid c6
  replace c7 := Lib.hid c7
  replace c8 := Lib.hid c8
  replace c9 := Lib.hid c9
  replace cZsa := Lib.hid cZsa
  replace cZsp := Lib.hid cZsp
  replace cZsu := Lib.hid cZsu
  replace cZsv := Lib.hid cZsv
  replace cb := Lib.hid cb
  replace csa := Lib.hid csa
  replace csp := Lib.hid csp
  replace csu := Lib.hid csu
  replace csv := Lib.hid csv
  replace nx := Lib.hid nx
  replace ny := Lib.hid ny
  replace nH0 := Lib.hid nH0
  replace nH1 := Lib.hid nH1
  replace nH2 := Lib.hid nH2
  clear hH0 hH1 hH2 hb h1 h3 h5 h7 h8 h10 h12
  replace nx64 := Lib.hid nx64
  replace ny64 := Lib.hid ny64
  replace ox := Lib.hid ox
  replace oy := Lib.hid oy
  replace bx := Lib.hid bx
  replace by_ := Lib.hid by_
  replace nZsu := Lib.hid nZsu
  replace nZsa := Lib.hid nZsa
  replace nZsv := Lib.hid nZsv
  replace nZsp := Lib.hid nZsp
  clear eZsu eZsa eZsv eZsp esu esv esa esp ltsu ltsv ltsa ltsp ex64 ey64
  go_enter Try.func9, Try.ntmps9
  have t := Lib.hid (Pm.none w)
  go_wp2_with (first
    | ((with_reducible refine wpl_box (o := ⟨some 2, _, _, _, _, _⟩) (v := ab x) rfl (.tmp 0) rfl rfl ?_); intro g2 w2 m2; replace t := Lib.hid ((t.out.kept m2.kept).cons (show Blk w2 g2 22 (bv x).toArray from m2.blk)); clear m2)
    | ((with_reducible refine wpl_box (o := ⟨some 3, _, _, _, _, _⟩) (v := ab y) rfl (.tmp 1) rfl rfl ?_); intro g3 w3 m3; replace t := Lib.hid ((t.out.kept m3.kept).cons (show Blk w3 g3 22 (bv y).toArray from m3.blk)); clear m3)
    | (go_at_call 10; (with_reducible refine (cf.out _).mono ?_); rintro e v ⟨rfl, kk⟩; replace t := Lib.hid (t.out.kept kk); clear kk)
    | ((with_reducible refine wpl_new (o := ⟨some 5, _, _, _, _, _⟩) rfl rfl zeroL ?_); intro g5 w5 m5; have N5 := Lib.hid (fun p hp => m5.ne (t.out.s p hp).lt); have L5 := Lib.hid (Nat.le_trans t.out.k.size m5.le); replace t := Lib.hid (t.out.kept m5.kept); have B5 := Lib.hid (show Blk w5 g5 59 (ab (noughts 64)).cells from m5.blk))
    | ((with_reducible refine wpl_new (o := ⟨some 6, _, _, _, _, _⟩) rfl rfl zeroL ?_); intro g6 w6 m6; have N6 := Lib.hid (fun p hp => m6.ne (t.out.s p hp).lt); have L6 := Lib.hid (Nat.le_trans t.out.k.size m6.le); have D6 := Lib.hid (m6.ne B5.out.lt); replace t := Lib.hid (t.out.kept m6.kept); replace B5 := Lib.hid (B5.out.kept m6.kept (by simp)); have B6 := Lib.hid (show Blk w6 g6 59 (ab (noughts 64)).cells from m6.blk); clear m5 m6))
  refine Txt.wp_text (by kernel_rfl) (by kernel_rfl) ?_
  go_wp2_with (refine wpl_cpy bytesT rfl (.tmp 12) (.tmp 13) rfl rfl B5.out.drew (Nat.le_of_eq rfl) rfl (Blk.rd (t.out.s (g2, 22, (bv x).toArray) (by simp)).drew bx.out (Nat.le_refl _)) (one_bv _) ?_; intro v5 b5 k5)
  rw [ox.out] at b5
  refine ⟨rfl, by kernel_rfl, ?_⟩
  replace t := Lib.hid (Pm.again2 t.out.drew N5.out L5.out b5 k5)
  replace B6 := Lib.hid (B6.out.drew.kept k5 (by simpa using fun e => D6.out e.symm))
  clear b5 k5 B5
  go_wp2_with fail
  refine Txt.wp_text (by kernel_rfl) (by kernel_rfl) ?_
  go_wp2_with (refine wpl_cpy bytesT rfl (.tmp 15) (.tmp 16) rfl rfl B6.out.drew (Nat.le_of_eq rfl) rfl (Blk.rd (t.out.s (g3, 22, (bv y).toArray) (by simp)).drew by_.out (Nat.le_refl _)) (one_bv _) ?_; intro v6 b6 k6)
  rw [oy.out] at b6
  refine ⟨rfl, by kernel_rfl, ?_⟩
  replace t := Lib.hid (Pm.again2 t.out.drew (fun p hp => (List.mem_cons.1 hp).elim (fun e => by subst e; exact D6.out) (N6.out p)) L6.out b6 k6)
  clear b6 k6 B6
  go_wp2_with fail
  refine wp_multi (by kernel_rfl) [.val (ab x64), .val (Z.w4 su), .val (ab y64), .val (Z.w4 sv), .new 63 (Z.w4 0), .new 63 (Z.w4 0), .put 4 1 (uv (Z.ws4 su)).toArray, .put 5 3 (uv (Z.ws4 sv)).toArray]
    (Pm w [(g6, 59, (bv y64).toArray), (g5, 59, (bv x64).toArray), (g3, 22, (bv y).toArray), (g2, 22, (bv x).toArray)]) (by kernel_rfl) (by kernel_rfl) t.out.drew (fun u u' T hS hk hT => t.out.fresh u u' T hS hk hT) ?_ ?_
  · refine ⟨?_, ?_, ?_, ?_, ⟨⟨_, rfl⟩, rfl, zeroSc⟩, ⟨⟨_, rfl⟩, rfl, zeroSc⟩, ?_, ?_, trivial⟩
    · exact ⟨⟨_, rfl⟩, fun a' u K0 R hS hr ho h => wp_loadr arrL.row (.tmp 5) rfl ((ho 5 (by decide)).trans rfl) (hS.s (g5, 59, (bv x64).toArray) (by simp)) (bsize64 nx64.out) (h u (Kept.refl _ _))⟩
    · refine ⟨⟨_, rfl⟩, fun a' u K0 R hS hr ho h => wp_callf rfl enters_swide (vs := #[ab x64]) ?_ (csu.out u) h⟩
      have x0 := hr 0 (ab x64) 18 _ rfl rfl rfl ⟨⟨0, .data⟩, by simp, rfl, rfl⟩
      simp [Act.eval] at x0 ⊢
      exact x0
    · exact ⟨⟨_, rfl⟩, fun a' u K0 R hS hr ho h => wp_loadr arrL.row (.tmp 6) rfl ((ho 6 (by decide)).trans rfl) (hS.s (g6, 59, (bv y64).toArray) (by simp)) (bsize64 ny64.out) (h u (Kept.refl _ _))⟩
    · refine ⟨⟨_, rfl⟩, fun a' u K0 R hS hr ho h => wp_callf rfl enters_swide (vs := #[ab y64]) ?_ (csv.out u) h⟩
      have x0 := hr 2 (ab y64) 20 _ rfl rfl rfl ⟨⟨2, .data⟩, by simp, rfl, rfl⟩
      simp [Act.eval] at x0 ⊢
      exact x0
    · exact ⟨rfl, ⟨⟨4, .data⟩, by simp, rfl, rfl⟩, ⟨⟨1, .data⟩, by simp, rfl, rfl⟩, _, _, _, _, _, _, _, _, rfl, rfl, rfl, rfl, rfl, rfl, rfl, Z.structSc, rfl, rfl, one_uva _⟩
    · exact ⟨rfl, ⟨⟨5, .data⟩, by simp, rfl, rfl⟩, ⟨⟨3, .data⟩, by simp, rfl, rfl⟩, _, _, _, _, _, _, _, _, rfl, rfl, rfl, rfl, rfl, rfl, rfl, Z.structSc, rfl, rfl, one_uva _⟩
  intro γ wm hS hγ hne hput
  have b7 := hput 6 4 1 _ _ _ rfl rfl
  have b8 := hput 7 5 3 _ _ _ rfl rfl
  generalize e7 : γ 4 = g7 at *
  generalize e8 : γ 5 = g8 at *
  simp [actOf, VK, List.range, List.range.loop, Act.put, e7, e8]
  replace t := Lib.hid (show Pm w [(g8, 63, (uv (Z.ws4 sv)).toArray), (g7, 63, (uv (Z.ws4 su)).toArray), (g6, 59, (bv y64).toArray), (g5, 59, (bv x64).toArray), (g3, 22, (bv y).toArray), (g2, 22, (bv x).toArray)] wm from ((hS).cons b7).cons b8)
  clear b7 b8 hput hne hγ hS e7 e8
  go_wp2_with (first
    | (go_at_call 17; (with_reducible refine (cb.out _).mono ?_); rintro e v ⟨rfl, kk⟩; replace t := Lib.hid (t.out.kept kk); clear kk)
    | ((with_reducible refine wpl_new (o := ⟨some 9, _, _, _, _, _⟩) rfl rfl zeroP4 ?_); intro g9 w9 m9)
    | ((refine wpl_store_row (o := ⟨none, .store 29 (.tmp 9) (.tmp 22), _, _, _, _⟩) structPt rfl (.tmp 9) (.tmp 22) rfl rfl rfl m9.blk pz.size (P4.size _) (P4.one _) ?_); intro v9 b9 k9; replace t := Lib.hid (t.out.put m9 b9 k9); clear m9 b9 k9))
  refine Txt.wp_textG [0, 1, 4, 5, 9] (Pm w [(g9, 29, b.c.toArray), (g8, 63, (uv (Z.ws4 sv)).toArray), (g7, 63, (uv (Z.ws4 su)).toArray), (g6, 59, (bv y64).toArray), (g5, 59, (bv x64).toArray), (g3, 22, (bv y).toArray), (g2, 22, (bv x).toArray)]) [[_, _, _], [_], [_, _, _], [_], [_], [_]] (by kernel_rfl) (by kernel_rfl) rfl t.out.drew (Txt.segs_cons ?_)
  replace t := Lib.hid t.out.drew
  go_wp2_with (first
    | (with_reducible refine wpl_load_row (o := ⟨some 23, _, _, _, _, _⟩) structPt rfl (.tmp 9) rfl rfl (t.out.s (g9, 29, b.c.toArray) (by simp)) (P4.size _) ?_)
    | (with_reducible refine wpl_load_row (o := ⟨some 24, _, _, _, _, _⟩) arrB.row rfl (.tmp 2) rfl rfl (t.out.s (g2, 22, (bv x).toArray) (by simp)) (bsize (nx).out) ?_)
    | (go_at_call 18; (with_reducible refine (c1.out _).mono ?_); rintro e v ⟨rfl, kk⟩; replace t := Lib.hid (t.out.kept kk); clear kk))
  refine ⟨rfl, t.out, Txt.segs_cons ?_⟩
  go_wp2_with (first
    | (go_at_call 14; (with_reducible refine (c2.out _).mono ?_); rintro e v ⟨rfl, kk⟩; replace t := Lib.hid (t.out.kept kk); clear kk))
  refine ⟨rfl, t.out, Txt.segs_cons ?_⟩
  go_wp2_with (first
    | (with_reducible refine wpl_load_row (o := ⟨some 27, _, _, _, _, _⟩) structPt rfl (.tmp 9) rfl rfl (t.out.s (g9, 29, b.c.toArray) (by simp)) (P4.size _) ?_)
    | (with_reducible refine wpl_load_row (o := ⟨some 28, _, _, _, _, _⟩) Z.structSc rfl (.tmp 7) rfl rfl (t.out.s (g7, 63, (uv (Z.ws4 su)).toArray) (by simp)) rfl ?_)
    | (go_at_call 29; (with_reducible refine (cZsu.out _).mono ?_); rintro e v ⟨rfl, kk⟩; replace t := Lib.hid (t.out.kept kk); clear kk))
  refine ⟨rfl, t.out, Txt.segs_cons ?_⟩
  go_wp2_with (first
    | (go_at_call 18; (with_reducible refine (c3.out _).mono ?_); rintro e v ⟨rfl, kk⟩; replace t := Lib.hid (t.out.kept kk); clear kk))
  refine ⟨rfl, t.out, Txt.segs_cons ?_⟩
  go_wp2_with (first
    | (go_at_call 14; (with_reducible refine (c4.out _).mono ?_); rintro e v ⟨rfl, kk⟩; replace t := Lib.hid (t.out.kept kk); clear kk))
  refine ⟨rfl, t.out, Txt.segs_cons ?_⟩
  go_wp2_with fail
  refine ⟨rfl, t.out, Txt.segs_nil ⟨⟨by kernel_rfl, ?_⟩, ?_⟩⟩
  · intro j hj o ho hw
    have hj2 : j = 0 ∨ j = 1 ∨ j = 4 ∨ j = 5 ∨ j = 9 := by simpa using hj
    rcases hj2 with rfl | rfl | rfl | rfl | rfl <;> cases ho
    · exact ⟨23, rfl, fun u hu => exec_load structPt (.tmp 9) rfl rfl (hu.s (g9, 29, b.c.toArray) (by simp)) (P4.size _)⟩
    · exact ⟨24, rfl, fun u hu => exec_load arrB.row (.tmp 2) rfl rfl (hu.s (g2, 22, (bv x).toArray) (by simp)) (bsize (nx).out)⟩
    · exact ⟨27, rfl, fun u hu => exec_load structPt (.tmp 9) rfl rfl (hu.s (g9, 29, b.c.toArray) (by simp)) (P4.size _)⟩
    · exact ⟨28, rfl, fun u hu => exec_load Z.structSc (.tmp 7) rfl rfl (hu.s (g7, 63, (uv (Z.ws4 su)).toArray) (by simp)) rfl⟩
    · exact ⟨32, rfl, fun u _ => exec_neb (.tmp 26) (.tmp 31) rfl rfl rfl Q32.out nH0.out nH0.out⟩
  go_wp2_with fail
  refine Txt.wp_textG [0, 1, 2, 7, 8, 11, 12, 17, 19, 20, 21, 26, 27, 30, 34] (Pm w [(g9, 29, b.c.toArray), (g8, 63, (uv (Z.ws4 sv)).toArray), (g7, 63, (uv (Z.ws4 su)).toArray), (g6, 59, (bv y64).toArray), (g5, 59, (bv x64).toArray), (g3, 22, (bv y).toArray), (g2, 22, (bv x).toArray)]) [[_, _, _, _], [_], [_], [_], [_, _, _], [_], [_, _, _], [_], [_], [_], [_, _, _, _, _, _], [_], [_], [_], [_, _, _], [_], [_, _], [_], [_], [_, _, _]] (by kernel_rfl) (by kernel_rfl) rfl t.out.drew (Txt.segs_cons ?_)
  replace t := Lib.hid t.out.drew
  go_wp2_with (first
    | (with_reducible refine wpl_load_row (o := ⟨some 33, _, _, _, _, _⟩) structPt rfl (.tmp 9) rfl rfl (t.out.s (g9, 29, b.c.toArray) (by simp)) (P4.size _) ?_)
    | (with_reducible refine wpl_load_row (o := ⟨some 34, _, _, _, _, _⟩) Z.structSc rfl (.tmp 7) rfl rfl (t.out.s (g7, 63, (uv (Z.ws4 su)).toArray) (by simp)) rfl ?_)
    | (with_reducible refine wpl_load_row (o := ⟨some 35, _, _, _, _, _⟩) Z.structSc rfl (.tmp 8) rfl rfl (t.out.s (g8, 63, (uv (Z.ws4 sv)).toArray) (by simp)) rfl ?_)
    | (go_at_call 30; (with_reducible refine (csa.out _).mono ?_); rintro e v ⟨rfl, kk⟩; replace t := Lib.hid (t.out.kept kk); clear kk))
  refine ⟨rfl, t.out, Txt.segs_cons ?_⟩
  go_wp2_with (first
    | (go_at_call 29; (with_reducible refine (cZsa.out _).mono ?_); rintro e v ⟨rfl, kk⟩; replace t := Lib.hid (t.out.kept kk); clear kk))
  refine ⟨rfl, t.out, Txt.segs_cons ?_⟩
  go_wp2_with (first
    | (go_at_call 18; (with_reducible refine (c5.out _).mono ?_); rintro e v ⟨rfl, kk⟩; replace t := Lib.hid (t.out.kept kk); clear kk))
  refine ⟨rfl, t.out, Txt.segs_cons ?_⟩
  go_wp2_with (first
    | (go_at_call 14; (with_reducible refine (c6.out _).mono ?_); rintro e v ⟨rfl, kk⟩; replace t := Lib.hid (t.out.kept kk); clear kk))
  refine ⟨rfl, t.out, Txt.segs_cons ?_⟩
  go_wp2_with (first
    | (with_reducible refine wpl_load_row (o := ⟨some 40, _, _, _, _, _⟩) structPt rfl (.tmp 9) rfl rfl (t.out.s (g9, 29, b.c.toArray) (by simp)) (P4.size _) ?_)
    | (with_reducible refine wpl_load_row (o := ⟨some 41, _, _, _, _, _⟩) Z.structSc rfl (.tmp 7) rfl rfl (t.out.s (g7, 63, (uv (Z.ws4 su)).toArray) (by simp)) rfl ?_)
    | (go_at_call 29; (with_reducible refine (cZsu.out _).mono ?_); rintro e v ⟨rfl, kk⟩; replace t := Lib.hid (t.out.kept kk); clear kk))
  refine ⟨rfl, t.out, Txt.segs_cons ?_⟩
  go_wp2_with (first
    | (go_at_call 18; (with_reducible refine (c3.out _).mono ?_); rintro e v ⟨rfl, kk⟩; replace t := Lib.hid (t.out.kept kk); clear kk))
  refine ⟨rfl, t.out, Txt.segs_cons ?_⟩
  go_wp2_with (first
    | (with_reducible refine wpl_load_row (o := ⟨some 44, _, _, _, _, _⟩) structPt rfl (.tmp 9) rfl rfl (t.out.s (g9, 29, b.c.toArray) (by simp)) (P4.size _) ?_)
    | (with_reducible refine wpl_load_row (o := ⟨some 45, _, _, _, _, _⟩) Z.structSc rfl (.tmp 8) rfl rfl (t.out.s (g8, 63, (uv (Z.ws4 sv)).toArray) (by simp)) rfl ?_)
    | (go_at_call 29; (with_reducible refine (cZsv.out _).mono ?_); rintro e v ⟨rfl, kk⟩; replace t := Lib.hid (t.out.kept kk); clear kk))
  refine ⟨rfl, t.out, Txt.segs_cons ?_⟩
  go_wp2_with (first
    | (go_at_call 18; (with_reducible refine (c7.out _).mono ?_); rintro e v ⟨rfl, kk⟩; replace t := Lib.hid (t.out.kept kk); clear kk))
  refine ⟨rfl, t.out, Txt.segs_cons ?_⟩
  go_wp2_with (first
    | (go_at_call 19; (with_reducible refine (c8.out _).mono ?_); rintro e v ⟨rfl, kk⟩; replace t := Lib.hid (t.out.kept kk); clear kk))
  refine ⟨rfl, t.out, Txt.segs_cons ?_⟩
  go_wp2_with (first
    | (go_at_call 14; (with_reducible refine (c9.out _).mono ?_); rintro e v ⟨rfl, kk⟩; replace t := Lib.hid (t.out.kept kk); clear kk))
  refine ⟨rfl, t.out, Txt.segs_cons ?_⟩
  go_wp2_with (first
    | (with_reducible refine wpl_load_row (o := ⟨some 52, _, _, _, _, _⟩) structPt rfl (.tmp 9) rfl rfl (t.out.s (g9, 29, b.c.toArray) (by simp)) (P4.size _) ?_)
    | (with_reducible refine wpl_load_row (o := ⟨some 53, _, _, _, _, _⟩) Z.structSc rfl (.tmp 7) rfl rfl (t.out.s (g7, 63, (uv (Z.ws4 su)).toArray) (by simp)) rfl ?_)
    | (with_reducible refine wpl_load_row (o := ⟨some 54, _, _, _, _, _⟩) Z.structSc rfl (.tmp 8) rfl rfl (t.out.s (g8, 63, (uv (Z.ws4 sv)).toArray) (by simp)) rfl ?_)
    | (go_at_call 31; (with_reducible refine (csp.out _).mono ?_); rintro e v ⟨rfl, kk⟩; replace t := Lib.hid (t.out.kept kk); clear kk))
  refine ⟨rfl, t.out, Txt.segs_cons ?_⟩
  go_wp2_with (first
    | (go_at_call 29; (with_reducible refine (cZsp.out _).mono ?_); rintro e v ⟨rfl, kk⟩; replace t := Lib.hid (t.out.kept kk); clear kk))
  refine ⟨rfl, t.out, Txt.segs_cons ?_⟩
  go_wp2_with (first
    | (go_at_call 18; (with_reducible refine (c10.out _).mono ?_); rintro e v ⟨rfl, kk⟩; replace t := Lib.hid (t.out.kept kk); clear kk))
  refine ⟨rfl, t.out, Txt.segs_cons ?_⟩
  go_wp2_with (first
    | (go_at_call 14; (with_reducible refine (c11.out _).mono ?_); rintro e v ⟨rfl, kk⟩; replace t := Lib.hid (t.out.kept kk); clear kk))
  refine ⟨rfl, t.out, Txt.segs_cons ?_⟩
  go_wp2_with (first
    | (with_reducible refine wpl_load_row (o := ⟨some 59, _, _, _, _, _⟩) structPt rfl (.tmp 9) rfl rfl (t.out.s (g9, 29, b.c.toArray) (by simp)) (P4.size _) ?_)
    | (with_reducible refine wpl_load_row (o := ⟨some 60, _, _, _, _, _⟩) Z.structSc rfl (.tmp 7) rfl rfl (t.out.s (g7, 63, (uv (Z.ws4 su)).toArray) (by simp)) rfl ?_)
    | (go_at_call 29; (with_reducible refine (cZsu.out _).mono ?_); rintro e v ⟨rfl, kk⟩; replace t := Lib.hid (t.out.kept kk); clear kk))
  refine ⟨rfl, t.out, Txt.segs_cons ?_⟩
  go_wp2_with (first
    | (go_at_call 18; (with_reducible refine (c3.out _).mono ?_); rintro e v ⟨rfl, kk⟩; replace t := Lib.hid (t.out.kept kk); clear kk))
  refine ⟨rfl, t.out, Txt.segs_cons ?_⟩
  go_wp2_with (first
    | (with_reducible refine wpl_load_row (o := ⟨some 63, _, _, _, _, _⟩) Z.structSc rfl (.tmp 8) rfl rfl (t.out.s (g8, 63, (uv (Z.ws4 sv)).toArray) (by simp)) rfl ?_)
    | (go_at_call 29; (with_reducible refine (cZsv.out _).mono ?_); rintro e v ⟨rfl, kk⟩; replace t := Lib.hid (t.out.kept kk); clear kk))
  refine ⟨rfl, t.out, Txt.segs_cons ?_⟩
  go_wp2_with (first
    | (go_at_call 18; (with_reducible refine (c12.out _).mono ?_); rintro e v ⟨rfl, kk⟩; replace t := Lib.hid (t.out.kept kk); clear kk))
  refine ⟨rfl, t.out, Txt.segs_cons ?_⟩
  go_wp2_with (first
    | (go_at_call 14; (with_reducible refine (c13.out _).mono ?_); rintro e v ⟨rfl, kk⟩; replace t := Lib.hid (t.out.kept kk); clear kk))
  refine ⟨rfl, t.out, Txt.segs_cons ?_⟩
  go_wp2_with fail
  refine ⟨rfl, t.out, Txt.segs_nil ⟨⟨by kernel_rfl, ?_⟩, ?_⟩⟩
  · intro j hj o ho hw
    have hj2 : j = 0 ∨ j = 1 ∨ j = 2 ∨ j = 7 ∨ j = 8 ∨ j = 11 ∨ j = 12 ∨ j = 17 ∨ j = 19 ∨ j = 20 ∨ j = 21 ∨ j = 26 ∨ j = 27 ∨ j = 30 ∨ j = 34 := by simpa using hj
    rcases hj2 with rfl | rfl | rfl | rfl | rfl | rfl | rfl | rfl | rfl | rfl | rfl | rfl | rfl | rfl | rfl <;> cases ho
    · exact ⟨33, rfl, fun u hu => exec_load structPt (.tmp 9) rfl rfl (hu.s (g9, 29, b.c.toArray) (by simp)) (P4.size _)⟩
    · exact ⟨34, rfl, fun u hu => exec_load Z.structSc (.tmp 7) rfl rfl (hu.s (g7, 63, (uv (Z.ws4 su)).toArray) (by simp)) rfl⟩
    · exact ⟨35, rfl, fun u hu => exec_load Z.structSc (.tmp 8) rfl rfl (hu.s (g8, 63, (uv (Z.ws4 sv)).toArray) (by simp)) rfl⟩
    · exact ⟨40, rfl, fun u hu => exec_load structPt (.tmp 9) rfl rfl (hu.s (g9, 29, b.c.toArray) (by simp)) (P4.size _)⟩
    · exact ⟨41, rfl, fun u hu => exec_load Z.structSc (.tmp 7) rfl rfl (hu.s (g7, 63, (uv (Z.ws4 su)).toArray) (by simp)) rfl⟩
    · exact ⟨44, rfl, fun u hu => exec_load structPt (.tmp 9) rfl rfl (hu.s (g9, 29, b.c.toArray) (by simp)) (P4.size _)⟩
    · exact ⟨45, rfl, fun u hu => exec_load Z.structSc (.tmp 8) rfl rfl (hu.s (g8, 63, (uv (Z.ws4 sv)).toArray) (by simp)) rfl⟩
    · exact ⟨50, rfl, fun u _ => exec_eqb (.tmp 39) (.tmp 49) rfl rfl rfl Q50.out nH1.out nH1.out⟩
    · exact ⟨52, rfl, fun u hu => exec_load structPt (.tmp 9) rfl rfl (hu.s (g9, 29, b.c.toArray) (by simp)) (P4.size _)⟩
    · exact ⟨53, rfl, fun u hu => exec_load Z.structSc (.tmp 7) rfl rfl (hu.s (g7, 63, (uv (Z.ws4 su)).toArray) (by simp)) rfl⟩
    · exact ⟨54, rfl, fun u hu => exec_load Z.structSc (.tmp 8) rfl rfl (hu.s (g8, 63, (uv (Z.ws4 sv)).toArray) (by simp)) rfl⟩
    · exact ⟨59, rfl, fun u hu => exec_load structPt (.tmp 9) rfl rfl (hu.s (g9, 29, b.c.toArray) (by simp)) (P4.size _)⟩
    · exact ⟨60, rfl, fun u hu => exec_load Z.structSc (.tmp 7) rfl rfl (hu.s (g7, 63, (uv (Z.ws4 su)).toArray) (by simp)) rfl⟩
    · exact ⟨63, rfl, fun u hu => exec_load Z.structSc (.tmp 8) rfl rfl (hu.s (g8, 63, (uv (Z.ws4 sv)).toArray) (by simp)) rfl⟩
    · exact ⟨67, rfl, fun u _ => exec_eqb (.tmp 58) (.tmp 66) rfl rfl rfl Q67.out nH2.out nH2.out⟩
  go_wp2_with fail
  go_ret
  exact ⟨rfl, t.out.k⟩
end Go.Proofs.Ytkflljjcgihaoaa
