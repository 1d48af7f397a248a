/-
  The log: the document's Says: the walk.
-/
import Derived.Test.YtjdfnhfankcodaaDg7
namespace Go.Proofs.Ytjdfnhfankcodaa
open Go.RowKit Go.Mem Go.Txt

theorem sBnd_le (most : Nat) (s : St) : (sBnd most s).1 ≤ most := by
  unfold sBnd
  split
  · exact Nat.zero_le _
  · omega
/-- The document's rows so far, made since w0. -/
structure DcM (w0 : World) (rv : Value) (rs : List (Value × List UInt8)) (u : World) : Prop where
  own : Ow u 22 1 rv rs.length (rs.map (·.1))
  inner : ∀ x ∈ rs, Ow u 5 1 x.1 x.2.length (bv x.2)
  k : Kept [] w0 u
  lr : ∀ k, rv.ownBlock = some k → w0.heap.size ≤ k
  lx : ∀ x ∈ rs, ∀ k, x.1.ownBlock = some k → w0.heap.size ≤ k
theorem DcM.kept0 {w0 u u' : World} {rv : Value} {rs : List (Value × List UInt8)} (h : DcM w0 rv rs u) (hk : Kept [] u u') : DcM w0 rv rs u' :=
  ⟨h.own.kept0 hk, fun x hx => (h.inner x hx).kept0 hk, h.k.then0 hk, h.lr, h.lx⟩
theorem DcM.app {w0 u u' : World} {rv v' cv : Value} {rs : List (Value × List UInt8)} {body : List UInt8} (h : DcM w0 rv rs u) (ho : Ow u' 22 1 v' (rs.length + 1) (rs.map (·.1) ++ [cv])) (hk : Kept rv.ownBlock.toList u u') (hf : v'.ownBlock = rv.ownBlock ∨ v'.ownBlock = some u.heap.size) (hc : Ow u 5 1 cv body.length (bv body)) (hn : ∀ k, cv.ownBlock = some k → w0.heap.size ≤ k) :
    DcM w0 v' (rs ++ [(cv, body)]) u' := by
  have far : ∀ {x : Value} {ys : List UInt8}, Ow u 5 1 x ys.length (bv ys) → ∀ k, x.ownBlock = some k → k ∉ rv.ownBlock.toList := fun hx k hk1 hm => hx.ne_ h.own (by decide) k hk1 (mem_own hm)
  refine ⟨by simpa using ho, fun x hx => ?_, Kept.fresh h.k hk (fun k hm => h.lr k (mem_own hm)), fun k hk1 => ?_, fun x hx k hk1 => ?_⟩
  · rcases List.mem_append.1 hx with hx | hx
    · exact (h.inner x hx).kept hk (far (h.inner x hx))
    · obtain rfl := List.mem_singleton.1 hx
      exact hc.kept hk (far hc)
  · rcases hf with e | e
    · exact h.lr k (by rw [← e]; exact hk1)
    · rw [e] at hk1; cases hk1; exact h.k.size
  · rcases List.mem_append.1 hx with hx | hx
    · exact h.lx x hx k hk1
    · obtain rfl := List.mem_singleton.1 hx
      exact hn k hk1
theorem ex_conv {u : World} {a : Act} {o : Oper} (x : Operand) (ho : o.op = .convert 22 9 x) {v : Value} (hx : a.eval x = v) {bs : List UInt8} (hr : Rd u 1 v bs.length (bv bs)) :
    (execOp a.eval o).run Try.prog u = .ok (.value (.string (mkS bs))) u := by
  have h := run_toS (P := Try.prog) (s := 22) (d := 9) (e := 5) rfl rfl rfl hr
  simp [execOp, ho, hx, h]
theorem flatI (w : World) : (isAgg 3).run Try.prog w = .ok false w := by kernel_rfl
set_option maxRecDepth 100000 in
set_option maxHeartbeats 4000000 in
theorem rsays_any (v : Value) (xs : List UInt8) (w : World) (hr : Rd w 1 v xs.length (bv xs)) (hx : xs.length ≤ 1000000000000) :
    Calls Try.prog 11 #[v] w fun e w' => ∃ rv rs, e = .returned (.tuple #[rv, .int .i64 (rsz (says xs) : Nat)]) ∧ rs.map (·.2) = says xs ∧ DcM w rv rs w' := by
  have R := Lib.hid hr
  obtain ⟨A, c, rfl, _, hc, _⟩ := hr
  have M := Lib.hid (show DcM w (.slice none 0 0) [] w from ⟨Ow.nil _ _ _, by simp, Kept.refl _ _, by simp [Value.ownBlock], by simp⟩)
  go_enter Try.func11, Try.ntmps11
  go_wp2_with fail
  go_loopg [4, 5] (xs.length + 1) (fun fu rv p wk => ∃ (at_ : Nat) (rs : List (Value × List UInt8)), at_ ≤ xs.length ∧ xs.length - at_ < fu ∧ p = .int .i64 (at_ : Int) ∧ Hid (at_ = rsz (rs.map (·.2))) ∧ Hid (says xs = rs.map (·.2) ++ sayF fu rs.length (xs.drop at_)) ∧ Hid (DcM w rv rs wk))
  case atStart => exact ⟨0, [], by omega, by omega, rfl, Lib.hid rfl, Lib.hid rfl, M⟩
  case round =>
    clear M
    obtain ⟨p, rs, hp, hfu, rfl, hz, hs, M⟩ := hrel
    obtain ⟨Ar, cr, rfl, hrc⟩ := M.out.own.shape
    generalize hys : xs.drop p = ys at *
    generalize hq1 : sBnd 1048576 (0, ys) = q1
    obtain ⟨N, s1⟩ := q1
    generalize hq2 : sTake 8 s1 = q2
    obtain ⟨x8, s2⟩ := q2
    generalize hq3 : sTake N s2 = q3
    obtain ⟨body, s3⟩ := q3
    have hN : N ≤ 1048576 := by have := sBnd_le 1048576 (0, ys); rw [hq1] at this; exact this
    have hdoc : docN ys = N ∧ docR ys = (body, s3) := by
      unfold docR docN
      rw [hq1]
      dsimp only
      rw [hq2]
      dsimp only
      rw [hq3]
      exact ⟨rfl, rfl⟩
    have cu := Lib.hid (fun (t : Nat) u (h : TapeA u t t (.slice A xs.length c) xs (0, ys)) => (show Calls Try.prog 29 #[.pointer (some ⟨t, 0, none⟩), .int .u64 1048576] u fun e w' => e = .returned (.int .i64 (N : Int)) ∧ TapeA w' t t (.slice A xs.length c) xs s1 ∧ Kept [t] u w' from by
      have := tupto_any t t 1048576 (.slice A xs.length c) xs (0, ys) u h (by omega)
      rw [hq1] at this; exact this))
    have c8 := Lib.hid (fun (t : Nat) u (h : TapeA u t t (.slice A xs.length c) xs s1) => (show Calls Try.prog 30 #[.pointer (some ⟨t, 0, none⟩), .int .i64 8] u fun e w' => ∃ x, e = .returned x ∧ TapeA w' t t (.slice A xs.length c) xs s2 ∧ Kept [t] u w' from by
      have := ttake_any t t 8 (.slice A xs.length c) xs s1 u h (by omega)
      rw [hq2] at this
      exact this.mono fun e w' ⟨x, h1, _, _, h2, h3⟩ => ⟨x, h1, h2, h3⟩))
    have cN := Lib.hid (fun (t : Nat) u (h : TapeA u t t (.slice A xs.length c) xs s2) => (show Calls Try.prog 30 #[.pointer (some ⟨t, 0, none⟩), .int .i64 (N : Int)] u fun e w' => ∃ x, e = .returned x ∧ Rd w' 1 x body.length (bv body) ∧ TapeA w' t t (.slice A xs.length c) xs s3 ∧ Kept [t] u w' from by
      have := ttake_any t t N (.slice A xs.length c) xs s2 u h (by omega)
      rw [hq3] at this
      exact this.mono fun e w' ⟨x, h1, h0, _, h2, h3⟩ => ⟨x, h1, h0, h2, h3⟩))
    have hNs := Lib.hid hN
    have hq := Lib.hid hdoc
    have T0 := Lib.hid (show TapeA (wr.alloc (.cells #[.slice A xs.length c, .int .i64 p, .int .i64 0] 62)) wr.heap.size wr.heap.size (.slice A xs.length c) xs (0, ys) from
      ⟨p, Blk.new _ _ _, (R.out.kept0 M.out.k).alloc _, hp, by omega, hys.symm, Nat.le_refl _, fun hn g hg => by
        obtain ⟨b, hb, hlt⟩ := (R.out.kept0 M.out.k).lt (by decide) hn
        rw [hb] at hg
        cases hg
        exact hlt⟩)
    have K0 := Lib.hid (show Kept [] wr (wr.alloc (.cells #[.slice A xs.length c, .int .i64 p, .int .i64 0] 62)) from (Kept.refl [] wr).alloc _)
    have hys' := Lib.hid hys
    clear hys hdoc hN hq1 hq2 hq3
    obtain ⟨bad, rest⟩ := s3
    go_wp2_with (first
      | (go_at_call 29; (with_reducible refine (cu.out _ _ T0.out).mono ?_); rintro e w1 ⟨rfl, t1, k1⟩
         have T1 := Lib.hid t1
         have K1 := Lib.hid (K0.out.then1 k1 (Nat.le_refl _))
         clear t1 k1 T0 K0)
      | (go_at_call 30; (with_reducible refine (c8.out _ _ T1.out).mono ?_); rintro e w2 ⟨y2, rfl, t2, k2⟩
         have T2 := Lib.hid t2
         have K2 := Lib.hid (K1.out.then1 k2 (Nat.le_refl _))
         clear t2 k2 T1 K1)
      | (go_at_call 30; (with_reducible refine (cN.out _ _ T2.out).mono ?_); rintro e w3 ⟨y3, rfl, r3, t3, k3⟩
         have R3 := Lib.hid r3
         have T3 := Lib.hid t3
         have K3 := Lib.hid (K2.out.then1 k3 (Nat.le_refl _))
         clear t3 k3 r3 T2 K2))
    clear cu c8 cN
    obtain ⟨f, rfl⟩ := Nat.exists_eq_add_one_of_ne_zero (Nat.ne_of_gt (Nat.lt_of_le_of_lt (Nat.zero_le _) hfu))
    obtain ⟨kk, hb3, hr3, hkl, hxl, hrest, _, _⟩ := T3.out
    dsimp only at hb3 hrest
    have hkb := Lib.hid hb3
    have hrd := Lib.hid hr3
    replace hrest := Lib.hid hrest
    clear hb3 hr3 T3
    by_cases hbad : bad = 0
    · subst hbad
      have hok : 16 ≤ ys.length ∧ beV (ys.take 8) ≤ 1048576 ∧ beV (ys.take 8) ≤ ys.length - 16 := Classical.byContradiction fun h => absurd (docR_bad ys h) (by rw [hq.out.2]; simp)
      obtain ⟨h16, hm1, hm2⟩ := hok
      have hd := docR_ok ys h16 hm1 hm2
      have e1 : N = beV (ys.take 8) := by rw [← hq.out.1, hd.1]
      have e2 := hq.out.2.symm.trans hd.2
      injection e2 with e3 e4
      injection e4 with _ e5
      have hyl : ys.length = xs.length - p := by rw [← hys'.out, List.length_drop]
      have hkN : kk = p + 16 + N := by
        have := congrArg List.length (hrest.out.symm.trans e5)
        rw [List.length_drop, List.length_drop] at this
        omega
      have hbl : body.length = N := by rw [e3, List.length_take, List.length_drop]; omega
      have hY : (xs.drop p).take (16 + N) = ys.take (16 + N) := by rw [hys'.out]
      have hsl := rsz_len (rs.map (·.2))
      rw [← hz.out, List.length_map] at hsl
      have hrsl : rs.length ≤ 1000000000000 := by omega
      have hpk : p + 16 + N ≤ xs.length := by omega
      have hbd : body.length ≤ 1048576 := by omega
      have hiff := Lib.hid (show encR rs.length body = ys.take (16 + N) ↔ rsum rs.length body = (ys.drop 8).take 8 from by rw [e3, e1]; exact row_eq rs.length ys h16 hm2)
      have hgo := Lib.hid (show rsum rs.length body = (ys.drop 8).take 8 → sayF (f + 1) rs.length ys = body :: sayF f (rs.length + 1) (ys.drop (16 + N)) from fun h => by rw [e3, e1]; exact sayF_go (by omega) (by omega) (by rw [← e3]; exact h))
      have hend := Lib.hid (show ¬ rsum rs.length body = (ys.drop 8).take 8 → sayF (f + 1) rs.length ys = [] from fun h => sayF_end3 (by rw [← e3]; exact h))
      have hyd := Lib.hid (show ys.drop (16 + N) = xs.drop (p + 16 + N) from by rw [← hys'.out, List.drop_drop, Nat.add_assoc])
      have hbN := Lib.hid hbl
      subst hkN
      obtain ⟨X, dX, hX, rX, oX, hdX⟩ := cut_part bytesT hrd.out .i64 .i64 p (p + 16 + N) (by omega) (by omega)
      have hXl : p + 16 + N - p = 16 + N := by omega
      rw [hXl] at hX rX
      have hX2 : ∀ W, (Instr.sliceAt 22 (.slice A xs.length c) (some (.int .i64 (p : Int))) (some (.int .i64 ((p : Int) + 16 + (N : Int)))) none).run Try.prog W = .ok (.slice X (16 + N) dX) W := fun W => by have := hX W; simpa using this
      have hYl : (ys.take (16 + N)).length = 16 + N := by rw [List.length_take]; omega
      have rX2 := Lib.hid (show Rd w3 1 (.slice X (16 + N) dX) (ys.take (16 + N)).length (bv (ys.take (16 + N))) from by
        have := rX
        rw [Nat.mul_one, Nat.mul_one, ← List.map_drop, ← List.map_take, hY] at this
        rw [hYl]; exact this)
      have crow := Lib.hid (fun u b (h : Rd u 1 b body.length (bv body)) => rrow_any rs.length b body u h (by omega) (by omega))
      clear hbl hX rX oX hdX e3 e5 hd hyl h16 hm1 hm2 hY hsl hq hYl e1 hXl
      generalize hE : encR rs.length body = E at *
      generalize hYY : ys.take (16 + N) = Y at *
      replace hE := Lib.hid hE
      replace hYY := Lib.hid hYY
      obtain ⟨A3, c3, hy3, _⟩ := R3.out
      subst hy3
      replace rX2 := Lib.hid rX2.out.drew
      replace R3 := Lib.hid R3.out.drew
      replace hkb := Lib.hid hkb.out.drew
      replace K3 := Lib.hid K3.out.drew
      refine Txt.wp_textG [3, 16, 18] (fun u => Blk u wr.heap.size 62 #[.slice A xs.length c, .int .i64 ((p + 16 + N : Nat) : Int), .int .i64 0] ∧ Rd u 1 (.slice X (16 + N) dX) Y.length (bv Y)) [[_, _, _, _, _, _, _, _, _, _], [_, _, _, _, _, _, _, _, _, _, _]] (by kernel_rfl) (by kernel_rfl) rfl ⟨hkb.out, rX2.out⟩ (Txt.segs_cons ?_)
      have q2 := hkb.out.cell 2
      simp at q2
      go_wp2_with (first
        | (go_at_call 21; (with_reducible refine (crow.out _ _ R3.out).mono ?_); rintro e w4 ⟨v4, rfl, n4⟩
           obtain ⟨A4, c4, rfl, _⟩ := n4.ow.shape
           replace rX2 := Lib.hid (rX2.out.kept0 n4.kept)
           replace R3 := Lib.hid (R3.out.kept0 n4.kept)
           replace hkb := Lib.hid (hkb.out.kept n4.kept (by simp))
           replace K3 := Lib.hid (K3.out.then0 n4.kept)
           have sE := run_toS (P := Try.prog) (s := 22) (d := 9) (e := 5) rfl rfl rfl (Rd.of_ow n4.ow)
           clear n4 q2))
      refine ⟨rfl, ⟨hkb.out, rX2.out⟩, Txt.segs_cons ?_⟩
      have q1 : w4.cell? ⟨wr.heap.size, 1, none⟩ = some (.int .i64 ((p : Int) + 16 + (N : Int))) := by rw [hkb.out.cell]; rfl
      have sY := run_toS (P := Try.prog) (s := 22) (d := 9) (e := 5) rfl rfl rfl rX2.out
      by_cases hEY : E = Y
      · have hs2 := Lib.hid (show says xs = (rs.map (·.2) ++ [body]) ++ sayF f (rs.length + 1) (xs.drop (p + 16 + N)) from by
          rw [hs.out, hgo.out (hiff.out.1 hEY), hyd.out, List.append_assoc]; rfl)
        have m1 : (E == Y) = true := by simpa using hEY
        have hz2 := Lib.hid (show p + 16 + N = rsz ((rs ++ [(Value.slice none 0 0, body)]).map (·.2)) from by rw [List.map_append, rsz_app, ← hz.out]; simp [rsz]; rw [hbN.out]; omega)
        replace hEY := Lib.hid hEY
        replace M := Lib.hid (M.out.kept0 K3.out)
        go_wp2_with fail
        refine ⟨rfl, ⟨hkb.out, rX2.out⟩, Txt.segs_nil ⟨⟨by kernel_rfl, ?_⟩, ?_⟩⟩
        · intro j hj o ho hw
          have hj2 : j = 3 ∨ j = 16 ∨ j = 18 := by simpa using hj
          rcases hj2 with rfl | rfl | rfl <;> cases ho
          · exact ⟨_, rfl, fun u hu => ex_cell (.tmp 22) rfl flatI rfl (by rw [hu.1.cell]; rfl)⟩
          · exact ⟨_, rfl, fun u hu => ex_cell (.tmp 35) rfl flatI rfl (by rw [hu.1.cell]; rfl)⟩
          · exact ⟨_, rfl, fun u hu => ex_conv (.tmp 37) rfl rfl hu.2⟩
        clear sE sY q1
        go_wp2_with (first
          | (at_builtin
             refine wpl_app bytesT rfl (.tmp 44) (.tmp 45) rfl rfl (xs := []) (n := 0) (Ow.of_own (own_alloc_at (by simp) rfl rfl (by omega))) rfl (R3.out.alloc _) (one_bv _) (by omega) (by omega) ?_
             intro v5 w5 o5 k5 n5
             rw [Nat.zero_add] at o5
             obtain ⟨A5, c5, hv5, _⟩ := o5.shape
             subst hv5
             have O5 := Lib.hid (show Ow w5 5 1 (.slice A5 body.length c5) body.length (bv body) from by simpa using o5)
             have k9 : Kept (Value.slice (some ⟨w4.heap.size, 0, none⟩) 0 0).ownBlock.toList (w4.alloc (.cells #[] 5)) w5 := k5
             have k0 : Kept [] w4 w5 := Kept.fresh ((Kept.refl [] w4).alloc _) k9 (by simp [Value.ownBlock])
             have n9 : (Value.slice A5 body.length c5).ownBlock = (Value.slice (some ⟨w4.heap.size, 0, none⟩) 0 0).ownBlock ∨ (Value.slice A5 body.length c5).ownBlock = some (w4.alloc (.cells #[] 5)).heap.size := n5
             have N5 := Lib.hid (show ∀ k, (Value.slice A5 body.length c5).ownBlock = some k → w4.heap.size ≤ k from fun k hk => by
               rcases n9 with e | e
               · rw [e] at hk; simp [Value.ownBlock] at hk; omega
               · rw [e] at hk; simp at hk; omega)
             have K5 := Lib.hid k0
             replace hkb := Lib.hid (hkb.out.kept k0 (by simp))
             have M5 := Lib.hid (M.out.kept0 k0)
             clear o5 k5 n5 k9 k0 n9)
          | ((with_reducible refine wpl_at 47 ?_); (refine wpl_bslice1 (o := ⟨some 47, _, _, _, _, _⟩) (v0 := .slice A5 body.length c5) (cells := #[.slice A5 body.length c5]) rfl slicesT rfl rfl (by decide) rfl rfl ?_); intro g6 w6 m6
             have b6 := Lib.hid (show Rd w6 1 (.slice (some ⟨g6, 0, none⟩) 1 1) 1 [.slice A5 body.length c5] from ⟨_, _, rfl, rfl, by omega, fun _ => ⟨g6, 0, rfl, fun j u hu => by rw [m6.blk.cell]; simpa using hu⟩⟩)
             replace hkb := Lib.hid (hkb.out.kept m6.kept (by simp))
             replace M5 := Lib.hid (M5.out.kept0 m6.kept)
             replace O5 := Lib.hid (O5.out.kept0 m6.kept)
             clear m6)
          | (at_builtin
             refine wpl_app (n := rs.length) (m := 1) slicesT rfl (.tmp 43) (.tmp 47) rfl rfl M5.out.own rfl b6.out (by simp [Value.oneCell']) (by omega) (by omega) ?_
             intro v7 w7 o7 k7 f7
             obtain ⟨A7, c7, hv7, _⟩ := o7.shape
             subst hv7
             replace hkb := Lib.hid (hkb.out.kept k7 (notin_own (M5.out.own.blk_ne hkb.out (by decide))))
             have q1 : w7.cell? ⟨wr.heap.size, 1, none⟩ = some (.int .i64 ((p : Int) + 16 + (N : Int))) := by rw [hkb.out.cell]; rfl
             have M7 := Lib.hid (M5.out.app o7 k7 f7 O5.out (fun k hk => Nat.le_trans M.out.k.size (N5.out k hk)))
             clear o7 k7 f7))
        go_roundg f
        case measure => omega
        case rel =>
          refine ⟨p + 16 + N, rs ++ [(.slice A5 body.length c5, body)], hpk, by omega, by go_num, Lib.hid ?_, Lib.hid ?_, ?_⟩
          · rw [hz2.out]; simp
          · rw [hs2.out]; simp
          · exact Lib.hid (by have := M7.out; simpa using this)
      · have hs2 := Lib.hid (show says xs = rs.map (·.2) from by rw [hs.out, hend.out (fun h => hEY (hiff.out.2 h)), List.append_nil])
        have m1 : (E == Y) = false := by simpa using hEY
        replace hEY := Lib.hid hEY
        go_wp2_with fail
        refine ⟨rfl, ⟨hkb.out, rX2.out⟩, Txt.segs_nil ⟨⟨by kernel_rfl, ?_⟩, ?_⟩⟩
        · intro j hj o ho hw
          have hj2 : j = 3 ∨ j = 16 ∨ j = 18 := by simpa using hj
          rcases hj2 with rfl | rfl | rfl <;> cases ho
          · exact ⟨_, rfl, fun u hu => ex_cell (.tmp 22) rfl flatI rfl (by rw [hu.1.cell]; rfl)⟩
          · exact ⟨_, rfl, fun u hu => ex_cell (.tmp 35) rfl flatI rfl (by rw [hu.1.cell]; rfl)⟩
          · exact ⟨_, rfl, fun u hu => ex_conv (.tmp 37) rfl rfl hu.2⟩
        go_wp2_with fail
        go_ret2
        refine ⟨.slice Ar rs.length cr, rs, ?_, hs2.out.symm, M.out.kept0 K3.out⟩
        show Ending.returned (.tuple #[.slice Ar rs.length cr, .int .i64 (p : Int)]) = _
        rw [hs2.out, ← hz.out]
    · have hbd : (bad != 0) = true := by simp [hbad]
      have hno : ¬ (16 ≤ ys.length ∧ beV (ys.take 8) ≤ 1048576 ∧ beV (ys.take 8) ≤ ys.length - 16) := fun h => by
        have := (docR_ok ys h.1 h.2.1 h.2.2).2
        rw [hq.out.2] at this
        injection this with _ h2
        injection h2 with h3 _
        exact hbad h3
      have hs2 := Lib.hid (show says xs = rs.map (·.2) from by
        rw [hs.out]
        by_cases h0 : ys.length < 16
        · rw [sayF_end1 h0, List.append_nil]
        · rw [sayF_end2 (by omega), List.append_nil])
      replace hkb := Lib.hid hkb.out.drew
      replace K3 := Lib.hid K3.out.drew
      replace M := Lib.hid (M.out.kept0 K3.out)
      clear hno hq hrest hfu hp hkl R3 hrd K3 hNs hys' hs
      refine Txt.wp_textG [3, 16, 18] (fun u => Blk u wr.heap.size 62 #[.slice A xs.length c, .int .i64 kk, .int .i64 bad]) [[_, _, _, _, _, _, _, _, _, _], [_, _, _, _, _, _, _, _, _, _, _]] (by kernel_rfl) (by kernel_rfl) rfl hkb.out (Txt.segs_cons ?_)
      have c2 := hkb.out.cell 2
      simp at c2
      replace hbad := Lib.hid hbad
      go_wp2_with fail
      refine And.intro rfl (And.intro hkb.out ?_)
      unfold Txt.wpSegs
      go_wp2_with fail
      refine And.intro rfl (And.intro hkb.out (Txt.segs_nil (And.intro (And.intro (by kernel_rfl) ?_) ?_)))
      · intro j hj o ho hw
        have hj2 : j = 3 ∨ j = 16 ∨ j = 18 := by simpa using hj
        rcases hj2 with rfl | rfl | rfl <;> cases ho
        · exact ⟨_, rfl, fun u hu => ex_cell (.tmp 22) rfl flatI rfl (by rw [hu.cell]; rfl)⟩
        · exact absurd hw (by rw [show Region.wanted _ _ = false from by kernel_rfl]; simp)
        · exact absurd hw (by rw [show Region.wanted _ _ = false from by kernel_rfl]; simp)
      go_wp2_with fail
      go_ret2
      refine ⟨.slice Ar rs.length cr, rs, ?_, hs2.out.symm, M.out⟩
      show Ending.returned (.tuple #[.slice Ar rs.length cr, .int .i64 (p : Int)]) = _
      rw [hs2.out, ← hz.out]
end Go.Proofs.Ytjdfnhfankcodaa
