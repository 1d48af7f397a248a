/-
  The log: logs answer every script of writes and crashes (WalPlays): the walk.
-/
import Derived.Test.YtjdfnhfankcodaaPl0
import Derived.Test.YtjdfnhfankcodaaPl2
namespace Go.Proofs.Ytjdfnhfankcodaa
open Go.RowKit Go.Mem Go.Txt

theorem Scr.at_ {w : World} {sv : Value} {ops : List POp} (h : Scr w sv ops) {k : Nat} (hk : k < ops.length) :
    ∃ b o c, sv = .slice (some ⟨b, o, none⟩) ops.length c ∧ w.cell? ⟨b, o + k * 4, none⟩ = some (.int .i64 ops[k].1) ∧ w.cell? ⟨b, o + k * 4 + 1, none⟩ = some (.int .i64 ops[k].2.1) ∧ w.cell? ⟨b, o + k * 4 + 2, none⟩ = some ops[k].2.2.1.1 ∧ w.cell? ⟨b, o + k * 4 + 3, none⟩ = some ops[k].2.2.2.1 := by
  obtain ⟨b, o, c, hv, _, hcell⟩ := h.outer.at_ (by omega)
  have hc : ∀ r u, r < 4 → (opC ops[k])[r]? = some u → w.cell? ⟨b, o + k * 4 + r, none⟩ = some u := fun r u hr hu => by
    rw [Nat.add_assoc]
    exact hcell _ _ (by rw [opC_get ops k hk r hr]; exact hu)
  exact ⟨b, o, c, hv, by simpa using hc 0 _ (by omega) rfl, hc 1 _ (by omega) rfl, hc 2 _ (by omega) rfl, hc 3 _ (by omega) rfl⟩
/-- At a round's head, by its slots. -/
def PlI (w0 : World) (b n : Nat) (lv RV BV dnv : Value) (u : World) : Prop := ∃ l dv rv rs drs xs dn, lv = .pointer (some ⟨l, 0, none⟩) ∧ dnv = .bool dn ∧ PlW w0 u b l n dv rv RV BV rs drs xs dn
theorem kind4 (x : Int) : (IntKind.u64.wrap x).tmod 4 = 0 ∨ (IntKind.u64.wrap x).tmod 4 = 1 ∨ (IntKind.u64.wrap x).tmod 4 = 2 ∨ (IntKind.u64.wrap x).tmod 4 = 3 := by
  have h0 : 0 ≤ IntKind.u64.wrap x := by rw [IntKind.wrap_u64]; exact Int.emod_nonneg _ (by omega)
  rw [Int.tmod_eq_emod_of_nonneg h0]
  omega
theorem u_mod (c : Int) (m : Nat) (h1 : 0 < m) : ∃ n : Nat, (IntKind.u64.wrap c).tmod (m : Int) = n ∧ n < m := by
  have h0 : 0 ≤ IntKind.u64.wrap c := by rw [IntKind.wrap_u64]; exact Int.emod_nonneg _ (by omega)
  rw [Int.tmod_eq_emod_of_nonneg h0]
  have h1' := Int.emod_nonneg (IntKind.u64.wrap c) (show ((m : Int)) ≠ 0 by omega)
  have h2 := Int.emod_lt_of_pos (IntKind.u64.wrap c) (show (0 : Int) < (m : Int) by omega)
  generalize IntKind.u64.wrap c % ((m : Int)) = z at *
  exact ⟨z.toNat, by omega, by omega⟩
theorem PlW.start {w0 u : World} {b l n : Nat} {dv rv : Value} {rs : List (Value × List UInt8)} (hW : Wl w0 u b l n 0 dv rv rs [] false) (hr : rs = []) : PlW w0 u b l n dv rv (.slice none 0 0) (.slice none 0 0) [] [] [] false := by
  subst hr
  exact ⟨hW, ⟨Ow.nil _ _ _, by simp, Ow.nil _ _ _, by simp [Value.ownBlock], by simp [Value.ownBlock], by simp⟩, rfl, rfl, by simp, Nat.zero_le _⟩
theorem ow_bound {w : World} {e : TypeId} {s n : Nat} {v : Value} {xs : List Value} (h : Ow w e s v n xs) : n ≤ 9223372036854775807 := by
  rcases h.2 with ⟨_, rfl⟩ | ⟨g, o, cap, cur, _, _, h1, h2, _⟩
  · omega
  · omega
theorem one_sl (l : List (Value × List UInt8)) (w : World) (h : ∀ x ∈ l, Rd w 1 x.1 x.2.length (bv x.2)) : ∀ u ∈ l.map (·.1), u.oneCell' = true := by
  intro u hu
  obtain ⟨x, hx, rfl⟩ := List.mem_map.1 hu
  obtain ⟨A, c, e, _⟩ := h x hx
  rw [e]
  rfl
set_option maxRecDepth 100000 in
set_option maxHeartbeats 4000000 in
theorem plays_walk (size : Int) (sv : Value) (ops : List POp) (w : World) (hs : Scr w sv ops) (hB : ∀ o ∈ ops, o.2.2.1.2.length ≤ 1048576 ∧ o.2.2.2.2.length ≤ 1048576) (na : ops.length ≤ 9223372036854775807) :
    Calls Try.prog 6 #[.int .i64 size, sv] w fun e w' => e = .returned (.bool true) ∧ Kept [] w w' := by
  have cf := Lib.hid first_any
  have S := Lib.hid hs
  obtain ⟨A, c, rfl, _, _, _⟩ := hs.outer
  clear hs
  obtain ⟨n, hn1, hn2⟩ := u_mod size 2000 (by omega)
  replace hn1 : (IntKind.u64.wrap size).tmod 2000 = (n : Int) := hn1
  have hBH := Lib.hid hB
  clear hB
  go_enter Try.func6, Try.ntmps6
  go_wp2_with (first
    | (go_at_call 7; (with_reducible refine (cf.out _).mono ?_); rintro e w1 ⟨rfl, k1⟩; have K1 := Lib.hid k1; clear k1)
    | (go_at_call 8; (with_reducible refine (dnew_any n w1 (by omega)).mono ?_); rintro e w2 ⟨b, rfl, d1⟩
       have D1 := Lib.hid (show Dw w w2 b n 0 (.slice none 0 0) [] from ⟨d1.disk, Nat.le_trans K1.out.size d1.lb, by simp [Value.ownBlock], K1.out.then0 d1.k⟩)
       clear d1 K1)
    | (go_at_call 10; (with_reducible refine (wopen2 D1.out (by decide)).mono ?_); rintro e w3 ⟨l, rv, rs, dv', rfl, h1, h2, h3, h4, h5⟩
       have P0 := Lib.hid (show PlW w w3 b l n dv' rv (.slice none 0 0) (.slice none 0 0) [] [] [] false from PlW.start (rs := []) (by
         have hrs : rs = [] := by rw [says_nil] at h1; simpa using h1
         subst hrs
         rw [says_nil] at h2
         exact h2) rfl)
       clear h1 h2 h3 h4 h5 D1))
  go_loopg [8, 10, 11, 12, 54] ops.length (fun fu lv RV BV dnv kv wk => ∃ (k : Nat), k ≤ ops.length ∧ fu + k = ops.length ∧ k ≤ 30 ∧ kv = .int .i64 (k : Int) ∧ Hid (PlI w b n lv RV BV dnv wk))
  case atStart => exact ⟨0, by omega, by omega, by omega, rfl, Lib.hid ⟨_, _, _, _, _, _, _, rfl, rfl, P0.out⟩⟩
  case round =>
    clear P0
    obtain ⟨k, hk, hfu, hk30, rfl, I⟩ := hrel
    obtain ⟨l, dv, rv, rs, drs, xs, dn, rfl, rfl, P⟩ := I.out
    obtain ⟨AR, cR, rfl, _⟩ := P.D.ro.shape
    obtain ⟨AB, cB, rfl, _⟩ := P.D.bo.shape
    have hlen := Lib.hid P.len
    have hfit := P.fit
    have hrl : drs.length ≤ 2000 := by have := hlen.out; omega
    have hrl2 : rs.length ≤ 2000 := by have := hlen.out; omega
    replace P := Lib.hid P
    clear I
    by_cases hlt : k < ops.length ∧ k < 30
    · obtain ⟨hlt, h30⟩ := hlt
      obtain ⟨pb, po, pc, heq, c0, c1, c2, c3⟩ := (S.out.kept0 P.out.W.k).at_ hlt
      cases heq
      have hin := S.out.inner ops[k] (List.getElem_mem _)
      have hB2 := hBH.out ops[k] (List.getElem_mem _)
      generalize ops[k] = o at *
      obtain ⟨kd, nn, ⟨v1, b1⟩, ⟨v2, b2⟩⟩ := o
      dsimp only at c0 c1 c2 c3 hin hB2
      obtain ⟨hi1, hi2⟩ := hin
      obtain ⟨hb1, hb2⟩ := hB2
      have R1 := Lib.hid hi1
      have R2 := Lib.hid hi2
      obtain ⟨A1, c1', rfl, _⟩ := hi1
      obtain ⟨A2, c2', rfl, _⟩ := hi2
      go_upto_block 2 with fail
      go_cut [8, 9, 10, 11, 12, 15, 65] (fun lv _ RV BV dnv _ _ wc => Hid (PlI w b n lv RV BV dnv wc))
      case first =>
        have BO := Lib.hid (Blk.new wr 47 #[.int .i64 kd, .int .i64 nn, .slice A1 b1.length c1', .slice A2 b2.length c2'])
        have P0 := P
        replace P := Lib.hid (P.out.kept0 ((Kept.refl [] wr).alloc (.cells #[.int .i64 kd, .int .i64 nn, .slice A1 b1.length c1', .slice A2 b2.length c2'] 47)))
        clear c0 c1 c2 c3
        rcases kind4 kd with hq | hq | hq | hq
        · as_aux_lemma =>
          go_wp2_with (first
            | ((with_reducible refine wpl_at 118 ?_); (refine wpl_bslice1 (o := ⟨some 118, _, _, _, _, _⟩) (v0 := .slice A1 b1.length c1') (cells := #[.slice A1 b1.length c1']) rfl slicesT rfl rfl (by decide) rfl rfl ?_); intro g5 w5 m5
               have LO := Lib.hid (show Ow w5 22 1 (.slice (some ⟨g5, 0, none⟩) 1 1) 1 [.slice A1 b1.length c1'] from Ow.close m5.blk (Nat.le_refl 1) (by decide) (by simp) rfl)
               have LN := Lib.hid (show ∀ k, (Value.slice (some ⟨g5, 0, none⟩) 1 1).ownBlock = some k → wr.heap.size ≤ k from fun k hk => by
                 have : g5 = k := by simpa [Value.ownBlock] using hk
                 have := m5.le
                 simp at this
                 omega)
               have K5 := Lib.hid (((Kept.refl [] wr).alloc (.cells #[.int .i64 kd, .int .i64 nn, .slice A1 b1.length c1', .slice A2 b2.length c2'] 47)).then0 m5.kept)
               have BO5 := Lib.hid (BO.out.kept m5.kept (by simp))
               have q3 := BO5.out.cell 3
               simp at q3
               clear m5))
          clear q3
          obtain ⟨AL, cL, hAL⟩ : ∃ AL cL, (Value.slice (some ⟨g5, 0, none⟩) 1 1) = .slice AL 1 cL := ⟨_, _, rfl⟩
          rw [hAL] at LO LN ⊢
          clear hAL
          obtain ⟨bs, hbs⟩ : ∃ bs : List (Value × List UInt8), bs = [(.slice A1 b1.length c1', b1)] := ⟨_, rfl⟩
          have hbl := Lib.hid (show bs.length = 1 from by rw [hbs]; rfl)
          replace LO := Lib.hid (show Ow w5 22 1 (.slice AL 1 cL) 1 (bs.map (·.1)) from by rw [hbs]; exact LO.out)
          have hbi := Lib.hid (show ∀ x ∈ bs, Rd w 1 x.1 x.2.length (bv x.2) ∧ x.2.length ≤ 1048576 from by
            rw [hbs]
            intro x hx
            simp only [List.mem_cons, List.not_mem_nil, or_false] at hx
            subst hx; exact ⟨R1.out, hb1⟩)
          clear hbs BO BO5
          replace P := Lib.hid (P0.out.kept0 K5.out)
          have hsm := Lib.hid (show ∀ x ∈ bs.map (·.2), x.length ≤ 1048576 from fun x hx => by
            obtain ⟨y, hy, rfl⟩ := List.mem_map.1 hx
            exact (hbi.out y hy).2)
          have hrsz := Lib.hid (rsz_le (bs.map (·.2)) 1048576 hsm.out)
          have LF := Lib.hid (show ∀ k, (Value.slice AL 1 cL).ownBlock = some k → k ∉ wlS b l dv rv ∧ (Value.slice AR drs.length cR).ownBlock ≠ some k from fun k hk => by
            have h1 := LN.out k hk
            refine ⟨fun hm => ?_, fun e => ?_⟩
            · have := P0.out.W.lt k hm; omega
            · have := P0.out.D.ro.lt e; omega)
          go_loopg [17, 18, 128] 1 (fun fu mv bg i wk => ∃ (j : Nat) (A : Option Addr) (c L : Nat), j ≤ 1 ∧ fu + j = 1 ∧ i = .int .i64 (j : Int) ∧ bg = .bool false ∧ mv = .slice A L c ∧ Hid (L = (encs drs.length ((bs.map (·.2)).take j)).length) ∧ Hid (New w5 wk (.slice A L c) (encs drs.length ((bs.map (·.2)).take j))))
          case atStart => exact ⟨0, none, 0, 0, by omega, by omega, rfl, rfl, rfl, Lib.hid rfl, Lib.hid (New.nil _)⟩
          case round =>
            obtain ⟨j, Am, cm, L, hj, hfu2, rfl, rfl, rfl, hL, N⟩ := hrel
            by_cases hjm : j < 1
            · have hjl : j < bs.length := by rw [hbl.out]; exact hjm
              obtain ⟨p1, p2, hpk⟩ : ∃ p1 p2, bs[j] = (p1, p2) := ⟨_, _, rfl⟩
              obtain ⟨lb, lo, lc, heq, _, hcell⟩ := (Rd.of_ow (LO.out.kept0 N.out.kept)).at_ (by decide)
              cases heq
              have hcl := hcell j p1 (by simp [hjl, hpk])
              have hin := hbi.out (p1, p2) (hpk ▸ List.getElem_mem _)
              dsimp only at hin
              obtain ⟨hin1, hin2⟩ := hin
              have R3 := Lib.hid (hin1.kept0 (P.out.W.k.then0 N.out.kept))
              obtain ⟨Bp, cp, rfl, _, _, _⟩ := hin1
              have crow := Lib.hid (fun u b (h : Rd u 1 b p2.length (bv p2)) => (show Calls Try.prog 21 #[.int .i64 ((drs.length : Int) + (j : Int)), b] u _ from rrow_any (drs.length + j) b p2 u h (by omega) (by omega)))
              have hLb := Lib.hid (show L ≤ 100000000 from by
                have h1 := rsz_takes (bs.map (·.2)) j
                have h2 := hrsz.out
                rw [List.length_map, hbl.out] at h2
                rw [hL.out, encs_len]; omega)
              have hLb2 := hLb.out
              have hpk2 := Lib.hid hpk
              have hel : (encR (drs.length + j) p2).length ≤ 1048592 := by rw [encR_len]; omega
              clear hcell hpk
              have h20 : ¬ (1048576 < p2.length) := by omega
              go_wp2_with (first
                | (go_at_call 21; (with_reducible refine (crow.out _ _ R3.out).mono ?_); rintro e w8 ⟨v8, rfl, n8⟩
                   have N8 := Lib.hid n8
                   obtain ⟨A8, c8, rfl, _⟩ := n8.ow.shape
                   clear n8)
                | (at_builtin
                   refine wpl_app (n := L) (m := (encR (drs.length + j) p2).length) bytesT rfl (.tmp 133) (.tmp 139) rfl rfl (by have := N.out.ow.kept0 N8.out.kept; rw [← hL.out] at this; exact this) rfl (Rd.of_ow N8.out.ow) (one_bv _) (by omega) (by omega) ?_
                   intro v9 w9 o9 k9 f9
                   obtain ⟨A9, c9, hv9, _⟩ := o9.shape
                   subst hv9
                   have N9 := Lib.hid (show New w5 w9 (.slice A9 (L + (encR (drs.length + j) p2).length) c9) (encs drs.length ((bs.map (·.2)).take j) ++ encR (drs.length + j) p2) from N.out.step (by rw [List.length_append, ← hL.out]; simpa [bv] using o9) (N8.out.kept.of0.trans' k9) N.out.old (by
                     rcases f9 with e | e
                     · exact .inl e
                     · exact .inr ⟨_, e, Nat.le_trans N.out.kept.size N8.out.kept.size⟩))
                   clear o9 k9 f9))
              go_roundg (1 - (j + 1))
              case measure => omega
              case rel =>
                have hl2 : j < (bs.map (·.2)).length := by rw [List.length_map]; exact hjl
                have es : encs drs.length ((bs.map (·.2)).take (j + 1)) = encs drs.length ((bs.map (·.2)).take j) ++ encR (drs.length + j) p2 := by
                  rw [encs_succ _ _ _ hl2, show (bs.map (·.2))[j] = p2 from by rw [List.getElem_map, hpk2.out]]
                refine ⟨j + 1, A9, c9, _, by omega, by omega, by go_num, congrArg Value.bool (decide_eq_false (by omega)), rfl, Lib.hid ?_, Lib.hid ?_⟩
                · rw [es, List.length_append, ← hL.out]
                · rw [es]; exact N9.out
            · obtain rfl : j = 1 := by omega
              have htk : (bs.map (·.2)).take 1 = bs.map (·.2) := List.take_of_length_le (by rw [List.length_map, hbl.out]; exact Nat.le_refl _)
              rw [htk] at hL N
              have hLr : L = rsz (bs.map (·.2)) := by rw [hL.out, encs_len]
              have hLb2 : L ≤ 100000000 := by
                have h2 := hrsz.out
                rw [List.length_map, hbl.out] at h2
                omega
              have NE := Lib.hid (show New w5 wr (.slice Am L cm) (encs rs.length (bs.map (·.2))) from by rw [← hlen.out.1]; exact N.out)
              have hLe := Lib.hid (show (encs rs.length (bs.map (·.2))).length = L from by rw [hLr, encs_len])
              have hLr2 := Lib.hid hLr
              clear htk hL N hLr
              replace P := Lib.hid (P.out.kept0 NE.out.kept)
              have LR := Lib.hid (LO.out.kept0 NE.out.kept)
              have far := Lib.hid (show ∀ x ∈ bs, 0 < x.2.length → ∀ k, x.1.ownBlock = some k → k < w.heap.size from fun x hx hn k hk => rd_lt (hbi.out x hx).1 hn hk)
              have hbr := Lib.hid (show ∀ x ∈ bs, Rd wr 1 x.1 x.2.length (bv x.2) from fun x hx => (hbi.out x hx).1.kept0 P.out.W.k)
              have nlow := Lib.hid (show (∀ k ∈ wlS b l dv rv, w.heap.size ≤ k ∧ k < wr.heap.size) from fun k hk => ⟨P.out.W.ge k hk, P.out.W.lt k hk⟩)
              cases dn with
              | true =>
                have cw := Lib.hid (write_down wr b l rv (.slice AL 1 cL) rs P.out.W.lg)
                go_wp2_with (first
                  | (go_at_call 16; (with_reducible refine cw.out.mono ?_); rintro e w9 ⟨rfl, rfl⟩))
                go_meet
                exact Lib.hid ⟨_, _, _, _, _, _, _, rfl, rfl, P.out⟩
              | false =>
                by_cases hf : xs.length + L ≤ n
                · go_wp2_with (first
                    | (at_builtin
                       refine wpl_app (n := drs.length) (m := 1) slicesT rfl (.tmp 148) (.tmp 149) rfl rfl P.out.D.ro rfl (Rd.of_ow LR.out) (one_sl bs wr hbr.out) (by omega) (by omega) ?_
                       intro vR wR oR kR fR
                       obtain ⟨AR2, cR2, hvR, _⟩ := oR.shape
                       subst hvR
                       have D1 := Lib.hid (P.out.D.rows (bs := bs) (by rw [hbl.out]; exact oR) kR fR P.out.W.k.size P.out.W.lt hbr.out (fun x hx hn k hk => by
                         have h1 := far.out x hx hn k hk
                         refine ⟨fun hm => ?_, fun e => ?_, fun e => ?_⟩
                         · have := (nlow.out k hm).1; omega
                         · have := (P.out.D.nR k e).1; omega
                         · have := (P.out.D.nB k e).1; omega))
                       have W1 := Lib.hid (P.out.W.docR P.out.D kR)
                       have L1 := Lib.hid (LR.out.kept kR (fun k hk hm => (LF.out k hk).2 (mem_own hm)))
                       have M1 := Lib.hid (NE.out.ow.kept kR (fun k hk hm => NE.out.ow.ne_ P.out.D.ro (by decide) k hk (mem_own hm)))
                       clear oR kR fR)
                    | (at_builtin
                       refine wpl_app (n := xs.length) (m := L) bytesT rfl (.tmp 151) (.tmp 152) rfl rfl D1.out.bo rfl (by have := Rd.of_ow M1.out; rwa [hLe.out] at this) (one_bv _) (by omega) (by omega) ?_
                       intro vB wB oB kB fB
                       obtain ⟨AB2, cB2, hvB, _⟩ := oB.shape
                       subst hvB
                       have D2 := Lib.hid (D1.out.bytes (ys := encs rs.length (bs.map (·.2))) (by rw [List.length_append, hLe.out]; simpa [bv] using oB) kB fB W1.out.k.size W1.out.lt (fun x hx k hk => (W1.out.lg.inner x hx).lt hk))
                       have W2 := Lib.hid (W1.out.docB D1.out kB)
                       have L2 := Lib.hid (L1.out.kept kB (fun k hk hm => L1.out.ne_ D1.out.bo (by decide) k hk (mem_own hm)))
                       have cw := Lib.hid (write_ok w wB b l n xs.length dv rv (.slice AL 1 cL) rs bs xs W2.out ⟨by rw [hbl.out]; exact Rd.of_ow L2.out, fun _ k hk hm => (LF.out k hk).1 hm, fun x hx => ⟨(hbi.out x hx).1.kept0 W2.out.k, fun hn k hk hm => by
                         have h1 := far.out x hx hn k hk
                         have h2 := (nlow.out k hm).1
                         omega⟩⟩ (by omega) (by rw [hbl.out]; omega) (by omega) (fun x hx => (hbi.out x hx).2) (by rw [← hLr2.out]; exact hf))
                       clear oB kB fB D1 W1 L1 M1)
                    | (go_at_call 16; (with_reducible refine cw.out.mono ?_); rintro e w9 ⟨rfl, dv9, rv9, rs9, hm9, h9, n9⟩
                       have P9 := Lib.hid (show PlW w w9 b l n dv9 rv9 (.slice AR2 (drs.length + 1) cR2) (.slice AB2 (xs.length + L) cB2) (rs ++ rs9) (drs ++ bs) (xs ++ encs rs.length (bs.map (·.2))) false from
                         ⟨h9.W, D2.out.log h9.k n9 h9.nr (fun x hx k hk => by
                            rcases List.mem_append.1 hx with hx | hx
                            · exact .inr ⟨x, hx, hk⟩
                            · exact .inl (h9.rn x hx k hk)), by rw [List.map_append, List.map_append, P.out.eq, hm9], by rw [List.map_append, hm9, encs_app, ← P.out.xe, List.length_map, Nat.zero_add], fun x hx => by
                            rw [List.map_append, hm9] at hx
                            rcases List.mem_append.1 hx with hx | hx
                            · exact P.out.sm x hx
                            · exact hsm.out x hx, by rw [List.length_append, hLe.out]; exact hf⟩)
                       clear hm9 h9 n9 D2 W2 L2))
                  go_meet
                  exact Lib.hid ⟨_, _, _, _, _, _, _, rfl, rfl, P9.out⟩
                · have cw := Lib.hid (write_full w wr b l n xs.length dv rv (.slice AL 1 cL) rs bs xs P.out.W ⟨by rw [hbl.out]; exact Rd.of_ow LR.out, fun _ k hk hm => (LF.out k hk).1 hm, fun x hx => ⟨hbr.out x hx, fun hn k hk hm => by
                    have h1 := far.out x hx hn k hk
                    have h2 := (nlow.out k hm).1
                    omega⟩⟩ (by omega) (by rw [hbl.out]; omega) (by omega) (fun x hx => (hbi.out x hx).2) hfit (by rw [← hLr2.out]; omega))
                  go_wp2_with (first
                    | (go_at_call 16; (with_reducible refine cw.out.mono ?_); rintro e w9 ⟨rfl, h9, k9⟩
                       have P9 := Lib.hid (show PlW w w9 b l n dv rv (.slice AR drs.length cR) (.slice AB xs.length cB) rs drs xs true from ⟨h9, P.out.D.log (k9.more (fun k _ hk => by rw [List.mem_singleton.1 hk]; exact mem_wlS.2 (.inr (.inl rfl)))) (.inl rfl) (.inl rfl) (fun x hx k hk => .inr ⟨x, hx, hk⟩), P.out.eq, P.out.xe, P.out.sm, P.out.fit⟩)
                       clear h9 k9))
                  go_meet
                  exact Lib.hid ⟨_, _, _, _, _, _, _, rfl, rfl, P9.out⟩
        · as_aux_lemma =>
          go_wp2_with (first
            | ((with_reducible refine wpl_at 118 ?_); (refine wpl_bslice1 (o := ⟨some 118, _, _, _, _, _⟩) (v0 := .slice A1 b1.length c1') (cells := #[.slice A1 b1.length c1']) rfl slicesT rfl rfl (by decide) rfl rfl ?_); intro g5 w5 m5
               have LO := Lib.hid (show Ow w5 22 1 (.slice (some ⟨g5, 0, none⟩) 1 1) 1 [.slice A1 b1.length c1'] from Ow.close m5.blk (Nat.le_refl 1) (by decide) (by simp) rfl)
               have LN := Lib.hid (show ∀ k, (Value.slice (some ⟨g5, 0, none⟩) 1 1).ownBlock = some k → wr.heap.size ≤ k from fun k hk => by
                 have : g5 = k := by simpa [Value.ownBlock] using hk
                 have := m5.le
                 simp at this
                 omega)
               have K5 := Lib.hid (((Kept.refl [] wr).alloc (.cells #[.int .i64 kd, .int .i64 nn, .slice A1 b1.length c1', .slice A2 b2.length c2'] 47)).then0 m5.kept)
               have BO5 := Lib.hid (BO.out.kept m5.kept (by simp))
               have q3 := BO5.out.cell 3
               simp at q3
               clear m5)
            | ((with_reducible refine wpl_at 124 ?_); (refine wpl_bslice1 (o := ⟨some 124, _, _, _, _, _⟩) (v0 := .slice A2 b2.length c2') (cells := #[.slice A2 b2.length c2']) rfl slicesT rfl rfl (by decide) rfl rfl ?_); intro g6 w6 m6
               have b6 := Lib.hid (show Rd w6 1 (.slice (some ⟨g6, 0, none⟩) 1 1) 1 [.slice A2 b2.length c2'] from ⟨_, _, rfl, rfl, by omega, fun _ => ⟨g6, 0, rfl, fun j u hu => by rw [m6.blk.cell]; simpa using hu⟩⟩)
               replace LO := Lib.hid (LO.out.kept0 m6.kept)
               replace K5 := Lib.hid (K5.out.then0 m6.kept)
               clear m6 q3)
            | (at_builtin
               refine wpl_app (n := 1) (m := 1) slicesT rfl (.tmp 121) (.tmp 124) rfl rfl LO.out rfl b6.out (by simp [Value.oneCell']) (by omega) (by omega) ?_
               intro v7 w7 o7 k7 f7
               obtain ⟨AL, cL, hv7, _⟩ := o7.shape
               subst hv7
               have LO7 := Lib.hid (show Ow w7 22 1 (.slice AL 2 cL) 2 [.slice A1 b1.length c1', .slice A2 b2.length c2'] from o7)
               have LN7 := Lib.hid (show ∀ k, (Value.slice AL 2 cL).ownBlock = some k → wr.heap.size ≤ k from fun k hk => by
                 have f8 : (Value.slice AL 2 cL).ownBlock = (Value.slice (some ⟨g5, 0, none⟩) 1 1).ownBlock ∨ (Value.slice AL 2 cL).ownBlock = some w6.heap.size := f7
                 rcases f8 with e | e
                 · exact LN.out k (by rw [← e]; exact hk)
                 · rw [e] at hk; cases hk; exact K5.out.size)
               have K7 := Lib.hid (Kept.fresh K5.out k7 (fun k hm => LN.out k (mem_own hm)))
               clear o7 k7 f7 LO LN K5 b6))
          have LO := LO7
          have LN := LN7
          have K5 := K7
          clear LO7 LN7 K7
          obtain ⟨bs, hbs⟩ : ∃ bs : List (Value × List UInt8), bs = [(.slice A1 b1.length c1', b1), (.slice A2 b2.length c2', b2)] := ⟨_, rfl⟩
          have hbl := Lib.hid (show bs.length = 2 from by rw [hbs]; rfl)
          replace LO := Lib.hid (show Ow w7 22 1 (.slice AL 2 cL) 2 (bs.map (·.1)) from by rw [hbs]; exact LO.out)
          have hbi := Lib.hid (show ∀ x ∈ bs, Rd w 1 x.1 x.2.length (bv x.2) ∧ x.2.length ≤ 1048576 from by
            rw [hbs]
            intro x hx
            simp only [List.mem_cons, List.not_mem_nil, or_false] at hx
            rcases hx with rfl | rfl
            · exact ⟨R1.out, hb1⟩
            · exact ⟨R2.out, hb2⟩)
          clear hbs BO BO5
          replace P := Lib.hid (P0.out.kept0 K5.out)
          have hsm := Lib.hid (show ∀ x ∈ bs.map (·.2), x.length ≤ 1048576 from fun x hx => by
            obtain ⟨y, hy, rfl⟩ := List.mem_map.1 hx
            exact (hbi.out y hy).2)
          have hrsz := Lib.hid (rsz_le (bs.map (·.2)) 1048576 hsm.out)
          have LF := Lib.hid (show ∀ k, (Value.slice AL 2 cL).ownBlock = some k → k ∉ wlS b l dv rv ∧ (Value.slice AR drs.length cR).ownBlock ≠ some k from fun k hk => by
            have h1 := LN.out k hk
            refine ⟨fun hm => ?_, fun e => ?_⟩
            · have := P0.out.W.lt k hm; omega
            · have := P0.out.D.ro.lt e; omega)
          go_loopg [17, 18, 128] 2 (fun fu mv bg i wk => ∃ (j : Nat) (A : Option Addr) (c L : Nat), j ≤ 2 ∧ fu + j = 2 ∧ i = .int .i64 (j : Int) ∧ bg = .bool false ∧ mv = .slice A L c ∧ Hid (L = (encs drs.length ((bs.map (·.2)).take j)).length) ∧ Hid (New w7 wk (.slice A L c) (encs drs.length ((bs.map (·.2)).take j))))
          case atStart => exact ⟨0, none, 0, 0, by omega, by omega, rfl, rfl, rfl, Lib.hid rfl, Lib.hid (New.nil _)⟩
          case round =>
            obtain ⟨j, Am, cm, L, hj, hfu2, rfl, rfl, rfl, hL, N⟩ := hrel
            by_cases hjm : j < 2
            · have hjl : j < bs.length := by rw [hbl.out]; exact hjm
              obtain ⟨p1, p2, hpk⟩ : ∃ p1 p2, bs[j] = (p1, p2) := ⟨_, _, rfl⟩
              obtain ⟨lb, lo, lc, heq, _, hcell⟩ := (Rd.of_ow (LO.out.kept0 N.out.kept)).at_ (by decide)
              cases heq
              have hcl := hcell j p1 (by simp [hjl, hpk])
              have hin := hbi.out (p1, p2) (hpk ▸ List.getElem_mem _)
              dsimp only at hin
              obtain ⟨hin1, hin2⟩ := hin
              have R3 := Lib.hid (hin1.kept0 (P.out.W.k.then0 N.out.kept))
              obtain ⟨Bp, cp, rfl, _, _, _⟩ := hin1
              have crow := Lib.hid (fun u b (h : Rd u 1 b p2.length (bv p2)) => (show Calls Try.prog 21 #[.int .i64 ((drs.length : Int) + (j : Int)), b] u _ from rrow_any (drs.length + j) b p2 u h (by omega) (by omega)))
              have hLb := Lib.hid (show L ≤ 100000000 from by
                have h1 := rsz_takes (bs.map (·.2)) j
                have h2 := hrsz.out
                rw [List.length_map, hbl.out] at h2
                rw [hL.out, encs_len]; omega)
              have hLb2 := hLb.out
              have hpk2 := Lib.hid hpk
              have hel : (encR (drs.length + j) p2).length ≤ 1048592 := by rw [encR_len]; omega
              clear hcell hpk
              have h20 : ¬ (1048576 < p2.length) := by omega
              go_wp2_with (first
                | (go_at_call 21; (with_reducible refine (crow.out _ _ R3.out).mono ?_); rintro e w8 ⟨v8, rfl, n8⟩
                   have N8 := Lib.hid n8
                   obtain ⟨A8, c8, rfl, _⟩ := n8.ow.shape
                   clear n8)
                | (at_builtin
                   refine wpl_app (n := L) (m := (encR (drs.length + j) p2).length) bytesT rfl (.tmp 133) (.tmp 139) rfl rfl (by have := N.out.ow.kept0 N8.out.kept; rw [← hL.out] at this; exact this) rfl (Rd.of_ow N8.out.ow) (one_bv _) (by omega) (by omega) ?_
                   intro v9 w9 o9 k9 f9
                   obtain ⟨A9, c9, hv9, _⟩ := o9.shape
                   subst hv9
                   have N9 := Lib.hid (show New w7 w9 (.slice A9 (L + (encR (drs.length + j) p2).length) c9) (encs drs.length ((bs.map (·.2)).take j) ++ encR (drs.length + j) p2) from N.out.step (by rw [List.length_append, ← hL.out]; simpa [bv] using o9) (N8.out.kept.of0.trans' k9) N.out.old (by
                     rcases f9 with e | e
                     · exact .inl e
                     · exact .inr ⟨_, e, Nat.le_trans N.out.kept.size N8.out.kept.size⟩))
                   clear o9 k9 f9))
              go_roundg (2 - (j + 1))
              case measure => omega
              case rel =>
                have hl2 : j < (bs.map (·.2)).length := by rw [List.length_map]; exact hjl
                have es : encs drs.length ((bs.map (·.2)).take (j + 1)) = encs drs.length ((bs.map (·.2)).take j) ++ encR (drs.length + j) p2 := by
                  rw [encs_succ _ _ _ hl2, show (bs.map (·.2))[j] = p2 from by rw [List.getElem_map, hpk2.out]]
                refine ⟨j + 1, A9, c9, _, by omega, by omega, by go_num, congrArg Value.bool (decide_eq_false (by omega)), rfl, Lib.hid ?_, Lib.hid ?_⟩
                · rw [es, List.length_append, ← hL.out]
                · rw [es]; exact N9.out
            · obtain rfl : j = 2 := by omega
              have htk : (bs.map (·.2)).take 2 = bs.map (·.2) := List.take_of_length_le (by rw [List.length_map, hbl.out]; exact Nat.le_refl _)
              rw [htk] at hL N
              have hLr : L = rsz (bs.map (·.2)) := by rw [hL.out, encs_len]
              have hLb2 : L ≤ 100000000 := by
                have h2 := hrsz.out
                rw [List.length_map, hbl.out] at h2
                omega
              have NE := Lib.hid (show New w7 wr (.slice Am L cm) (encs rs.length (bs.map (·.2))) from by rw [← hlen.out.1]; exact N.out)
              have hLe := Lib.hid (show (encs rs.length (bs.map (·.2))).length = L from by rw [hLr, encs_len])
              have hLr2 := Lib.hid hLr
              clear htk hL N hLr
              replace P := Lib.hid (P.out.kept0 NE.out.kept)
              have LR := Lib.hid (LO.out.kept0 NE.out.kept)
              have far := Lib.hid (show ∀ x ∈ bs, 0 < x.2.length → ∀ k, x.1.ownBlock = some k → k < w.heap.size from fun x hx hn k hk => rd_lt (hbi.out x hx).1 hn hk)
              have hbr := Lib.hid (show ∀ x ∈ bs, Rd wr 1 x.1 x.2.length (bv x.2) from fun x hx => (hbi.out x hx).1.kept0 P.out.W.k)
              have nlow := Lib.hid (show (∀ k ∈ wlS b l dv rv, w.heap.size ≤ k ∧ k < wr.heap.size) from fun k hk => ⟨P.out.W.ge k hk, P.out.W.lt k hk⟩)
              cases dn with
              | true =>
                have cw := Lib.hid (write_down wr b l rv (.slice AL 2 cL) rs P.out.W.lg)
                go_wp2_with (first
                  | (go_at_call 16; (with_reducible refine cw.out.mono ?_); rintro e w9 ⟨rfl, rfl⟩))
                go_meet
                exact Lib.hid ⟨_, _, _, _, _, _, _, rfl, rfl, P.out⟩
              | false =>
                by_cases hf : xs.length + L ≤ n
                · go_wp2_with (first
                    | (at_builtin
                       refine wpl_app (n := drs.length) (m := 2) slicesT rfl (.tmp 148) (.tmp 149) rfl rfl P.out.D.ro rfl (Rd.of_ow LR.out) (one_sl bs wr hbr.out) (by omega) (by omega) ?_
                       intro vR wR oR kR fR
                       obtain ⟨AR2, cR2, hvR, _⟩ := oR.shape
                       subst hvR
                       have D1 := Lib.hid (P.out.D.rows (bs := bs) (by rw [hbl.out]; exact oR) kR fR P.out.W.k.size P.out.W.lt hbr.out (fun x hx hn k hk => by
                         have h1 := far.out x hx hn k hk
                         refine ⟨fun hm => ?_, fun e => ?_, fun e => ?_⟩
                         · have := (nlow.out k hm).1; omega
                         · have := (P.out.D.nR k e).1; omega
                         · have := (P.out.D.nB k e).1; omega))
                       have W1 := Lib.hid (P.out.W.docR P.out.D kR)
                       have L1 := Lib.hid (LR.out.kept kR (fun k hk hm => (LF.out k hk).2 (mem_own hm)))
                       have M1 := Lib.hid (NE.out.ow.kept kR (fun k hk hm => NE.out.ow.ne_ P.out.D.ro (by decide) k hk (mem_own hm)))
                       clear oR kR fR)
                    | (at_builtin
                       refine wpl_app (n := xs.length) (m := L) bytesT rfl (.tmp 151) (.tmp 152) rfl rfl D1.out.bo rfl (by have := Rd.of_ow M1.out; rwa [hLe.out] at this) (one_bv _) (by omega) (by omega) ?_
                       intro vB wB oB kB fB
                       obtain ⟨AB2, cB2, hvB, _⟩ := oB.shape
                       subst hvB
                       have D2 := Lib.hid (D1.out.bytes (ys := encs rs.length (bs.map (·.2))) (by rw [List.length_append, hLe.out]; simpa [bv] using oB) kB fB W1.out.k.size W1.out.lt (fun x hx k hk => (W1.out.lg.inner x hx).lt hk))
                       have W2 := Lib.hid (W1.out.docB D1.out kB)
                       have L2 := Lib.hid (L1.out.kept kB (fun k hk hm => L1.out.ne_ D1.out.bo (by decide) k hk (mem_own hm)))
                       have cw := Lib.hid (write_ok w wB b l n xs.length dv rv (.slice AL 2 cL) rs bs xs W2.out ⟨by rw [hbl.out]; exact Rd.of_ow L2.out, fun _ k hk hm => (LF.out k hk).1 hm, fun x hx => ⟨(hbi.out x hx).1.kept0 W2.out.k, fun hn k hk hm => by
                         have h1 := far.out x hx hn k hk
                         have h2 := (nlow.out k hm).1
                         omega⟩⟩ (by omega) (by rw [hbl.out]; omega) (by omega) (fun x hx => (hbi.out x hx).2) (by rw [← hLr2.out]; exact hf))
                       clear oB kB fB D1 W1 L1 M1)
                    | (go_at_call 16; (with_reducible refine cw.out.mono ?_); rintro e w9 ⟨rfl, dv9, rv9, rs9, hm9, h9, n9⟩
                       have P9 := Lib.hid (show PlW w w9 b l n dv9 rv9 (.slice AR2 (drs.length + 2) cR2) (.slice AB2 (xs.length + L) cB2) (rs ++ rs9) (drs ++ bs) (xs ++ encs rs.length (bs.map (·.2))) false from
                         ⟨h9.W, D2.out.log h9.k n9 h9.nr (fun x hx k hk => by
                            rcases List.mem_append.1 hx with hx | hx
                            · exact .inr ⟨x, hx, hk⟩
                            · exact .inl (h9.rn x hx k hk)), by rw [List.map_append, List.map_append, P.out.eq, hm9], by rw [List.map_append, hm9, encs_app, ← P.out.xe, List.length_map, Nat.zero_add], fun x hx => by
                            rw [List.map_append, hm9] at hx
                            rcases List.mem_append.1 hx with hx | hx
                            · exact P.out.sm x hx
                            · exact hsm.out x hx, by rw [List.length_append, hLe.out]; exact hf⟩)
                       clear hm9 h9 n9 D2 W2 L2))
                  go_meet
                  exact Lib.hid ⟨_, _, _, _, _, _, _, rfl, rfl, P9.out⟩
                · have cw := Lib.hid (write_full w wr b l n xs.length dv rv (.slice AL 2 cL) rs bs xs P.out.W ⟨by rw [hbl.out]; exact Rd.of_ow LR.out, fun _ k hk hm => (LF.out k hk).1 hm, fun x hx => ⟨hbr.out x hx, fun hn k hk hm => by
                    have h1 := far.out x hx hn k hk
                    have h2 := (nlow.out k hm).1
                    omega⟩⟩ (by omega) (by rw [hbl.out]; omega) (by omega) (fun x hx => (hbi.out x hx).2) hfit (by rw [← hLr2.out]; omega))
                  go_wp2_with (first
                    | (go_at_call 16; (with_reducible refine cw.out.mono ?_); rintro e w9 ⟨rfl, h9, k9⟩
                       have P9 := Lib.hid (show PlW w w9 b l n dv rv (.slice AR drs.length cR) (.slice AB xs.length cB) rs drs xs true from ⟨h9, P.out.D.log (k9.more (fun k _ hk => by rw [List.mem_singleton.1 hk]; exact mem_wlS.2 (.inr (.inl rfl)))) (.inl rfl) (.inl rfl) (fun x hx k hk => .inr ⟨x, hx, hk⟩), P.out.eq, P.out.xe, P.out.sm, P.out.fit⟩)
                       clear h9 k9))
                  go_meet
                  exact Lib.hid ⟨_, _, _, _, _, _, _, rfl, rfl, P9.out⟩
        · as_aux_lemma =>
          have hsx := Lib.hid (show says xs = rs.map (·.2) from by rw [P.out.xe]; exact says_encs _ P.out.sm)
          have hrz := Lib.hid (show rsz (says xs) = xs.length from by rw [hsx.out, P.out.xe, encs_len])
          have q1 := BO.out.cell 1
          simp at q1
          go_wp2_with (first
            | (go_at_call 20; (with_reducible refine (dcrash nn P.out.W.dw (by omega)).mono ?_); rintro e w5 ⟨rfl, dv5, d5, k5, o5⟩
               have D5 := Lib.hid d5
               have C5 := Lib.hid (P.out.D.log (dv' := dv5) (rv' := rv) (rs' := rs) (k5.more (fun k _ hk => by rw [List.mem_singleton.1 hk]; exact mem_wlS.2 (.inl rfl))) (.inl o5) (.inl rfl) (fun x hx k hk => .inr ⟨x, hx, hk⟩))
               clear k5 o5 d5)
            | (go_at_call 10; (with_reducible refine (wopen2 D5.out (by omega)).mono ?_); rintro e w6 ⟨l6, rv6, rs6, dv6, rfl, h1, h2, h3, h4, h5⟩
               rw [hrz.out, List.take_length] at h2
               have P6 := Lib.hid (show PlW w w6 b l6 n dv6 rv6 (.slice AR drs.length cR) (.slice AB xs.length cB) rs6 drs xs false from ⟨h2, C5.out.opened h3 h4 h5.ll h5.lr h5.lx, by rw [h1, hsx.out]; exact P.out.eq, by rw [h1, hsx.out]; exact P.out.xe, by rw [h1, hsx.out]; exact P.out.sm, hfit⟩)
               clear h1 h2 h3 h4 h5 C5 D5))
          go_meet
          exact Lib.hid ⟨_, _, _, _, _, _, _, rfl, rfl, P6.out⟩
        · as_aux_lemma =>
          obtain ⟨q, hq1, hq2⟩ := u_mod nn 100 (by omega)
          replace hq1 : (IntKind.u64.wrap nn).tmod 100 = (q : Int) := hq1
          obtain ⟨r, hr1, hr2⟩ : ∃ r : Nat, r ≤ xs.length ∧ (r : Int) = if (0 : Int) < (xs.length : Int) - (q : Int) then (xs.length : Int) - (q : Int) else 0 := ⟨xs.length - q, by omega, by split <;> omega⟩
          replace hr2 := Lib.hid hr2
          obtain ⟨ys, hys⟩ : ∃ ys, ys = xs.take r := ⟨_, rfl⟩
          have hyl : ys.length = r := by rw [hys, List.length_take]; omega
          have hsx := Lib.hid (show says ys = (rs.map (·.2)).take (wantN (rs.map (·.2)) r) from by rw [hys, P.out.xe]; exact says_torn _ r P.out.sm)
          obtain ⟨at_, hat⟩ : ∃ a, a = rsz (says ys) := ⟨_, rfl⟩
          have hatl : at_ ≤ r := by rw [hat, ← hyl]; exact rsz_says ys
          have hxe := Lib.hid (show ys.take at_ = encs 0 (says ys) from by
            rw [hat, hys, List.take_take, Nat.min_eq_left (by rw [← hys, ← hat]; exact hatl), ← hys, hsx.out, P.out.xe]
            exact encs_take _ 0 _)
          have hsm6 := Lib.hid (show ∀ x ∈ says ys, x.length ≤ 1048576 from fun x hx => by rw [hsx.out] at hx; exact P.out.sm x (List.mem_of_mem_take hx))
          replace hat := Lib.hid hat
          replace hyl := Lib.hid hyl
          replace hys := Lib.hid hys
          obtain ⟨B1, d1, hB1, oB1, eB1⟩ := ow_to bytesT P.out.D.bo .i64 r hr1
          rw [Nat.mul_one, bv, ← List.map_take, ← hys.out] at oB1
          have hal := Lib.hid (show (ys.take at_).length = at_ from by rw [List.length_take, hyl.out]; exact Nat.min_eq_left hatl)
          have OB1 := Lib.hid (show Ow _ 5 1 (.slice B1 r d1) r (bv ys) from oB1)
          obtain ⟨B2, d2, hB2, oB2, eB2⟩ := ow_to bytesT OB1.out .i64 at_ hatl
          rw [Nat.mul_one, bv, ← List.map_take] at oB2
          have OB2 := Lib.hid (show Ow _ 5 1 (.slice B2 at_ d2) at_ (bv (ys.take at_)) from oB2)
          have eB := Lib.hid (show ∀ k, (Value.slice B2 at_ d2).ownBlock = some k → (Value.slice AB xs.length cB).ownBlock = some k from fun k hk => by rw [← eB1, ← eB2]; exact hk)
          clear oB1 oB2 eB1 eB2
          have q1 := BO.out.cell 1
          simp at q1
          have hxle : xs.length ≤ 2000 := by omega
          go_wp2_with fail
          replace BO := Lib.hid BO.out.drew
          replace OB1 := Lib.hid OB1.out.drew
          replace OB2 := Lib.hid OB2.out.drew
          replace P := Lib.hid (P.out.kept0 (Kept.refl [] _).drew)
          refine Txt.wp_textG [4] (fun u => Blk u wr.heap.size 47 #[.int .i64 kd, .int .i64 nn, .slice A1 b1.length c1', .slice A2 b2.length c2']) [[_, _, _], [_, _, _, _, _, _, _, _], []] (by kernel_rfl) (by kernel_rfl) rfl BO.out (Txt.segs_cons ?_)
          go_wp2_with (first
            | (go_at_call 17; (with_reducible refine (dlen_any P.out.W.dw).mono ?_); rintro e w4 ⟨rfl, rfl⟩))
          refine ⟨rfl, BO.out, Txt.segs_cons ?_⟩
          go_wp2_with (first
            | ((with_reducible refine wpl_at 81 ?_); refine wpl_max (o := ⟨some 81, _, _, _, _, _⟩) rfl (.const (.int .i64 0)) (.tmp 80) rfl rfl rfl hr2.out ?_)
            | (go_at_call 18; (with_reducible refine (dcut2 (n := r) P.out.W.dw hr1).mono ?_); rintro e w5 ⟨rfl, dv5, d5, k5, o5⟩
               rw [← hys.out, Nat.min_eq_right hr1] at d5
               have D5 := Lib.hid d5
               have C5 := Lib.hid (P.out.D.log (dv' := dv5) (rv' := rv) (rs' := rs) (k5.more (fun k _ hk => by rw [List.mem_singleton.1 hk]; exact mem_wlS.2 (.inl rfl))) (.inl o5) (.inl rfl) (fun x hx k hk => .inr ⟨x, hx, hk⟩))
               have BO5 := Lib.hid (BO.out.kept k5 (by simpa using (P.out.W.disk.blk.ne_ BO.out (by decide)).symm))
               have o5H := Lib.hid o5
               replace OB1 := Lib.hid (OB1.out.kept k5 (fun k hk hm => OB1.out.blk_ne P.out.W.disk.blk (by decide) (by rw [hk, List.mem_singleton.1 hm])))
               replace OB2 := Lib.hid (OB2.out.kept k5 (fun k hk hm => OB2.out.blk_ne P.out.W.disk.blk (by decide) (by rw [hk, List.mem_singleton.1 hm])))
               have lt5 := Lib.hid (show ∀ k ∈ wlS b l dv5 rv, k < w5.heap.size from fun k hk => by
                 refine Nat.lt_of_lt_of_le (P.out.W.lt k ?_) k5.size
                 rw [mem_wlS] at hk ⊢
                 rw [o5] at hk
                 exact hk)
               clear k5 o5 d5))
          refine ⟨rfl, BO5.out, Txt.segs_cons ?_⟩
          go_wp2_with fail
          refine ⟨rfl, BO5.out, Txt.segs_nil ⟨⟨by kernel_rfl, ?_⟩, ?_⟩⟩
          · intro j hj o ho hw
            obtain rfl : j = 4 := by simpa using hj
            cases ho
            exact ⟨_, rfl, fun u hu => ex_cell (.tmp 75) rfl flatI rfl (by rw [hu.cell]; rfl)⟩
          replace hB2 := hB2
          have csy := Lib.hid (fun u (h : Ow u 5 1 (.slice B1 r d1) r (bv ys)) => rsays_any (.slice B1 r d1) ys u (by rw [hyl.out]; exact Rd.of_ow h) (by rw [hyl.out]; omega))
          have q5 := BO5.out.cell 1
          simp at q5
          go_wp2_with (first
            | ((with_reducible refine wpl_at 92 ?_); refine wpl_max (o := ⟨some 92, _, _, _, _, _⟩) rfl (.const (.int .i64 0)) (.tmp 91) rfl rfl rfl hr2.out ?_)
            | (go_at_call 11; (with_reducible refine (csy.out _ OB1.out).mono ?_); rintro e w6 ⟨RV6, drs6, rfl, h1, h2⟩
               rw [← hat.out]
               have hd6 := Lib.hid h1
               have C6 := Lib.hid (C5.out.says (BV' := .slice B2 at_ d2) (zs := ys.take at_) h2 D5.out.k.size lt5.out (by rw [hal.out]; exact OB2.out.kept0 h2.k) eB.out)
               have D6 := Lib.hid (D5.out.kept0 h2.k)
               clear h1 h2 q5 C5 D5)
            | (go_at_call 10; (with_reducible refine (wopen2 D6.out (by rw [hyl.out]; omega)).mono ?_); rintro e w7 ⟨l7, rv7, rs7, dv7, rfl, h1, h2, h3, h4, h5⟩
               rw [← hat.out] at h2
               have P7 := Lib.hid (show PlW w w7 b l7 n dv7 rv7 RV6 (.slice B2 at_ d2) rs7 drs6 (ys.take at_) false from ⟨by rw [hal.out]; exact h2, C6.out.opened h3 h4 h5.ll h5.lr h5.lx, by rw [h1, hd6.out], by rw [h1]; exact hxe.out, by rw [h1]; exact hsm6.out, by rw [hal.out]; omega⟩)
               clear h1 h2 h3 h4 h5 C6 D6))
          go_meet
          exact Lib.hid ⟨_, _, _, _, _, _, _, rfl, rfl, P7.out⟩
      case rest =>
        clear P
        as_aux_lemma =>
        obtain ⟨l2, dv2, rv2, rs2, drs2, xs2, dn2, rfl, rfl, P⟩ := hcut.out
        obtain ⟨AR2, cR2, rfl, _⟩ := P.D.ro.shape
        obtain ⟨AB2, cB2, rfl, _⟩ := P.D.bo.shape
        have hlen2 := P.len
        have hfit2 := P.fit
        have hql : rs2.length ≤ 2000 := by omega
        obtain ⟨q, hq1, hq2⟩ : ∃ q, rs2.length = q ∧ drs2.length = q := ⟨_, rfl, hlen2.1⟩
        have hq3 : q ≤ 2000 := by omega
        rw [hq2]
        have P1 := Lib.hid P
        replace P := Lib.hid P
        have DP := Lib.hid (show Parts wc (.slice AR2 q cR2) drs2 from ⟨by have := Rd.of_ow P.out.D.ro; rw [hq2] at this ⊢; exact this, P.out.D.ri⟩)
        have hsm := Lib.hid (show ∀ x ∈ rs2, x.2.length ≤ 140737488355328 from fun x hx => by
          have := P.out.sm x.2 (List.mem_map.2 ⟨x, hx, rfl⟩); omega)
        have hxb := Lib.hid (Rd.of_ow P.out.D.bo)
        have eX : (xs2 == xs2) = true := by simp
        have eD : (dn2 != dn2) = false := by simp
        replace hq1 := Lib.hid hq1
        replace hq2 := Lib.hid hq2
        clear hlen2 hql
        go_wp2_with (first
          | (go_at_call 13; (with_reducible refine (rows_any b l2 rv2 rs2 dn2 _ P.out.W.lg (by rw [hq1.out]; omega) hsm.out).mono ?_); rintro e w5 ⟨v5, ps5, rfl, hp5, m5⟩
             have h5l : ps5.length = q := by have := congrArg List.length hp5; simp only [List.length_map] at this; rw [this, hq1.out]
             have F5 := Lib.hid (FlI.of m5)
             have P5 := Lib.hid m5.parts
             obtain ⟨A5, c5, hv5, _⟩ := m5.ow.shape
             subst hv5
             rw [h5l] at F5 P5 ⊢
             have h5lH := Lib.hid h5l
             have hp5H := Lib.hid hp5
             replace P := Lib.hid (P.out.kept0 m5.k)
             replace DP := Lib.hid (DP.out.kept0 m5.k)
             replace hxb := Lib.hid (hxb.out.kept0 m5.k)
             clear h5l hp5 m5))
        replace P := Lib.hid (P.out.kept0 (Kept.refl [] _).drew)
        replace DP := Lib.hid (DP.out.kept0 (Kept.refl [] _).drew)
        replace hxb := Lib.hid hxb.out.drew
        replace P5 := Lib.hid (P5.out.kept0 (Kept.refl [] _).drew)
        replace F5 := Lib.hid F5.out.drew
        refine Txt.wp_textG [22] (fun u => Rd u 1 (.slice AB2 xs2.length cB2) xs2.length (bv xs2)) [[_, _, _], [_, _, _, _], [_, _, _, _, _, _, _], [_, _, _, _, _, _], [_, _, _, _, _, _, _, _], [_, _], [_, _]] (by kernel_rfl) (by kernel_rfl) rfl hxb.out (Txt.segs_cons ?_)
        go_wp2_with (first
          | (go_at_call 12; (with_reducible refine (same_true _ _ ps5 drs2 _ P5.out DP.out (by rw [hp5H.out, P.out.eq]) (by rw [h5lH.out]; omega)).mono ?_); rintro e w6 ⟨rfl, k6⟩
             replace P := Lib.hid (P.out.kept0 k6)
             replace hxb := Lib.hid (hxb.out.kept0 k6)
             replace F5 := Lib.hid (F5.out.kept0 k6)
             clear k6 P5 DP))
        refine ⟨rfl, hxb.out, Txt.segs_cons ?_⟩
        go_wp2_with (first
          | (go_at_call 19; (with_reducible refine (llen_any b l2 rv2 rs2 dn2 _ P.out.W.lg).mono ?_); rintro e w7 ⟨he, rfl⟩
             rw [hq1.out] at he
             subst he))
        refine ⟨rfl, hxb.out, Txt.segs_cons ?_⟩
        go_wp2_with (first
          | (go_at_call 15; (with_reducible refine (ldown_any P.out.W.lg).mono ?_); rintro e w8 ⟨rfl, k8⟩
             replace P := Lib.hid (P.out.kept0 k8)
             replace hxb := Lib.hid (hxb.out.kept0 k8)
             replace F5 := Lib.hid (F5.out.kept0 k8)
             clear k8))
        refine ⟨rfl, hxb.out, Txt.segs_cons ?_⟩
        go_wp2_with (first
          | (go_at_call 14; (with_reducible refine (dbytes_any P.out.W.dw (by omega)).mono ?_); rintro e w9 ⟨A9, c9, rfl, r9, k9⟩
             replace P := Lib.hid (P.out.kept0 k9)
             replace hxb := Lib.hid (hxb.out.kept0 k9)
             replace F5 := Lib.hid (F5.out.kept0 k9)
             have s9 := run_toS (P := Try.prog) (s := 22) (d := 9) (e := 5) rfl rfl rfl r9
             clear k9 r9))
        refine ⟨rfl, hxb.out, Txt.segs_cons ?_⟩
        have sY := run_toS (P := Try.prog) (s := 22) (d := 9) (e := 5) rfl rfl rfl hxb.out
        go_wp2_with (first
          | (go_at_call 22; (with_reducible refine (dsafe P.out.W.dw).mono ?_); rintro e w10 ⟨rfl, rfl⟩))
        refine ⟨rfl, hxb.out, Txt.segs_cons ?_⟩
        go_wp2_with (first
          | (go_at_call 17; (with_reducible refine (dlen_any P.out.W.dw).mono ?_); rintro e w11 ⟨rfl, rfl⟩))
        refine ⟨rfl, hxb.out, Txt.segs_cons ?_⟩
        go_wp2_with fail
        refine ⟨rfl, hxb.out, Txt.segs_nil ⟨⟨by kernel_rfl, ?_⟩, ?_⟩⟩
        · intro j hj o ho hw
          obtain rfl : j = 22 := by simpa using hj
          cases ho
          exact ⟨_, rfl, fun u hu => ex_conv (.tmp 194) rfl rfl hu⟩
        have F6 := Lib.hid F5.out
        clear sY s9 P hxb F5
        obtain ⟨PS, hPS⟩ : ∃ PS, PS = ps5.map (·.1) := ⟨_, rfl⟩
        have hPl := Lib.hid (show PS.length = q from by rw [hPS, List.length_map, h5lH.out])
        rw [← hPS] at F6
        clear hPS hp5H h5lH
        go_wp2_with fail
        go_loopg [207] q (fun fu i wk => ∃ j : Nat, j ≤ q ∧ fu + j = q ∧ i = .int .i64 (j : Int) ∧ Hid (FlI wc wk (.slice A5 q c5) PS))
        case atStart => exact ⟨0, by omega, by omega, rfl, F6⟩
        case round =>
          clear F6
          obtain ⟨j, hj, hfuj, rfl, F⟩ := hrel
          by_cases hjq : j < q
          · as_aux_lemma =>
            have hjl : j < PS.length := by rw [hPl.out]; exact hjq
            obtain ⟨lb, lo, lc, heq, _, hcell⟩ := (Rd.of_ow F.out.ow).at_ (by rw [hPl.out]; omega)
            rw [hPl.out] at heq
            cases heq
            have hx : PS[j] ∈ PS := List.getElem_mem hjl
            have hcl := hcell j PS[j] (by simp [hjl])
            generalize PS[j] = x at *
            obtain ⟨⟨nx, ys, ox, _⟩, _⟩ := F.out.inner x hx
            obtain ⟨Ax, cx, rfl, _⟩ := ox.shape
            have hxm := Lib.hid hx
            clear hcell hx ox
            go_wp2_with fail
            go_loopg [213] nx (fun fu2 i2 wk2 => ∃ h : Nat, h ≤ nx ∧ fu2 + h = nx ∧ i2 = .int .i64 (h : Int) ∧ Hid (FlI wc wk2 (.slice (some ⟨lb, lo, none⟩) q c5) PS))
            case atStart => exact ⟨0, by omega, by omega, rfl, F⟩
            case round =>
              clear F hcl
              obtain ⟨h, hh, hfuh, rfl, F⟩ := hrel
              by_cases hhn : h < nx
              · obtain ⟨⟨n', zs, oz, hz⟩, _⟩ := F.out.inner _ hxm.out
                obtain ⟨_, _, e, _⟩ := oz.shape
                cases e
                obtain ⟨g, o, cz, heq2, _, hcz, hfz, _⟩ := oz.at_ (by omega)
                cases heq2
                have hnb := ow_bound oz
                have hlz : h < zs.length := by have := oz.1; omega
                obtain ⟨z, hzz⟩ := hz zs[h] (List.getElem_mem hlz)
                have q1 := hcz h _ (List.getElem?_eq_getElem hlz)
                rw [hzz] at q1
                have q2 := hfz (o + h)
                clear hzz hcz hfz hz oz hlz
                go_wp2_with fail
                go_roundg (nx - (h + 1))
                case measure => omega
                case rel => exact ⟨h + 1, by omega, by omega, by go_num, Lib.hid (F.out.turn hxm.out rfl _)⟩
              · obtain rfl : h = nx := by omega
                go_wp2_with fail
                go_roundg (q - (j + 1))
                case measure => omega
                case rel => exact ⟨j + 1, by omega, by omega, by go_num, F⟩
          · obtain rfl : j = q := by omega
            go_wp2_with fail
            go_roundg (ops.length - (k + 1))
            case measure => omega
            case rel => exact ⟨k + 1, by omega, by omega, by omega, by go_num, Lib.hid ⟨_, _, _, _, _, _, _, rfl, rfl, by have := P1.out.kept0 F.out.k; rw [hq2.out] at this; exact this⟩⟩
    · by_cases hlt2 : k < ops.length
      · obtain ⟨pb, po, pc, heq, c0, c1, c2, c3⟩ := (S.out.kept0 P.out.W.k).at_ hlt2
        cases heq
        have hin := S.out.inner ops[k] (List.getElem_mem _)
        have h30 : ¬ k < 30 := fun h => hlt ⟨hlt2, h⟩
        clear hlt
        generalize ops[k] = o at *
        obtain ⟨kd, nn, ⟨v1, b1⟩, ⟨v2, b2⟩⟩ := o
        dsimp only at c0 c1 c2 c3 hin
        obtain ⟨hi1, hi2⟩ := hin
        obtain ⟨A1, c1', rfl, _⟩ := hi1
        obtain ⟨A2, c2', rfl, _⟩ := hi2
        go_wp2_with (first
          | (go_at_call 10; (with_reducible refine (open_nil _).mono ?_); rintro e w5 ⟨rfl, rfl⟩)
          | (go_at_call 16; (with_reducible refine (write_nil _ _).mono ?_); rintro e w5 ⟨rfl, rfl⟩)
          | (go_at_call 13; (with_reducible refine (rows_nil _).mono ?_); rintro e w5 ⟨rfl, rfl⟩)
          | (go_at_call 19; (with_reducible refine (len_nil _).mono ?_); rintro e w5 ⟨rfl, rfl⟩)
          | (go_at_call 15; (with_reducible refine (down_nil _).mono ?_); rintro e w5 ⟨rfl, rfl⟩))
        go_ret
        exact ⟨rfl, P.out.W.k.alloc _⟩
      · obtain rfl : k = ops.length := by omega
        clear hlt
        go_wp2_with (first
          | (go_at_call 10; (with_reducible refine (open_nil _).mono ?_); rintro e w5 ⟨rfl, rfl⟩)
          | (go_at_call 16; (with_reducible refine (write_nil _ _).mono ?_); rintro e w5 ⟨rfl, rfl⟩)
          | (go_at_call 13; (with_reducible refine (rows_nil _).mono ?_); rintro e w5 ⟨rfl, rfl⟩)
          | (go_at_call 19; (with_reducible refine (len_nil _).mono ?_); rintro e w5 ⟨rfl, rfl⟩)
          | (go_at_call 15; (with_reducible refine (down_nil _).mono ?_); rintro e w5 ⟨rfl, rfl⟩))
        go_ret
        exact ⟨rfl, P.out.W.k⟩
end Go.Proofs.Ytjdfnhfankcodaa
