/-
  Slots: in whatever order votes come: the walk.
-/
import Derived.Test.YthffkgnbgncfaaaLwOne
import Derived.Test.YthffkgnbgncfaaaSt21
namespace Go.Proofs.Ythffkgnbgncfaaa
open Go.RowKit Go.Mem Go.Txt
set_option maxRecDepth 100000 in
set_option maxHeartbeats 1600000 in
theorem order_walk (f : Int) (va : Value) (a : List UInt8) (w : World) (ha : Rd w 1 va a.length (bv a)) (ha2 : a.length ≤ 9223372036854775807) :
    Calls Try.prog 4 #[.int .i64 f, va] w fun e w' => e = .returned (.bool true) ∧ Kept [] w w' := by
  have c0 := Lib.hid (first_any w)
  obtain ⟨k, hk, ek⟩ := third f
  have cn := Lib.hid (fun u => new_ok (k : Int) (by omega) u)
  obtain ⟨Aa, ca, rfl, hca⟩ := rd_shape ha
  have ha' := Lib.hid ha
  clear ha
  obtain ⟨n, hn1, hn2, hmin⟩ : ∃ n : Nat, n ≤ 3 * k + 1 ∧ n ≤ a.length ∧ (n : Int) = if 3 * (k : Int) + 1 < (a.length : Int) then 3 * (k : Int) + 1 else (a.length : Int) := by
    by_cases h : 3 * k + 1 < a.length
    · exact ⟨3 * k + 1, by omega, by omega, by rw [if_pos (by omega)]; omega⟩
    · exact ⟨a.length, by omega, by omega, by rw [if_neg (by omega)]⟩
  replace hmin := Lib.hid hmin
  have hz := Lib.hid hz_info
  have alt := Lib.hid (al_three a n)
  have ale := Lib.hid (al_le a n)
  have b1 := Lib.hid (fun g1 g2 u (T : T2 w u k g1 (LL a n) g2 (LL a n)) => ord_best1 hk hn1 T)
  have b2 := Lib.hid (fun g1 g2 u (T : T2 w u k g1 (LL a n) g2 (LL a n)) => ord_best2 hk hn1 T)
  have cc := Lib.hid (fun g1 g2 u (T : T2 w u k g1 (LL a n) g2 (LL a n)) => ord_count hk hn1 T)
  have pl := Lib.hid (ord_best_len a n)
  generalize bst (LL a n) (LL a n).length = p at *
  obtain ⟨ph, pn⟩ := p
  simp only at pl b1 b2
  go_enter Try.func4, Try.ntmps4
  go_wp2_with (first
    | (go_at_call 6; (with_reducible refine (c0.out).mono ?_); rintro e w1 ⟨rfl, kk⟩
       have K := Lib.hid kk
       clear kk)
    | (refine wpl_min (o := ⟨some 43, _, _, _, _, _⟩) rfl (.tmp 39) (.tmp 42) rfl rfl rfl hmin.out ?_)
    | (go_at_call 7; have T2' := T1; clear T1; (with_reducible refine (cn.out _).mono ?_); rintro e w2 ⟨g2, rfl, t, kk, n⟩
       have T := Lib.hid (T2.start T2'.out.1 T2'.out.2.1 T2'.out.2.2 (by simp [Value.ownBlock]) t kk n)
       clear T2' t kk n)
    | (go_at_call 7; (with_reducible refine (cn.out _).mono ?_); rintro e w2 ⟨g1, rfl, t, kk, n⟩
       have T1 := Lib.hid (show Tl w2 g1 k [] (.slice none 0 0) ∧ Kept [] w w2 ∧ w.heap.size ≤ g1 from ⟨t, K.out.then0 kk, Nat.le_trans K.out.size n⟩)
       clear K t kk n))
  go_loopg [11] n (fun fu i wk => ∃ i' : Nat, i' ≤ n ∧ fu + i' = n ∧ i = .int .i64 (i' : Int) ∧ Hid (T2 w wk k g1 (LL a i') g2 (RR a n i')))
  case atStart => exact ⟨0, by omega, by omega, rfl, T⟩
  case round =>
    clear T
    obtain ⟨i, hi, hf, rfl, T⟩ := hrel
    by_cases hlt : i < n
    · have hlti : (i : Int) < n := by omega
      have hia : i < a.length := by omega
      have hja : n - 1 - i < a.length := by omega
      obtain ⟨ga, oa, ca2, hva, hcl1, hcl2⟩ := (ha'.out.kept0 T.out.k).at_ (by omega)
      clear hcl1 hcl2
      obtain rfl : Aa = some ⟨ga, oa, none⟩ := by cases hva; rfl
      clear hva
      have qa := rd_cell (ha'.out.kept0 T.out.k) hia
      have add1 := Lib.hid (fun u (T : T2 w u k g1 (LL a i) g2 (RR a n i)) => ord_add1 hk (by omega) T)
      have add2 := Lib.hid (fun u (T : T2 w u k g1 (LL a (i + 1)) g2 (RR a n i)) => ord_add2 hk hlt hn1 T)
      obtain ⟨j, hj⟩ : ∃ j : Nat, j = n - 1 - i := ⟨_, rfl⟩
      rw [← hj] at add2 hja
      have hji : (n : Int) - 1 - i = j := by omega
      have j256 : j < 256 := by omega
      have i256 : i < 256 := by omega
      clear hj
      obtain ⟨ra, ra3, ram, xa', ya⟩ := xa_some hia
      obtain ⟨rb, rb3, rbm, xb', yb⟩ := xa_some hja
      clear xa' xb'
      have bla := Lib.hid (hvx ya)
      have blb := Lib.hid (hvx yb)
      have sla := Lib.hid (svx i256)
      have slb := Lib.hid (svx j256)
      clear ya yb
      have wi : IntKind.u8.wrap (i : Int) = i := by rw [IntKind.wrap_u8]; omega
      have wj : IntKind.u8.wrap (j : Int) = j := by rw [IntKind.wrap_u8]; omega
      have qb := Lib.hid (fun w' (kk : Kept [] w w') => rd_cell (ha'.out.kept0 kk) hja)
      generalize hv (Go.Proofs.Ythffkgnbgncfaaa.xb a i) = HA at *
      generalize hv (Go.Proofs.Ythffkgnbgncfaaa.xb a j) = HB at *
      generalize sv (UInt8.ofNat i) = SA at *
      generalize sv (UInt8.ofNat j) = SB at *
      go_wp2_with (first
        | (refine wpl_build1 (o := ⟨some 60, _, _, _, _, _⟩) (v := .int .u8 (ra : Int)) rfl 0 (.tmp 59) rfl rfl bla.out ?_)
        | (refine wpl_build1 (o := ⟨some 63, _, _, _, _, _⟩) (v := .int .u8 (i : Int)) rfl 0 (.tmp 62) rfl rfl sla.out ?_)
        | (go_at_call 8; (with_reducible refine (add1.out _ T.out).mono ?_); rintro e w2 ⟨rfl, t⟩; replace T := Lib.hid t; clear t add1
           have qb2 := qb.out _ T.out.k)
        | (refine wpl_build1 (o := ⟨some 74, _, _, _, _, _⟩) (v := .int .u8 (rb : Int)) rfl 0 (.tmp 73) rfl rfl blb.out ?_)
        | (refine wpl_build1 (o := ⟨some 77, _, _, _, _, _⟩) (v := .int .u8 (j : Int)) rfl 0 (.tmp 76) rfl rfl slb.out ?_)
        | (go_at_call 8; (with_reducible refine (add2.out _ T.out).mono ?_); rintro e w2 ⟨rfl, t⟩; replace T := Lib.hid t; clear t))
      go_roundg (n - (i + 1))
      case measure => omega
      case rel => exact ⟨i + 1, by omega, by omega, by go_num, T⟩
    · obtain rfl : n = i := by omega
      rw [RR_all] at T
      have nlt : ¬ (n : Int) < n := by omega
      go_wp2_with fail
      go_loopg [13, 14] 3 (fun fu s h wk => ∃ b : Nat, b ≤ 3 ∧ fu + b = 3 ∧ h = .int .u8 (b : Int) ∧ s = .int .i64 (al a n b : Nat) ∧ Hid (T2 w wk k g1 (LL a n) g2 (LL a n)))
      case atStart => exact ⟨0, by omega, by omega, rfl, rfl, T⟩
      case round =>
        clear T nlt hf
        obtain ⟨b, hb, hf, rfl, rfl, T⟩ := hrel
        by_cases hlt : b < 3
        · have b3 : (b : Int) < 3 := by omega
          have hbl := Lib.hid (hvx2 (i := b) (by omega))
          have s1 := Lib.hid (fun u (T : T2 w u k g1 (LL a n) g2 (LL a n)) => ord_shs1 hk hn1 b T)
          have s2 := Lib.hid (fun u (T : T2 w u k g1 (LL a n) g2 (LL a n)) => ord_shs2 hk hn1 b T)
          have sle := SS_le a n b
          have ale1 := ale.out b
          have als := Lib.hid (al_succ a n b)
          have smem := Lib.hid (fun v (hv : v ∈ SS a n b) => SS_mem hv)
          have sup := Lib.hid (SS_srt a n b)
          have alb : al a n b ≤ 100 := by
            have : b * n ≤ 3 * 7 := Nat.mul_le_mul (by omega) (by omega)
            omega
          generalize SS a n b = sl at *
          generalize hv (UInt8.ofNat b) = HB at *
          generalize al a n b = A0 at *
          go_wp2_with (first
            | (refine wpl_build1 (o := ⟨some 87, _, _, _, _, _⟩) (v := .int .u8 (b : Int)) rfl 0 (.tmp 86) rfl rfl hbl.out ?_)
            | (refine wpl_build1 (o := ⟨some 91, _, _, _, _, _⟩) (v := .int .u8 (b : Int)) rfl 0 (.tmp 90) rfl rfl hbl.out ?_)
            | (go_at_call 10; (with_reducible refine (s1.out _ T.out).mono ?_); rintro e w2 ⟨A1, cx, rfl, x, kk, t⟩; replace T := Lib.hid t; have X := Lib.hid x; clear t kk x s1)
            | (go_at_call 10; (with_reducible refine (s2.out _ T.out).mono ?_); rintro e w3 ⟨A2, cy, rfl, x, kk, t⟩
               have M := Lib.hid (show OrS w k g1 g2 (LL a n) (.slice A1 sl.length cx) (.slice A2 sl.length cy) sl w3 from ⟨t, X.out.kept0 kk, x⟩)
               clear t kk x X s2 T))
          go_loopg [100] sl.length (fun fu i wk => ∃ t : Nat, t ≤ sl.length ∧ fu + t = sl.length ∧ i = .int .i64 (t : Int) ∧ Hid (OrS w k g1 g2 (LL a n) (.slice A1 sl.length cx) (.slice A2 sl.length cy) sl wk))
          case atStart => exact ⟨0, by omega, by omega, rfl, M⟩
          case round =>
            clear M
            obtain ⟨t, ht, hfu, rfl, M⟩ := hrel
            by_cases hlt : t < sl.length
            · have hlti : (t : Int) < sl.length := by omega
              have hok : ∀ v ∈ sl, v.ok := fun v hv => by obtain ⟨i, _, rfl⟩ := smem.out v hv; exact zv_ok a i
              obtain ⟨gx, ox, cx2, hvx', hcl1, hcl2⟩ := M.out.x.at_ (by omega)
              clear hcl1 hcl2
              obtain rfl : A1 = some ⟨gx, ox, none⟩ := by cases hvx'; rfl
              clear hvx'
              obtain ⟨gy, oy, cy2, hvy', hcl1, hcl2⟩ := M.out.y.at_ (by omega)
              clear hcl1 hcl2
              obtain rfl : A2 = some ⟨gy, oy, none⟩ := by cases hvy'; rfl
              clear hvy'
              have rx := Lib.hid (fun u (h : OrS w k g1 g2 (LL a n) (.slice (some ⟨gx, ox, none⟩) sl.length cx) (.slice (some ⟨gy, oy, none⟩) sl.length cy) sl u) => share_rng h.x hok hlt)
              have ry := Lib.hid (fun u (h : OrS w k g1 g2 (LL a n) (.slice (some ⟨gx, ox, none⟩) sl.length cx) (.slice (some ⟨gy, oy, none⟩) sl.length cy) sl u) => share_rng h.y hok hlt)
              obtain ⟨i0, hi0, ey⟩ := smem.out sl[t] (List.getElem_mem hlt)
              have i256 : i0 < 256 := by omega
              have bs := Lib.hid (svx i256)
              have wi : IntKind.u8.wrap (i0 : Int) = i0 := by rw [IntKind.wrap_u8]; omega
              have yfr' : sl[t].fr = (i0 : Int) := by rw [ey]; rfl
              have ys' : sl[t].s = sv (UInt8.ofNat i0) := by rw [ey]; rfl
              rw [← ys'] at bs
              clear ys' ey
              have ysl := Lib.hid (hok _ (List.getElem_mem hlt)).2
              have ylen := Lib.hid (shc_len (hok _ (List.getElem_mem hlt)))
              rcases Nat.eq_zero_or_pos t with h0 | h0
              · have ng : ((0 : Int) < (t : Int)) = False := eq_false (by omega)
                have ng2 : (0 < t) = False := eq_false (by omega)
                generalize sl[t] = y at *
                replace yfr := yfr'
                clear yfr' h0
                go_wp2_with fail
                replace M := Lib.hid (M.out.kept (Kept.refl [] _).drew)
                refine Txt.wp_textG [3, 7, 8, 17, 23, 32, 37, 40] (OrS w k g1 g2 (LL a n) (.slice (some ⟨gx, ox, none⟩) sl.length cx) (.slice (some ⟨gy, oy, none⟩) sl.length cy) sl) [[_, _, _, _, _, _, _, _, _, _, _, _, _, _, _, _, _, _, _, _, _, _, _, _, _, _, _, _, _, _, _, _, _, _, _, _, _, _, _, _], [_, _]] (by kernel_rfl) (by kernel_rfl) rfl M.out (Txt.segs_cons ?_)
                have q1 := share_fr (rx.out _ M.out)
                rw [yfr] at q1
                go_wp2_with (first
                  | (with_reducible refine wpl_loadp (o := ⟨some 106, _, _, _, _, _⟩) shareR rfl (.tmp 105) rfl rfl (rx.out _ M.out) ylen.out ?_)
                  | (with_reducible refine wpl_loadp (o := ⟨some 110, _, _, _, _, _⟩) shareR rfl (.tmp 109) rfl rfl (ry.out _ M.out) ylen.out ?_)
                  | (with_reducible refine wpl_at 111 ?_; refine wpl_exec (o := ⟨some 111, _, _, _, _, _⟩) (v := .bool false) rfl (exec_neq_share (.tmp 106) (.tmp 110) rfl y ysl.out rfl rfl) ?_)
                  | (with_reducible refine wpl_at 135 ?_; refine wpl_loadp (o := ⟨some 135, _, _, _, _, _⟩) sigT.row rfl (.tmp 134) rfl rfl (share_sig (rx.out _ M.out)) (by simp [ysl.out]) ?_)
                  | (with_reducible refine wpl_at 142 ?_; refine wpl_build1 (o := ⟨some 142, _, _, _, _, _⟩) (v := .int .u8 (i0 : Int)) rfl 0 (.tmp 141) rfl rfl bs.out ?_))
                refine ⟨rfl, M.out, Txt.segs_cons ?_⟩
                go_wp2_with (first
                  | (with_reducible refine wpl_at 143 ?_; refine wpl_exec (o := ⟨some 143, _, _, _, _, _⟩) (v := .bool false) rfl ((exec_neq_ab sigT Try.underlying5 (by kernel_rfl) eg64 (.tmp 135) (.tmp 142) rfl rfl rfl ysl.out ysl.out).trans (by simp)) ?_))
                refine ⟨rfl, M.out, Txt.segs_nil ⟨⟨by kernel_rfl, ?_⟩, ?_⟩⟩
                · intro j hj o ho hw
                  have hj2 : j = 3 ∨ j = 7 ∨ j = 8 ∨ j = 17 ∨ j = 23 ∨ j = 32 ∨ j = 37 ∨ j = 40 := by simpa using hj
                  rcases hj2 with rfl | rfl | rfl | rfl | rfl | rfl | rfl | rfl <;> cases ho
                  · exact ⟨_, rfl, fun u hu => exec_loadp shareR (.tmp 105) rfl rfl (rx.out _ hu) ylen.out⟩
                  · exact ⟨_, rfl, fun u hu => exec_loadp shareR (.tmp 109) rfl rfl (ry.out _ hu) ylen.out⟩
                  · exact ⟨_, rfl, fun u hu => exec_neq_share (.tmp 106) (.tmp 110) rfl y ysl.out rfl rfl⟩
                  · exact Bool.noConfusion (Eq.trans (by kernel_rfl) hw : false = true)
                  · exact Bool.noConfusion (Eq.trans (by kernel_rfl) hw : false = true)
                  · exact ⟨_, rfl, fun u hu => exec_loadp sigT.row (.tmp 134) rfl rfl (share_sig (rx.out _ hu)) (by simp [ysl.out])⟩
                  · exact ⟨_, rfl, fun u hu => exec_cell (.tmp 139) rfl flatI rfl ((share_fr (rx.out _ hu)).trans (by rw [yfr]; rfl))⟩
                  · exact ⟨_, rfl, fun u hu => (exec_neq_ab sigT Try.underlying5 (by kernel_rfl) eg64 (.tmp 135) (.tmp 142) rfl rfl rfl ysl.out ysl.out).trans (by simp)⟩
                go_wp2_with fail
                go_roundg (sl.length - (t + 1))
                case measure => omega
                case rel => exact ⟨t + 1, by omega, by omega, by go_num, M⟩
              · have htm : t - 1 < sl.length := by omega
                have hup := up_of sup.out htm (by omega)
                have e1 : t - 1 + 1 = t := by omega
                have hup2 : sl[t - 1].fr < sl[t].fr := by simpa only [e1] using hup
                clear hup e1
                obtain ⟨im, him, em⟩ := smem.out sl[t - 1] (List.getElem_mem htm)
                have mfr : sl[t - 1].fr = (im : Int) := by rw [em]; rfl
                rw [mfr, yfr'] at hup2
                clear em
                have rm := Lib.hid (fun u (h : OrS w k g1 g2 (LL a n) (.slice (some ⟨gx, ox, none⟩) sl.length cx) (.slice (some ⟨gy, oy, none⟩) sl.length cy) sl u) => share_rng h.x hok htm)
                generalize sl[t - 1] = ym at *
                generalize sl[t] = y at *
                have hle : ((i0 : Int) ≤ im) = False := eq_false (by omega)
                have etm : (t : Int) - 1 = ((t - 1 : Nat) : Int) := by omega
                generalize t - 1 = tm at *
                have h0t : (0 : Int) < t := by omega
                replace yfr := yfr'
                clear yfr' hup2
                go_wp2_with fail
                replace M := Lib.hid (M.out.kept (Kept.refl [] _).drew)
                refine Txt.wp_textG [3, 7, 8, 17, 23, 32, 37, 40] (OrS w k g1 g2 (LL a n) (.slice (some ⟨gx, ox, none⟩) sl.length cx) (.slice (some ⟨gy, oy, none⟩) sl.length cy) sl) [[_, _, _, _, _, _, _, _, _, _, _, _, _, _, _, _, _, _, _, _, _, _, _, _, _, _, _, _, _, _, _, _, _, _, _, _, _, _, _, _], [_, _]] (by kernel_rfl) (by kernel_rfl) rfl M.out (Txt.segs_cons ?_)
                have q1 := share_fr (rx.out _ M.out)
                rw [yfr] at q1
                have q2 := share_fr (rm.out _ M.out)
                rw [mfr] at q2
                go_wp2_with (first
                  | (with_reducible refine wpl_loadp (o := ⟨some 106, _, _, _, _, _⟩) shareR rfl (.tmp 105) rfl rfl (rx.out _ M.out) ylen.out ?_)
                  | (with_reducible refine wpl_loadp (o := ⟨some 110, _, _, _, _, _⟩) shareR rfl (.tmp 109) rfl rfl (ry.out _ M.out) ylen.out ?_)
                  | (with_reducible refine wpl_at 111 ?_; refine wpl_exec (o := ⟨some 111, _, _, _, _, _⟩) (v := .bool false) rfl (exec_neq_share (.tmp 106) (.tmp 110) rfl y ysl.out rfl rfl) ?_)
                  | (with_reducible refine wpl_at 135 ?_; refine wpl_loadp (o := ⟨some 135, _, _, _, _, _⟩) sigT.row rfl (.tmp 134) rfl rfl (share_sig (rx.out _ M.out)) (by simp [ysl.out]) ?_)
                  | (with_reducible refine wpl_at 142 ?_; refine wpl_build1 (o := ⟨some 142, _, _, _, _, _⟩) (v := .int .u8 (i0 : Int)) rfl 0 (.tmp 141) rfl rfl bs.out ?_))
                refine ⟨rfl, M.out, Txt.segs_cons ?_⟩
                go_wp2_with (first
                  | (with_reducible refine wpl_at 143 ?_; refine wpl_exec (o := ⟨some 143, _, _, _, _, _⟩) (v := .bool false) rfl ((exec_neq_ab sigT Try.underlying5 (by kernel_rfl) eg64 (.tmp 135) (.tmp 142) rfl rfl rfl ysl.out ysl.out).trans (by simp)) ?_))
                refine ⟨rfl, M.out, Txt.segs_nil ⟨⟨by kernel_rfl, ?_⟩, ?_⟩⟩
                · intro j hj o ho hw
                  have hj2 : j = 3 ∨ j = 7 ∨ j = 8 ∨ j = 17 ∨ j = 23 ∨ j = 32 ∨ j = 37 ∨ j = 40 := by simpa using hj
                  rcases hj2 with rfl | rfl | rfl | rfl | rfl | rfl | rfl | rfl <;> cases ho
                  · exact ⟨_, rfl, fun u hu => exec_loadp shareR (.tmp 105) rfl rfl (rx.out _ hu) ylen.out⟩
                  · exact ⟨_, rfl, fun u hu => exec_loadp shareR (.tmp 109) rfl rfl (ry.out _ hu) ylen.out⟩
                  · exact ⟨_, rfl, fun u hu => exec_neq_share (.tmp 106) (.tmp 110) rfl y ysl.out rfl rfl⟩
                  · exact ⟨_, rfl, fun u hu => exec_cell (.tmp 119) rfl flatI rfl ((share_fr (rx.out _ hu)).trans (by rw [yfr]; rfl))⟩
                  · exact ⟨_, rfl, fun u hu => exec_cell (.tmp 125) rfl flatI rfl ((share_fr (rm.out _ hu)).trans (by rw [mfr]; rfl))⟩
                  · exact ⟨_, rfl, fun u hu => exec_loadp sigT.row (.tmp 134) rfl rfl (share_sig (rx.out _ hu)) (by simp [ysl.out])⟩
                  · exact ⟨_, rfl, fun u hu => exec_cell (.tmp 139) rfl flatI rfl ((share_fr (rx.out _ hu)).trans (by rw [yfr]; rfl))⟩
                  · exact ⟨_, rfl, fun u hu => (exec_neq_ab sigT Try.underlying5 (by kernel_rfl) eg64 (.tmp 135) (.tmp 142) rfl rfl rfl ysl.out ysl.out).trans (by simp)⟩
                go_wp2_with fail
                go_roundg (sl.length - (t + 1))
                case measure => omega
                case rel => exact ⟨t + 1, by omega, by omega, by go_num, M⟩
            · obtain rfl : t = sl.length := by omega
              have ge2 : ¬ ((sl.length : Nat) : Int) < (sl.length : Nat) := by omega
              go_wp2_with fail
              go_roundg (3 - (b + 1))
              case measure => omega
              case rel => exact ⟨b + 1, by omega, by omega, by go_num, by rw [als.out]; go_num, Lib.hid M.out.t⟩
        · obtain rfl : b = 3 := by omega
          have b3 : ¬ ((3 : Nat) : Int) < 3 := by omega
          rw [alt.out]
          have deq := Lib.hid (show (ph == ph) = true from by simp)
          have hsb := Lib.hid hs_built
          generalize noughts 32 = H32 at hsb cc
          go_wp2_with (first
            | (go_at_call 9; (with_reducible refine (b1.out g1 g2 _ T.out).mono ?_); rintro e w2 ⟨rfl, t, kk⟩; replace T := Lib.hid t; clear t kk b1)
            | (go_at_call 9; (with_reducible refine (b2.out g1 g2 _ T.out).mono ?_); rintro e w2 ⟨rfl, t, kk⟩; replace T := Lib.hid t; replace B16 := Lib.hid (B16.out.kept kk (by simp)); clear t kk)
            | (go_at_call 11; (with_reducible refine (cc.out g1 g2 _ T.out).mono ?_); rintro e w2 ⟨rfl, t⟩; replace T := Lib.hid t; clear t)
            | ((with_reducible refine wpl_new (o := ⟨some 18, _, _, _, _, _⟩) rfl rfl hz.out ?_); intro g16 w3 m16
               refine wpl_store_row (o := ⟨none, Op.store 30 (.tmp 18) (.tmp 153), _, _, _, _⟩) hashT.row rfl (.tmp 18) (.tmp 153) rfl rfl rfl m16.blk rfl (by simp [pl.out]) (one_ab _) ?_; intro w4 b16 k16
               replace T := Lib.hid (T.out.kept (m16.kept.then1 k16 m16.le))
               have B16 := Lib.hid b16
               clear m16 b16 k16)
            | ((with_reducible refine wpl_new (o := ⟨some 20, _, _, _, _, _⟩) rfl rfl hz.out ?_); intro g18 w3 m18
               refine wpl_store_row (o := ⟨none, Op.store 30 (.tmp 20) (.tmp 158), _, _, _, _⟩) hashT.row rfl (.tmp 20) (.tmp 158) rfl rfl rfl m18.blk rfl (by simp [pl.out]) (one_ab _) ?_; intro w4 b18 k18
               replace T := Lib.hid (T.out.kept (m18.kept.then1 k18 m18.le))
               replace B16 := Lib.hid (B16.out.kept (m18.kept.then1 k18 m18.le) (by simp))
               have B18 := Lib.hid b18
               clear m18 b18 k18)
            | (with_reducible refine wpl_at 164 ?_; refine wpl_load_row (o := ⟨some 164, _, _, _, _, _⟩) hashT.row rfl (.tmp 18) rfl rfl B16.out (by simp [pl.out]) ?_)
            | (with_reducible refine wpl_at 165 ?_; refine wpl_load_row (o := ⟨some 165, _, _, _, _, _⟩) hashT.row rfl (.tmp 20) rfl rfl B18.out (by simp [pl.out]) ?_)
            | (with_reducible refine wpl_at 166 ?_; refine wpl_eql_ab (o := ⟨some 166, _, _, _, _, _⟩) hashT Try.underlying5 (by kernel_rfl) eg32 rfl (.tmp 164) (.tmp 165) rfl rfl rfl pl.out pl.out deq.out ?_)
            | (with_reducible refine wpl_at 175 ?_; refine wpl_build0 (o := ⟨some 175, _, _, _, _, _⟩) rfl rfl hsb.out ?_))
          go_ret
          exact ⟨rfl, T.out.k⟩
theorem order_law (f : Int) (va : Value) (a : List UInt8) (w : World) (_ : (Lit.int .i64 f).wf = true) (ha : Rd w 1 va a.length (bv a)) (ha2 : a.length ≤ 9223372036854775807) :
    Calls Try.prog 4 #[.int .i64 f, va] w fun e w' => e = .returned (.bool true) ∧ Kept [] w w' := order_walk f va a w ha ha2
end Go.Proofs.Ythffkgnbgncfaaa
