/-
  The log: rows whose end was lost are not there, and the ones ahead all are (WalTorn): the walk.
-/
import Derived.Test.YtjdfnhfankcodaaWl10
import Derived.Test.YtjdfnhfankcodaaOpn
namespace Go.Proofs.Ytjdfnhfankcodaa
open Go.RowKit Go.Mem Go.Txt

set_option maxRecDepth 100000 in
set_option maxHeartbeats 4000000 in
theorem torn_walk (av : Value) (ps : List (Value × List UInt8)) (cut : Int) (w : World) (ha : Parts w av ps) (na : ps.length ≤ 9223372036854775807) :
    Calls Try.prog 4 #[av, .int .i64 cut] w fun e w' => e = .returned (.bool true) ∧ Kept [] w w' := by
  have cf := Lib.hid first_any
  have cn := Lib.hid (dnew_lit 1048576 1048576 rfl (by decide))
  obtain ⟨A, c, rfl, _⟩ := ha.outer
  obtain ⟨m, hm1, hm2, hmin⟩ : ∃ m : Nat, m ≤ 12 ∧ m ≤ ps.length ∧ (m : Int) = if (12 : Int) < (ps.length : Int) then 12 else (ps.length : Int) :=
    ⟨min 12 ps.length, by omega, by omega, by split <;> omega⟩
  replace hmin := Lib.hid hmin
  obtain ⟨B, d, hB, hPL⟩ := ha.cut rfl hm2
  have hll : (ps.take m).length = m := by rw [List.length_take]; omega
  generalize ps.take m = L at *
  have PL := Lib.hid hPL
  obtain ⟨Ls, hLs⟩ : ∃ x, x = L.map (·.2) := ⟨_, rfl⟩
  have hLl : Ls.length = m := by rw [hLs, List.length_map, hll]
  replace hLs := Lib.hid hLs
  replace hLl := Lib.hid hLl
  replace hll := Lib.hid hll
  clear ha hPL
  go_enter Try.func4, Try.ntmps4
  go_wp2_with (first
    | (go_at_call 7; (with_reducible refine (cf.out _).mono ?_); rintro e w1 ⟨rfl, k1⟩; have K1 := Lib.hid k1; clear k1)
    | ((with_reducible refine wpl_at 24 ?_); refine wpl_min (o := ⟨some 24, _, _, _, _, _⟩) rfl (.tmp 23) (.const (.int .i64 12)) rfl rfl rfl hmin.out ?_)
    | (go_at_call 8; (with_reducible refine (cn.out _).mono ?_); rintro e w2 ⟨b, rfl, d1⟩
       have D1 := Lib.hid (show Dw w w2 b 1048576 0 (.slice none 0 0) [] from ⟨d1.disk, Nat.le_trans K1.out.size d1.lb, by simp [Value.ownBlock], K1.out.then0 d1.k⟩)
       clear d1 K1)
    | (go_at_call 10; (with_reducible refine (wopen_any D1.out (by decide)).mono ?_); rintro e w3 ⟨l, rv, rs, dv', rfl, h1, h2, h3, h4⟩
       rw [says_nil] at h1 h2
       have hrs : rs = [] := by simpa using h1
       subst hrs
       have W1 := Lib.hid (show Wl w w3 b l 1048576 0 dv' rv [] (encs 0 (Ls.take 0)) false from h2)
       clear h1 h2 h3 h4 D1))
  go_loopg [10, 37] m (fun fu o i wk => ∃ (k safe : Nat) (dv rv : Value) (rs : List (Value × List UInt8)) (E : Option Addr) (f : Nat), k ≤ m ∧ fu + k = m ∧ i = .int .i64 (k : Int) ∧ o = .slice E k f ∧ Hid (∀ x ∈ Ls.take k, x.length ≤ 5000) ∧ Hid (rs.map (·.2) = Ls.take k) ∧ Hid (Wl w wk b l 1048576 safe dv rv rs (encs 0 (Ls.take k)) false) ∧ Hid (Ow wk 3 1 (.slice E k f) k (endsL Ls k)) ∧ Hid (∀ g, (Value.slice E k f).ownBlock = some g → w.heap.size ≤ g))
  case atStart => exact ⟨0, 0, dv', rv, [], none, 0, by omega, by omega, rfl, rfl, Lib.hid (by simp), Lib.hid rfl, W1, Lib.hid (Ow.nil _ _ _), Lib.hid (by simp [Value.ownBlock])⟩
  case round =>
    clear W1
    obtain ⟨k, safe, dv, rv, rs, E, f, hk, hfu, rfl, rfl, hsm, hrs, W, O, NE⟩ := hrel
    by_cases hlt : k < m
    · obtain ⟨p1, p2, hpk⟩ : ∃ p1 p2, L[k]'(by rw [hll.out]; exact hlt) = (p1, p2) := ⟨_, _, rfl⟩
      have hlk : k < L.length := by rw [hll.out]; exact hlt
      have hP := PL.out.kept0 W.out.k
      obtain ⟨pb, po, pc2, heq, _, hcell⟩ := hP.outer.at_ (by omega)
      rw [hll.out] at heq
      cases heq
      have hcl := hcell k p1 (by simp [hlk, hpk])
      have hin0 := PL.out.inner (p1, p2) (hpk ▸ List.getElem_mem _)
      have hin := hP.inner (p1, p2) (hpk ▸ List.getElem_mem _)
      dsimp only at hin hin0
      have R := Lib.hid hin
      have R0 := Lib.hid hin0
      obtain ⟨Bp, cp, hBp, _, _, _⟩ := hin
      subst hBp
      have hLk := Lib.hid (show Ls[k]? = some p2 from by rw [hLs.out, List.getElem?_map, List.getElem?_eq_getElem hlk, hpk]; rfl)
      clear hP hcell hin0 hpk hlk
      by_cases h5 : 5000 < p2.length
      · go_wp2_with fail
        go_ret
        exact ⟨rfl, W.out.k⟩
      · have hrk : rs.length = k := by
          have := congrArg List.length hrs.out
          rw [List.length_map, List.length_take, hLl.out] at this; omega
        have hkl : k < Ls.length := by rw [hLl.out]; exact hlt
        have hgk : Ls[k] = p2 := by
          have := hLk.out
          rw [List.getElem?_eq_getElem hkl] at this
          exact Option.some.inj this
        have hsm2 : ∀ x ∈ Ls.take (k + 1), x.length ≤ 5000 := by
          intro x hx
          rw [List.take_succ_eq_append_getElem hkl] at hx
          rcases List.mem_append.1 hx with hx | hx
          · exact hsm.out x hx
          · rw [List.mem_singleton.1 hx, hgk]; omega
        have hxs := Lib.hid (show encs 0 (Ls.take k) ++ encs rs.length (([(Value.slice Bp p2.length cp, p2)] : List (Value × List UInt8)).map (·.2)) = encs 0 (Ls.take (k + 1)) from by
          rw [encs_succ _ _ _ hkl, hgk, hrk]; simp [encs])
        have hfit : (encs 0 (Ls.take k)).length + rsz (([(Value.slice Bp p2.length cp, p2)] : List (Value × List UInt8)).map (·.2)) ≤ 1048576 := by
          have h1 := rsz_le (Ls.take k) 5000 hsm.out
          rw [List.length_take, hLl.out, Nat.min_eq_left (by omega)] at h1
          rw [encs_len]
          simp [rsz]; omega
        have hlen2 := Lib.hid (show (encs 0 (Ls.take (k + 1))).length = rsz (Ls.take (k + 1)) from encs_len _ _)
        have hsm2H := Lib.hid hsm2
        have hrs2 := Lib.hid (show rs.map (·.2) ++ ([(Value.slice Bp p2.length cp, p2)] : List (Value × List UInt8)).map (·.2) = Ls.take (k + 1) from by
          rw [hrs.out, List.take_succ_eq_append_getElem hkl, hgk]; rfl)
        have far := Lib.hid (show 0 < p2.length → ∀ g, (Value.slice Bp p2.length cp).ownBlock = some g → g ∉ wlS b l dv rv from fun hn g hg hm => by
          obtain ⟨g', hg', hlt'⟩ := R0.out.lt (by decide) hn
          rw [hg] at hg'; cases hg'
          have := W.out.ge g hm
          omega)
        have hfitH := Lib.hid hfit
        have cw := Lib.hid (wwrite_any (W.out.kept0 ((Kept.refl [] _).alloc (.cells #[.slice Bp p2.length cp] 22))) (parts_one (w0 := wr) (g := wr.heap.size) (t := 22) (Blk.new wr _ _) (R.out.alloc _) W.out.lt (Nat.le_refl _) far.out) (by decide) (by simp) (by rw [hrk]; omega) (by intro x hx; obtain rfl := List.mem_singleton.1 hx; show p2.length ≤ 1048576; omega) hfit)
        clear hsm2 hfit hgk hkl
        go_wp2_with (first
          | (go_at_call 16; (with_reducible refine cw.out.mono ?_); rintro e w4 ⟨rfl, dv4, rv4, rs4, hr4, W4, k4⟩
             rw [hxs.out] at W4
             have W4' := Lib.hid W4
             have hr4' := Lib.hid (hr4.trans hrs2.out)
             have O4 := Lib.hid ((O.out.alloc (.cells #[.slice Bp p2.length cp] 22)).kept k4 (W.out.farI O.out))
             clear W4 hr4 k4)
          | (go_at_call 17; (with_reducible refine (dlen_any W4'.out.dw).mono ?_); rintro e w5 ⟨he, rfl⟩
             rw [hlen2.out] at he
             subst he)
          | ((with_reducible refine wpl_at 57 ?_); (refine wpl_bslice1 (o := ⟨some 57, _, _, _, _, _⟩) (v0 := .int .i64 ((rsz (Ls.take (k + 1)) : Nat) : Int)) (cells := #[.int .i64 ((rsz (Ls.take (k + 1)) : Nat) : Int)]) rfl intsT rfl rfl (by decide) rfl rfl ?_); intro g5 w5 m5
             have b5 := Lib.hid (show Rd w5 1 (.slice (some ⟨g5, 0, none⟩) 1 1) 1 [.int .i64 ((rsz (Ls.take (k + 1)) : Nat) : Int)] from ⟨_, _, rfl, rfl, by omega, fun _ => ⟨g5, 0, rfl, fun j u hu => by rw [m5.blk.cell]; simpa using hu⟩⟩)
             have W5 := Lib.hid (W4'.out.kept0 m5.kept)
             have O5 := Lib.hid (O4.out.kept0 m5.kept)
             clear m5)
          | (at_builtin
             refine wpl_app (n := k) (m := 1) intsT rfl (.tmp 54) (.tmp 57) rfl rfl O5.out rfl b5.out (by simp [Value.oneCell']) (by omega) (by omega) ?_
             intro v' w6 o6 k6 f6
             obtain ⟨A', c', hv', hlc'⟩ := o6.shape
             subst hv'
             have O6 := Lib.hid (show Ow w6 3 1 (.slice A' (k + 1) c') (k + 1) (endsL Ls (k + 1)) from by rw [endsL_succ]; exact o6)
             have W6 := Lib.hid (W5.out.keptI O5.out k6 NE.out)
             have N6 := Lib.hid (show ∀ g, (Value.slice A' (k + 1) c').ownBlock = some g → w.heap.size ≤ g from fun g hg => by
               have f7 : (Value.slice A' (k + 1) c').ownBlock = (Value.slice E k f).ownBlock ∨ (Value.slice A' (k + 1) c').ownBlock = some w5.heap.size := f6
               rcases f7 with e | e
               · exact NE.out g (by rw [← e]; exact hg)
               · rw [e] at hg; cases hg; exact W5.out.k.size)
             clear o6 k6 f6))
        go_roundg (m - (k + 1))
        case measure => omega
        case rel => exact ⟨k + 1, _, dv4, rv4, rs4, A', c', by omega, by omega, by go_num, rfl, hsm2H, hr4', W6, O6, N6⟩
    · obtain rfl : k = m := by omega
      have hLm : Ls.take k = Ls := List.take_of_length_le (by rw [hLl.out]; exact Nat.le_refl _)
      have hsmA : ∀ x ∈ Ls, x.length ≤ 5000 := by have := hsm.out; rwa [hLm] at this
      have hsmA := hsmA
      have hX1 := rsz_le Ls 5000 hsmA
      rw [hLl.out] at hX1
      have W1 := W.out
      rw [hLm] at W1
      obtain ⟨X, hX⟩ : ∃ x, x = encs 0 Ls := ⟨_, rfl⟩
      rw [← hX] at W1
      have hXl : X.length = rsz Ls := by rw [hX, encs_len]
      obtain ⟨n, hn1, hn2⟩ := cut_mod cut X.length (by omega)
      have hsay := says_torn Ls n (fun x hx => Nat.le_trans (hsmA x hx) (by decide))
      rw [← hX] at hsay
      have htk := rsz_take_le Ls n
      have het := encs_take Ls 0 (wantN Ls n)
      rw [← hX] at het
      have hwl := wantN_le Ls n
      have hwat := Lib.hid (wantN_at Ls n)
      generalize hV : wantN Ls n = V at *
      have W1 := Lib.hid W1
      clear W hsm
      have hXb : X.length ≤ 60192 := by omega
      have hnb : n ≤ 60192 := by omega
      replace hX := Lib.hid hX
      replace hXl := Lib.hid hXl
      replace hsay := Lib.hid hsay
      replace htk := Lib.hid htk
      replace het := Lib.hid het
      replace hwl := Lib.hid hwl
      replace hV := Lib.hid hV
      replace hX1 := Lib.hid hX1
      replace hn2 := Lib.hid hn2
      go_wp2_with (first
        | (go_at_call 17; (with_reducible refine (dlen_any W1.out.dw).mono ?_); rintro e w5 ⟨rfl, rfl⟩)
        | (go_at_call 18; (with_reducible refine (dcut_any W1.out.dw hn2.out).mono ?_); rintro e w6 ⟨rfl, dv6, d6, k6⟩
           have D6 := Lib.hid d6
           have O6 := Lib.hid (O.out.kept k6 (fun g hg hm => by rw [List.mem_singleton.1 hm] at hg; exact O.out.blk_ne W1.out.disk.blk (by decide) hg))
           clear d6 k6)
        | (go_at_call 10; (with_reducible refine (wopen_any D6.out (by rw [List.length_take]; omega)).mono ?_); rintro e w7 ⟨l7, rv7, rs7, dv7, rfl, h1, h2, k7, _⟩
           rw [hsay.out] at h1 h2
           rw [List.take_take, Nat.min_eq_left htk.out, het.out] at h2
           have hr7 := Lib.hid h1
           have W7 := Lib.hid h2
           have O7 := Lib.hid (O6.out.kept k7 (fun g hg hm => by rw [List.mem_singleton.1 hm] at hg; exact O6.out.blk_ne D6.out.disk.blk (by decide) hg))
           clear h1 h2 k7))
      go_loopg [16, 84] k (fun fu o i wk => ∃ j : Nat, j ≤ k ∧ fu + j = k ∧ i = .int .i64 (j : Int) ∧ o = .int .i64 ((min j V : Nat) : Int) ∧ wk = w7)
      case atStart => exact ⟨0, by omega, by omega, rfl, by rw [Nat.zero_min]; rfl, rfl⟩
      case round =>
        obtain ⟨j, hj, hfu2, rfl, rfl, rfl⟩ := hrel
        by_cases hjk : j < k
        · obtain ⟨eb, eo, ec, heq, _, hcell⟩ := (Rd.of_ow O7.out).at_ (by omega)
          cases heq
          have hcl := hcell j _ (endsL_at Ls k j hjk)
          have hwj := hwat.out j (by rw [hLl.out]; exact hjk)
          generalize rsz (Ls.take (j + 1)) = x at *
          clear hcell
          by_cases hjV : j < V
          · have hx : x ≤ n := hwj.2 hjV
            have em : min j V = j := by omega
            rw [em]
            clear hwj
            go_wp2_with fail
            go_roundg (k - (j + 1))
            case measure => omega
            case rel => exact ⟨j + 1, by omega, by omega, by go_num, by rw [show min (j + 1) V = j + 1 from by omega]; rfl, rfl⟩
          · have hx : ¬ x ≤ n := fun h => hjV (hwj.1 h)
            have em : min j V = V := by omega
            rw [em]
            clear hwj
            go_wp2_with fail
            go_roundg (k - (j + 1))
            case measure => omega
            case rel => exact ⟨j + 1, by omega, by omega, by go_num, by rw [show min (j + 1) V = V from by omega], rfl⟩
        · obtain rfl : j = k := by omega
          have hVk : V ≤ j := by have := hwl.out; have := hLl.out; omega
          have em : min j V = V := by omega
          rw [em]
          clear em
          obtain ⟨B2, d2, hB2, hP2⟩ := PL.out.cut hll.out hVk
          have P2 := Lib.hid hP2
          clear hP2
          have hrl := Lib.hid (show rs7.length = V from by
            have := congrArg List.length hr7.out
            rw [List.length_map, List.length_take] at this
            have := hwl.out
            omega)
          have hVb : V ≤ 12 := by omega
          go_wp2_with fail
          have W8 := Lib.hid (W7.out.kept0 (Kept.refl [] _).drew)
          have hsz7 : ∀ x ∈ rs7, x.2.length ≤ 5000 := fun x hx => by
            have h1 : x.2 ∈ rs7.map (·.2) := List.mem_map_of_mem hx
            rw [hr7.out] at h1
            exact hsmA x.2 (List.mem_of_mem_take h1)
          have hsz7H := Lib.hid hsz7
          have hzz := Lib.hid (show (encs 0 (Ls.take V)).length + rsz [[122]] ≤ 1048576 from by
            rw [encs_len]
            have := htk.out
            simp only [rsz, List.length_cons, List.length_nil]
            omega)
          clear hsz7 O7 O6 D6
          refine Txt.wp_textG [] (fun _ => True) [[_, _], [_, _, _, _], [_, _, _], [_], [_], [_], [_, _, _, _, _], [_, _, _, _, _]] (by kernel_rfl) (by kernel_rfl) rfl trivial (Txt.segs_cons ?_)
          go_wp2_with (first
            | (go_at_call 13; (with_reducible refine (rows_any _ _ _ _ _ _ W8.out.lg (by rw [hrl.out]; omega) (fun x hx => Nat.le_trans (hsz7H.out x hx) (by decide))).mono ?_); rintro e w8 ⟨v8, ps8, rfl, hp8, m8⟩
               have M8 := Lib.hid m8
               have hq8 := Lib.hid (hp8.trans hr7.out)
               have W9 := Lib.hid (W8.out.kept0 m8.k)
               obtain ⟨A8, c8, hv8, _⟩ := m8.ow.shape
               subst hv8
               clear m8 hp8))
          refine ⟨rfl, trivial, Txt.segs_cons ?_⟩
          have csm := Lib.hid (same_true (.slice A8 ps8.length c8) (.slice B2 V d2) ps8 (L.take V) w8 M8.out.parts (P2.out.kept0 W9.out.k) (by rw [hq8.out, hLs.out, List.map_take]) (by have := congrArg List.length hq8.out; rw [List.length_map, List.length_take] at this; omega))
          go_wp2_with (first
            | (go_at_call 12; (with_reducible refine csm.out.mono ?_); rintro e w9 ⟨rfl, k9⟩
               have W10 := Lib.hid (W9.out.kept0 k9)
               clear k9))
          refine ⟨rfl, trivial, Txt.segs_cons ?_⟩
          go_wp2_with fail
          refine ⟨rfl, trivial, Txt.segs_cons ?_⟩
          go_wp2_with fail
          refine ⟨rfl, trivial, Txt.segs_cons ?_⟩
          go_wp2_with fail
          refine ⟨rfl, trivial, Txt.segs_cons ?_⟩
          have cw := Lib.hid (wwrite_any ((W10.out.kept0 ((Kept.refl [] _).alloc (.cells #[.int .u8 122] 5 (1, 2)))).kept0 ((Kept.refl [] _).alloc (.cells #[.slice (some ⟨w9.heap.size, 0, none⟩) 1 1] 22))) (parts_lit w9 (wlS b l7 dv7 rv7) #[.int .u8 122] (1, 2) [122] _ 1 rfl rfl rfl W10.out.lt) (by decide) (by simp) (by rw [hrl.out]; omega) (by simp) hzz.out)
          go_wp2_with (first
            | (go_at_call 16; (with_reducible refine cw.out.mono ?_); rintro e w10 ⟨rfl, dv10, rv10, rs10, hr10, W10', k10⟩
               have W11 := Lib.hid W10'
               have hl10 := Lib.hid (show rs10.length = V + 1 from by
                 have := congrArg List.length hr10
                 rw [List.length_append, List.length_map, List.length_map, hrl.out] at this
                 simpa using this)
               clear hr10 W10' k10))
          refine ⟨rfl, trivial, Txt.segs_cons ?_⟩
          go_wp2_with (first
            | (go_at_call 19; (with_reducible refine (llen_any _ _ _ _ _ _ W11.out.lg).mono ?_); rintro e w11 ⟨he, rfl⟩
               rw [hl10.out] at he
               subst he))
          refine ⟨rfl, trivial, Txt.segs_cons ?_⟩
          go_wp2_with fail
          refine ⟨rfl, trivial, Txt.segs_nil ⟨⟨by kernel_rfl, fun j hj => absurd hj (by simp)⟩, ?_⟩⟩
          go_wp2_with fail
          go_ret
          exact ⟨rfl, W11.out.k⟩
theorem torn_law (av : Value) (ps : List (Value × List UInt8)) (cut : Int) (w : World) (ha : Parts w av ps) (na : ps.length ≤ 9223372036854775807) (_ : True) (_ : (Lit.int .i64 cut).wf = true) :
    Calls Try.prog 4 #[av, .int .i64 cut] w fun e w' => e = .returned (.bool true) ∧ Kept [] w w' := torn_walk av ps cut w ha na
end Go.Proofs.Ytjdfnhfankcodaa
