/-
  The log: opened again, and again, it has the same rows, and goes on from there (WalAgain): the walk.
-/
import Derived.Test.YtjdfnhfankcodaaWl11
import Derived.Test.YtjdfnhfankcodaaOpn
namespace Go.Proofs.Ytjdfnhfankcodaa
open Go.RowKit Go.Mem Go.Txt

set_option maxRecDepth 100000 in
set_option maxHeartbeats 4000000 in
theorem again_walk (av : Value) (ps : List (Value × List UInt8)) (cut : Int) (w : World) (ha : Parts w av ps) (na : ps.length ≤ 9223372036854775807) :
    Calls Try.prog 5 #[av, .int .i64 cut] w fun e w' => e = .returned (.bool true) ∧ Kept [] w w' := by
  have cf := Lib.hid first_any
  have cn := Lib.hid (dnew_lit 1048576 1048576 rfl (by decide))
  obtain ⟨A, c, rfl, _⟩ := ha.outer
  obtain ⟨m, hm1, hm2, hmin⟩ : ∃ m : Nat, m ≤ 12 ∧ m ≤ ps.length ∧ (m : Int) = if (12 : Int) < (ps.length : Int) then 12 else (ps.length : Int) :=
    ⟨min 12 ps.length, by omega, by omega, by split <;> omega⟩
  replace hmin := Lib.hid hmin
  obtain ⟨B, d, hB, hPL⟩ := ha.cut rfl hm2
  have hll : (ps.take m).length = m := by rw [List.length_take]; omega
  generalize ps.take m = L at *
  have PL := Lib.hid hPL
  obtain ⟨Ls, hLs⟩ : ∃ x, x = L.map (·.2) := ⟨_, rfl⟩
  have hLl : Ls.length = m := by rw [hLs, List.length_map, hll]
  replace hLs := Lib.hid hLs
  replace hLl := Lib.hid hLl
  replace hll := Lib.hid hll
  clear ha hPL
  go_enter Try.func5, Try.ntmps5
  go_wp2_with (first
    | (go_at_call 7; (with_reducible refine (cf.out _).mono ?_); rintro e w1 ⟨rfl, k1⟩; have K1 := Lib.hid k1; clear k1)
    | ((with_reducible refine wpl_at 19 ?_); refine wpl_min (o := ⟨some 19, _, _, _, _, _⟩) rfl (.tmp 18) (.const (.int .i64 12)) rfl rfl rfl hmin.out ?_)
    | (go_at_call 8; (with_reducible refine (cn.out _).mono ?_); rintro e w2 ⟨b, rfl, d1⟩
       have D1 := Lib.hid (show Dw w w2 b 1048576 (encs 0 (Ls.take 0)).length (.slice none 0 0) (encs 0 (Ls.take 0)) from ⟨d1.disk, Nat.le_trans K1.out.size d1.lb, by simp [Value.ownBlock], K1.out.then0 d1.k⟩)
       clear d1 K1))
  go_loopg [27] m (fun fu i wk => ∃ (k : Nat) (dv : Value), k ≤ m ∧ fu + k = m ∧ i = .int .i64 (k : Int) ∧ Hid (∀ x ∈ Ls.take k, x.length ≤ 5000) ∧ Hid (Dw w wk b 1048576 (encs 0 (Ls.take k)).length dv (encs 0 (Ls.take k))))
  case atStart => exact ⟨0, _, by omega, by omega, rfl, Lib.hid (by simp), D1⟩
  case round =>
    clear D1
    obtain ⟨k, dv, hk, hfu, rfl, hsm, D⟩ := hrel
    by_cases hlt : k < m
    · obtain ⟨p1, p2, hpk⟩ : ∃ p1 p2, L[k]'(by rw [hll.out]; exact hlt) = (p1, p2) := ⟨_, _, rfl⟩
      have hlk : k < L.length := by rw [hll.out]; exact hlt
      have hP := PL.out.kept0 D.out.k
      obtain ⟨pb, po, pc2, heq, _, hcell⟩ := hP.outer.at_ (by omega)
      rw [hll.out] at heq
      cases heq
      have hcl := hcell k p1 (by simp [hlk, hpk])
      have hin0 := PL.out.inner (p1, p2) (hpk ▸ List.getElem_mem _)
      have hin := hP.inner (p1, p2) (hpk ▸ List.getElem_mem _)
      dsimp only at hin hin0
      have R := Lib.hid hin
      have R0 := Lib.hid hin0
      obtain ⟨Bp, cp, hBp, _, _, _⟩ := hin
      subst hBp
      have hLk := Lib.hid (show Ls[k]? = some p2 from by rw [hLs.out, List.getElem?_map, List.getElem?_eq_getElem hlk, hpk]; rfl)
      clear hP hcell hin0 hpk hlk
      by_cases h5 : 5000 < p2.length
      · go_wp2_with fail
        go_ret
        exact ⟨rfl, D.out.k⟩
      · have hkl : k < Ls.length := by rw [hLl.out]; exact hlt
        have hgk : Ls[k] = p2 := by
          have := hLk.out
          rw [List.getElem?_eq_getElem hkl] at this
          exact Option.some.inj this
        have hsm2 : ∀ x ∈ Ls.take (k + 1), x.length ≤ 5000 := by
          intro x hx
          rw [List.take_succ_eq_append_getElem hkl] at hx
          rcases List.mem_append.1 hx with hx | hx
          · exact hsm.out x hx
          · rw [List.mem_singleton.1 hx, hgk]; omega
        have h1z := rsz_le (Ls.take k) 5000 hsm.out
        rw [List.length_take, hLl.out, Nat.min_eq_left (by omega)] at h1z
        have hsay := says_encs (Ls.take k) (fun x hx => Nat.le_trans (hsm.out x hx) (by decide))
        have hxl := encs_len (Ls.take k) 0
        have hfit := Lib.hid (show (encs 0 (Ls.take k)).length + rsz [p2] ≤ 1048576 from by
          rw [hxl]; simp only [rsz]; omega)
        have hsayH := Lib.hid hsay
        have hxlH := Lib.hid hxl
        have hxb := Lib.hid (show (encs 0 (Ls.take k)).length ≤ 60192 from by rw [hxl]; omega)
        have hsm2H := Lib.hid hsm2
        have hrs2 := Lib.hid (show Ls.take k ++ [p2] = Ls.take (k + 1) from by rw [List.take_succ_eq_append_getElem hkl, hgk])
        have hxs := Lib.hid (show encs 0 (Ls.take k) ++ encs k [p2] = encs 0 (Ls.take (k + 1)) from by rw [encs_succ _ _ _ hkl, hgk, Nat.zero_add]; simp [encs])
        have hkL : k ≤ m := by omega
        obtain ⟨B2, d2, hB2, hP2⟩ := PL.out.cut hll.out hkL
        have P2 := Lib.hid hP2
        clear hsay hxl hsm2 hgk h1z hP2
        go_wp2_with (first
          | (go_at_call 10; (with_reducible refine (wopen_any D.out (Nat.le_trans hxb.out (by decide))).mono ?_); rintro e w3 ⟨l, rv, rs, dv', rfl, h1, h2, _, _⟩
             rw [hsayH.out] at h1 h2
             rw [← hxlH.out, List.take_length] at h2
             have hr := Lib.hid h1
             have hrl := Lib.hid (show rs.length = k from by
               have := congrArg List.length h1
               rw [List.length_map, List.length_take] at this
               omega)
             have W := Lib.hid h2
             clear h1 h2))
        replace W := Lib.hid (W.out.kept0 (Kept.refl [] _).drew)
        have hsz7 := Lib.hid (show ∀ x ∈ rs, x.2.length ≤ 5000 from fun x hx => by
          have h1 : x.2 ∈ rs.map (·.2) := List.mem_map_of_mem hx
          rw [hr.out] at h1
          exact hsm.out x.2 h1)
        refine Txt.wp_textG [] (fun _ => True) [[_, _, _, _, _, _, _, _, _], [_, _, _, _, _, _], [_, _, _, _], [_, _, _, _, _, _], [_], [_, _]] (by kernel_rfl) (by kernel_rfl) rfl trivial (Txt.segs_cons ?_)
        go_wp2_with (first
          | (go_at_call 19; (with_reducible refine (llen_any _ _ _ _ _ _ W.out.lg).mono ?_); rintro e w4 ⟨he, rfl⟩
             rw [hrl.out] at he
             subst he))
        refine ⟨rfl, trivial, Txt.segs_cons ?_⟩
        go_wp2_with (first
          | (go_at_call 13; (with_reducible refine (rows_any _ _ _ _ _ _ W.out.lg (by rw [hrl.out]; omega) (fun x hx => Nat.le_trans (hsz7.out x hx) (by decide))).mono ?_); rintro e w8 ⟨v8, ps8, rfl, hp8, m8⟩
             have M8 := Lib.hid m8
             have hq8 := Lib.hid (hp8.trans hr.out)
             have W9 := Lib.hid (W.out.kept0 m8.k)
             obtain ⟨A8, c8, hv8, _⟩ := m8.ow.shape
             subst hv8
             clear m8 hp8))
        refine ⟨rfl, trivial, Txt.segs_cons ?_⟩
        have csm := Lib.hid (same_true (.slice A8 ps8.length c8) (.slice B2 k d2) ps8 (L.take k) w8 M8.out.parts (P2.out.kept0 W9.out.k) (by rw [hq8.out, hLs.out, List.map_take]) (by have := congrArg List.length hq8.out; rw [List.length_map, List.length_take] at this; omega))
        go_wp2_with (first
          | (go_at_call 12; (with_reducible refine csm.out.mono ?_); rintro e w9 ⟨rfl, k9⟩
             have W10 := Lib.hid (W9.out.kept0 k9)
             clear k9))
        refine ⟨rfl, trivial, Txt.segs_cons ?_⟩
        have far := Lib.hid (show 0 < p2.length → ∀ g, (Value.slice Bp p2.length cp).ownBlock = some g → g ∉ wlS b l dv' rv from fun hn g hg hm => by
          obtain ⟨g', hg', hlt'⟩ := R0.out.lt (by decide) hn
          rw [hg] at hg'; cases hg'
          have := W10.out.ge g hm
          omega)
        have cw := Lib.hid (wwrite_any (W10.out.kept0 ((Kept.refl [] _).alloc (.cells #[.slice Bp p2.length cp] 22))) (parts_one (w0 := w9) (g := w9.heap.size) (t := 22) (Blk.new w9 _ _) ((R0.out.kept0 W10.out.k).alloc _) W10.out.lt (Nat.le_refl _) far.out) (by decide) (by simp) (by rw [hrl.out]; omega) (by intro x hx; obtain rfl := List.mem_singleton.1 hx; show p2.length ≤ 1048576; omega) hfit.out)
        go_wp2_with fail
        refine ⟨rfl, trivial, Txt.segs_cons ?_⟩
        go_wp2_with (first
          | (go_at_call 16; (with_reducible refine cw.out.mono ?_); rintro e w10 ⟨rfl, dv10, rv10, rs10, _, W10', _⟩
             have D11 := Lib.hid (show Dw w w10 b 1048576 (encs 0 (Ls.take (k + 1))).length dv10 (encs 0 (Ls.take (k + 1))) from by
               have := W10'.dw
               rw [hrl.out, show ([(Value.slice Bp p2.length cp, p2)] : List (Value × List UInt8)).map (·.2) = [p2] from rfl, hxs.out] at this
               exact this)
             clear W10'))
        refine ⟨rfl, trivial, Txt.segs_cons ?_⟩
        go_wp2_with fail
        refine ⟨rfl, trivial, Txt.segs_nil ⟨⟨by kernel_rfl, fun j hj => absurd hj (by simp)⟩, ?_⟩⟩
        have hxb2 := Lib.hid (show (encs 0 (Ls.take (k + 1))).length ≤ 9223372036854775807 from by
          rw [encs_len]
          have := rsz_le (Ls.take (k + 1)) 5000 hsm2H.out
          rw [List.length_take, hLl.out] at this
          have h2 : min (k + 1) m ≤ 12 := by omega
          have h3 : (16 + 5000) * min (k + 1) m ≤ 5016 * 12 := Nat.mul_le_mul_left 5016 h2
          omega)
        go_wp2_with (first
          | (go_at_call 20; (with_reducible refine (dcrash_any D11.out _ hxb2.out).mono ?_); rintro e w12 ⟨rfl, dv12, d12, _⟩
             have D12 := Lib.hid d12
             clear d12))
        go_roundg (m - (k + 1))
        case measure => omega
        case rel => exact ⟨k + 1, dv12, by omega, by omega, by go_num, hsm2H, D12⟩
    · obtain rfl : k = m := by omega
      have hLm : Ls.take k = Ls := List.take_of_length_le (by rw [hLl.out]; exact Nat.le_refl _)
      have hsmA : ∀ x ∈ Ls, x.length ≤ 5000 := by have := hsm.out; rwa [hLm] at this
      have hX1 := rsz_le Ls 5000 hsmA
      rw [hLl.out] at hX1
      have D1 := D.out
      rw [hLm] at D1
      have hsay := says_encs Ls (fun x hx => Nat.le_trans (hsmA x hx) (by decide))
      have hxl := encs_len Ls 0
      obtain ⟨X, hX⟩ : ∃ x, x = encs 0 Ls := ⟨_, rfl⟩
      rw [← hX] at D1 hsay hxl
      have D2 := Lib.hid D1
      have hxb := Lib.hid (show X.length ≤ 60192 from by rw [hxl]; omega)
      have hsmL := Lib.hid (show ∀ x ∈ L, x.2.length ≤ 1048576 from fun x hx => Nat.le_trans (hsmA x.2 (by rw [hLs.out]; exact List.mem_map_of_mem hx)) (by decide))
      have hfit := Lib.hid (show X.length + rsz (L.map (·.2)) ≤ 1048576 from by rw [← hLs.out, hxl]; omega)
      have hsmH := Lib.hid hsmA
      have hsayH := Lib.hid hsay
      have hxlH := Lib.hid hxl
      replace hX := Lib.hid hX
      replace hX1 := Lib.hid hX1
      clear hLm hsmA hsay hxl D1 D hsm
      go_wp2_with (first
        | (go_at_call 10; (with_reducible refine (wopen_any D2.out (Nat.le_trans hxb.out (by decide))).mono ?_); rintro e w3 ⟨l, rv, rs, dv', rfl, h1, h2, _, _⟩
           rw [hsayH.out] at h1 h2
           rw [← hxlH.out, List.take_length] at h2
           have hr := Lib.hid h1
           have hrl := Lib.hid (show rs.length = k from by
             have := congrArg List.length h1
             rw [List.length_map, hLl.out] at this
             exact this)
           have W := Lib.hid h2
           have hsz7 := Lib.hid (show ∀ x ∈ rs, x.2.length ≤ 5000 from fun x hx => by
             have h3 : x.2 ∈ rs.map (·.2) := List.mem_map_of_mem hx
             rw [h1] at h3
             exact hsmH.out x.2 h3)
           clear h1 h2)
        | (go_at_call 13; (with_reducible refine (rows_any _ _ _ _ _ _ W.out.lg (by rw [hrl.out]; omega) (fun x hx => Nat.le_trans (hsz7.out x hx) (by decide))).mono ?_); rintro e w8 ⟨v8, ps8, rfl, hp8, m8⟩
           have M8 := Lib.hid m8
           have hq8 := Lib.hid (hp8.trans hr.out)
           have W9 := Lib.hid (W.out.kept0 m8.k)
           obtain ⟨A8, c8, hv8, _⟩ := m8.ow.shape
           subst hv8
           have csm := Lib.hid (same_true (.slice A8 ps8.length c8) (.slice B k d) ps8 L w8 m8.parts (PL.out.kept0 W9.out.k) (by rw [hq8.out, hLs.out]) (by have := congrArg List.length hq8.out; rw [List.length_map, hLl.out] at this; omega))
           clear m8 hp8)
        | (go_at_call 12; (with_reducible refine csm.out.mono ?_); rintro e w9 ⟨rfl, k9⟩
           have W10 := Lib.hid (W9.out.kept0 k9)
           have cw := Lib.hid (wwrite_any W10.out (PL.out.far W10.out.k W10.out.ge) (by decide) (by rw [hll.out]; omega) (by rw [hrl.out]; omega) hsmL.out hfit.out)
           clear k9)
        | (go_at_call 16; (with_reducible refine cw.out.mono ?_); rintro e w10 ⟨rfl, dv10, rv10, rs10, hr10, W10', _⟩
           have W11 := Lib.hid W10'
           have hl10 := Lib.hid (show (rs10.length : Int) = 2 * (k : Int) from by
             have := congrArg List.length hr10
             rw [List.length_append, List.length_map, List.length_map, List.length_map, hrl.out, hll.out] at this
             omega)
           clear hr10 W10')
        | (go_at_call 19; (with_reducible refine (llen_any _ _ _ _ _ _ W11.out.lg).mono ?_); rintro e w11 ⟨he, rfl⟩
           rw [hl10.out] at he
           subst he))
      go_ret
      exact ⟨rfl, W11.out.k⟩
theorem again_law (av : Value) (ps : List (Value × List UInt8)) (cut : Int) (w : World) (ha : Parts w av ps) (na : ps.length ≤ 9223372036854775807) (_ : True) (_ : (Lit.int .i64 cut).wf = true) :
    Calls Try.prog 5 #[av, .int .i64 cut] w fun e w' => e = .returned (.bool true) ∧ Kept [] w w' := again_walk av ps cut w ha na
end Go.Proofs.Ytjdfnhfankcodaa
