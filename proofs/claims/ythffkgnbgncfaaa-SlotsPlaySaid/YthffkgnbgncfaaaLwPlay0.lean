/-
  Slots: both tallies answer every script of votes: the walk.
-/
import Derived.Test.YthffkgnbgncfaaaSp9
namespace Go.Proofs.Ythffkgnbgncfaaa
open Go.RowKit Go.Mem Go.Txt

set_option maxRecDepth 100000 in
set_option maxHeartbeats 1600000 in
theorem play_no (f : Int) (hf : f < 0 ∨ 2 < f) (sv : Value) (w : World) :
    Calls Try.prog 5 #[.int .i64 f, sv] w fun e w' => e = .returned (.bool true) ∧ Kept [] w w' := by
  have c0 := Lib.hid (first_any w)
  have cn := Lib.hid (fun u => new_no f hf u)
  rcases hf with hf | hf
  · have h1 : f < 0 := hf
    go_enter Try.func5, Try.ntmps5
    go_wp2_with (first
      | (go_at_call 6; (with_reducible refine (c0.out).mono ?_); rintro e w1 ⟨rfl, kk⟩
         have K := Lib.hid kk
         clear kk)
      | (go_at_call 7; (with_reducible refine (cn.out _).mono ?_); rintro e w2 ⟨rfl, kk⟩
         replace K := Lib.hid (K.out.then0 kk)
         clear kk))
    go_ret
    exact ⟨rfl, K.out⟩
  · have h1 : ¬ f < 0 := by omega
    have h2 : 2 < f := hf
    go_enter Try.func5, Try.ntmps5
    go_wp2_with (first
      | (go_at_call 6; (with_reducible refine (c0.out).mono ?_); rintro e w1 ⟨rfl, kk⟩
         have K := Lib.hid kk
         clear kk)
      | (go_at_call 7; (with_reducible refine (cn.out _).mono ?_); rintro e w2 ⟨rfl, kk⟩
         replace K := Lib.hid (K.out.then0 kk)
         clear kk))
    go_ret
    exact ⟨rfl, K.out⟩
set_option maxRecDepth 100000 in
set_option maxHeartbeats 12800000 in
theorem play_walk (f : Nat) (hf : f ≤ 2) (sv0 : Value) (l : List Ev) (w : World) (hs : Rd w 5 sv0 l.length (evs l)) (hn : l.length ≤ 9223372036854775807) :
    Calls Try.prog 5 #[.int .i64 f, sv0] w fun e w' => e = .returned (.bool true) ∧ Kept [] w w' := by
  have c0 := Lib.hid (first_any w)
  have cn := Lib.hid (fun u => new_ok (f : Int) (by omega) u)
  have rb := Lib.hid (rt_built f)
  have hz := Lib.hid hz_info
  have hsb := Lib.hid hs_built
  have sgb := Lib.hid sg_built
  have h32l := Lib.hid (show (noughts 32).length = 32 from by simp)
  have nsaid := Lib.hid nil_said
  have nbest := Lib.hid nil_best
  have ncount := Lib.hid nil_count
  have nfull := Lib.hid (fun u => full_nil 0 (noughts 32) u)
  have nadd := Lib.hid (fun u => add_nil 0 0 (noughts 32) (noughts 64) u)
  have nshs := Lib.hid nil_shs
  obtain ⟨As, cs, rfl, hcs⟩ := rd_shape hs
  have hs' := Lib.hid hs
  clear hs
  go_enter Try.func5, Try.ntmps5
  go_wp2_with (first
    | (go_at_call 6; (with_reducible refine (c0.out).mono ?_); rintro e w1 ⟨rfl, kk⟩
       have K := Lib.hid kk
       clear kk)
    | (go_at_call 7; (with_reducible refine (cn.out _).mono ?_); rintro e w2 ⟨g, rfl, t, kk, n⟩
       have T1 := Lib.hid (show Tl w2 g f [] (.slice none 0 0) ∧ Kept [] w w2 ∧ w.heap.size ≤ g from ⟨t, K.out.then0 kk, Nat.le_trans K.out.size n⟩)
       clear K t kk n)
    | (with_reducible refine wpl_at 56 ?_; refine wpl_build1 (o := ⟨some 56, _, _, _, _, _⟩) (v := .int .i64 (f : Int)) rfl 0 (.tmp 55) rfl rfl rb.out ?_)
    | ((with_reducible refine wpl_box (o := ⟨some 57, _, _, _, _, _⟩) (v := .agg #[.int .i64 f, .slice none 0 0]) rfl (.tmp 56) rfl rfl ?_); intro r w5 m5
       have M := Lib.hid (show PlM w w5 g r f [] [] from ⟨_, _, T1.out.1.kept m5.kept, ⟨m5.blk, Ow.nil _ _ _, by simp, by simp⟩, T1.out.2.1.then0 m5.kept, T1.out.2.2, Nat.le_trans T1.out.2.1.size m5.le, by simp [Value.ownBlock], by simp [Value.ownBlock]⟩)
       clear T1 m5))
  go_loopg [60] l.length (fun fu i wk => ∃ (i' : Nat) (ts rl : List Vt), i' ≤ l.length ∧ fu + i' = l.length ∧ i = .int .i64 (i' : Int) ∧ rl.length ≤ i' ∧ Sim f ts rl ∧ Hid (PlM w wk g r f ts rl))
  case atStart => exact ⟨0, [], [], by omega, by omega, rfl, by simp, Sim.nil f, M⟩
  case round =>
    clear M
    obtain ⟨i, ts, rl, hi, hfu, rfl, hrl, SIM, M⟩ := hrel
    replace SIM := Lib.hid SIM
    by_cases hlt : i < l.length
    · have hlti : (i : Int) < l.length := by omega
      obtain ⟨ga, oa, ca2, hva, hcl1, hcl2⟩ := (hs'.out.kept0 M.out.k).at_ (by omega)
      clear hcl1 hcl2
      obtain rfl : As = some ⟨ga, oa, none⟩ := by cases hva; rfl
      clear hva
      have hra := Lib.hid (ev_rng (hs'.out.kept0 M.out.k) hlt)
      generalize l[i] = o at *
      have K := Lib.hid M.out.k
      by_cases h60 : 60 ≤ i
      · have h60i : (60 : Int) ≤ i := by omega
        go_wp2_with (first
          | (with_reducible refine wpl_at 64 ?_; refine wpl_loadp (o := ⟨some 64, _, _, _, _, _⟩) opR rfl (.tmp 63) rfl rfl hra.out rfl ?_)
          | ((with_reducible refine wpl_new (o := ⟨some 9, _, _, _, _, _⟩) rfl rfl opz_info ?_); intro g9 w9 m9)
          | ((with_reducible refine wpl_sat (.tmp 9) (.tmp 64) ?_); (refine wpl_store_row (o := ⟨none, Op.store 47 (.tmp 9) (.tmp 64), _, _, _, _⟩) opR rfl (.tmp 9) (.tmp 64) rfl rfl rfl m9.blk rfl rfl (one_ev o) ?_); intro w8 b9 k9
             replace K := Lib.hid (K.out.then0 (m9.kept.then1 k9 m9.le))
             clear m9 k9 b9))
        generalize noughts 32 = H32 at hsb nsaid nbest ncount nfull nadd nshs h32l
        generalize noughts 64 = H64 at sgb nadd
        go_wp2_with (first
          | (go_at_call 12; (with_reducible refine (forget_nil 3 _).mono ?_); rintro e w2 ⟨rfl, kk⟩; replace K := Lib.hid (K.out.then0 kk); clear kk)
          | (go_at_call 17; (with_reducible refine (nsaid.out _).mono ?_); rintro e w2 ⟨rfl, kk⟩; replace K := Lib.hid (K.out.then0 kk); clear kk)
          | ((with_reducible refine wpl_new (o := ⟨some 26, _, _, _, _, _⟩) rfl rfl hz.out ?_); intro g26 w3 m26
             refine wpl_store_row (o := ⟨none, Op.store 30 (.tmp 26) (.tmp 227), _, _, _, _⟩) hashT.row rfl (.tmp 26) (.tmp 227) rfl rfl rfl m26.blk rfl (by simp [h32l.out]) (one_ab _) ?_; intro w4 b26 k26
             replace K := Lib.hid (K.out.then0 (m26.kept.then1 k26 m26.le))
             clear m26 b26 k26)
          | (go_at_call 9; (with_reducible refine (nbest.out _).mono ?_); rintro e w2 ⟨rfl, kk⟩; replace K := Lib.hid (K.out.then0 kk); clear kk)
          | ((with_reducible refine wpl_new (o := ⟨some 28, _, _, _, _, _⟩) rfl rfl hz.out ?_); intro g28 w3 m28
             refine wpl_store_row (o := ⟨none, Op.store 30 (.tmp 28) (.tmp 232), _, _, _, _⟩) hashT.row rfl (.tmp 28) (.tmp 232) rfl rfl rfl m28.blk rfl (by simp [h32l.out]) (one_ab _) ?_; intro w4 b28 k28
             replace K := Lib.hid (K.out.then0 (m28.kept.then1 k28 m28.le))
             clear m28 b28 k28)
          | (with_reducible refine wpl_at 235 ?_; refine wpl_build0 (o := ⟨some 235, _, _, _, _, _⟩) rfl rfl hsb.out ?_)
          | (with_reducible refine wpl_at 236 ?_; refine wpl_build0 (o := ⟨some 236, _, _, _, _, _⟩) rfl rfl sgb.out ?_)
          | (go_at_call 8; (with_reducible refine (nadd.out _).mono ?_); rintro e w2 ⟨rfl, kk⟩; replace K := Lib.hid (K.out.then0 kk); clear kk)
          | (with_reducible refine wpl_at 241 ?_; refine wpl_build0 (o := ⟨some 241, _, _, _, _, _⟩) rfl rfl hsb.out ?_)
          | (go_at_call 16; (with_reducible refine (nfull.out _).mono ?_); rintro e w2 ⟨rfl, kk⟩; replace K := Lib.hid (K.out.then0 kk); clear kk)
          | (with_reducible refine wpl_at 247 ?_; refine wpl_build0 (o := ⟨some 247, _, _, _, _, _⟩) rfl rfl hsb.out ?_)
          | (go_at_call 11; (with_reducible refine (ncount.out _).mono ?_); rintro e w2 ⟨rfl, kk⟩; replace K := Lib.hid (K.out.then0 kk); clear kk)
          | (with_reducible refine wpl_at 253 ?_; refine wpl_build0 (o := ⟨some 253, _, _, _, _, _⟩) rfl rfl hsb.out ?_)
          | (go_at_call 10; (with_reducible refine (nshs.out _).mono ?_); rintro e w2 ⟨A9, c9, rfl, kk⟩; replace K := Lib.hid (K.out.then0 kk); clear kk))
        go_ret
        exact ⟨rfl, K.out⟩
      · have h60i : ¬ (60 : Int) ≤ i := by omega
        clear K
        go_wp2_with (first
          | (with_reducible refine wpl_at 64 ?_; refine wpl_loadp (o := ⟨some 64, _, _, _, _, _⟩) opR rfl (.tmp 63) rfl rfl hra.out rfl ?_)
          | ((with_reducible refine wpl_new (o := ⟨some 9, _, _, _, _, _⟩) rfl rfl opz_info ?_); intro g9 w9 m9)
          | ((with_reducible refine wpl_sat (.tmp 9) (.tmp 64) ?_); (refine wpl_store_row (o := ⟨none, Op.store 47 (.tmp 9) (.tmp 64), _, _, _, _⟩) opR rfl (.tmp 9) (.tmp 64) rfl rfl rfl m9.blk rfl rfl (one_ev o) ?_); intro w8 b9 k9
             have L9 := Lib.hid (Nat.le_trans M.out.k.size m9.le)
             replace M := Lib.hid (M.out.kept (m9.kept.then1 k9 m9.le))
             replace b9 := Lib.hid b9
             clear m9 k9))
        clear hra
        have hW : ∀ u', Kept [] w8 u' → Blk u' g9 47 o.c.toArray := fun u' hk => b9.out.kept hk (by simp)
        refine wp_multi (by kernel_rfl) [.val (.pointer (some ⟨g9, 2, none⟩)), .val (.int .u8 o.h.toNat), .val (ab (hv o.h)), .val (.pointer (some ⟨g9, 3, none⟩)), .val (.int .u8 o.s.toNat), .val (ab (sv o.s)), .new 30 (ab (noughts 32)), .new 31 (ab (noughts 64)), .put 6 2 (bv (hv o.h)).toArray, .put 7 5 (bv (sv o.s)).toArray]
          (fun u' => Kept [] w8 u') (by kernel_rfl) (by kernel_rfl) (Kept.refl [] w8).drew (fun u u' T hS hk hT => hS.fresh hk hT) ?_ ?_
        · refine ⟨?_, ?_, ?_, ?_, ?_, ?_, ⟨⟨_, rfl⟩, rfl, hz_info⟩, ⟨⟨_, rfl⟩, rfl, sg_info⟩, ?_, ?_, trivial⟩
          · exact ⟨⟨_, rfl⟩, fun a' u K0 R hS hr ho h => wp_fieldp (.tmp 9) rfl ((ho 9 (by decide)).trans rfl) (opf g9).1 (h u (Kept.refl _ _))⟩
          · refine ⟨⟨_, rfl⟩, fun a' u K0 R hS hr ho h => ?_⟩
            have h0 := hr 0 (.pointer (some ⟨g9, 2, none⟩)) 67 _ rfl rfl rfl ⟨⟨0, .data⟩, by simp, rfl, rfl⟩
            exact wp_exec (exec_cell (.tmp 67) rfl flatB h0 (Ev.f2 (hW u hS))) (h u (Kept.refl _ _))
          · refine ⟨⟨_, rfl⟩, fun a' u K0 R hS hr ho h => ?_⟩
            have h0 := hr 1 (.int .u8 o.h.toNat) 68 _ rfl rfl rfl ⟨⟨1, .data⟩, by simp, rfl, rfl⟩
            exact wp_built1 0 (.tmp 68) rfl h0 (hv_built o.h) (h u (Kept.refl _ _))
          · exact ⟨⟨_, rfl⟩, fun a' u K0 R hS hr ho h => wp_fieldp (.tmp 9) rfl ((ho 9 (by decide)).trans rfl) (opf g9).2 (h u (Kept.refl _ _))⟩
          · refine ⟨⟨_, rfl⟩, fun a' u K0 R hS hr ho h => ?_⟩
            have h0 := hr 3 (.pointer (some ⟨g9, 3, none⟩)) 70 _ rfl rfl rfl ⟨⟨3, .data⟩, by simp, rfl, rfl⟩
            exact wp_exec (exec_cell (.tmp 70) rfl flatB h0 (Ev.f3 (hW u hS))) (h u (Kept.refl _ _))
          · refine ⟨⟨_, rfl⟩, fun a' u K0 R hS hr ho h => ?_⟩
            have h0 := hr 4 (.int .u8 o.s.toNat) 71 _ rfl rfl rfl ⟨⟨4, .data⟩, by simp, rfl, rfl⟩
            exact wp_built1 0 (.tmp 71) rfl h0 (sv_built o.s) (h u (Kept.refl _ _))
          · exact ⟨rfl, ⟨⟨6, .data⟩, by simp, rfl, rfl⟩, ⟨⟨2, .data⟩, by simp, rfl, rfl⟩, _, _, _, _, _, _, _, 32, rfl, rfl, rfl, rfl, rfl, rfl, rfl, hashT.row, rfl, by simp [hv_len], one_ab _⟩
          · exact ⟨rfl, ⟨⟨7, .data⟩, by simp, rfl, rfl⟩, ⟨⟨5, .data⟩, by simp, rfl, rfl⟩, _, _, _, _, _, _, _, 64, rfl, rfl, rfl, rfl, rfl, rfl, rfl, sigT.row, rfl, by simp [sv_len], one_ab _⟩
        intro γ w9 hS hγ hne hput
        have b10 := hput 8 6 2 _ _ _ rfl rfl
        have b11 := hput 9 7 5 _ _ _ rfl rfl
        generalize e10 : γ 6 = g10 at *
        generalize e11 : γ 7 = g11 at *
        simp [actOf, VK, List.range, List.range.loop, Act.put, e10, e11]
        have RO := Lib.hid (show Ro3 g9 g10 g11 o w9 from ⟨hW _ hS, b10, b11⟩)
        replace M := Lib.hid (M.out.kept hS)
        clear b10 b11 hput hne hγ hS e10 e11 hW b9 L9
        have hx := Lib.hid o.ok
        cases hfg : o.fg with
        | true =>
          have q4 := Ev.f4 RO.out.b9
          rw [hfg] at q4
          have q1 := Ev.f1 RO.out.b9
          have hi0 := SIM.out.r
          have cf := Lib.hid (fun u (P : PlM w u g r f ts rl) => P.forget hi0 o.vw)
          have cr := Lib.hid (fun u (P : PlM w u g r f (ts.filter fun v => decide (o.vw ≤ v.vw)) rl) => P.rforget o.vw)
          replace SIM := Lib.hid (SIM.out.forget o.vw)
          have hrl2 : (rfor o.vw rl).length ≤ i + 1 := Nat.le_trans (rfor_le _ _) (by omega)
          clear hi0
          generalize (ts.filter fun v => decide (o.vw ≤ v.vw)) = TS at *
          generalize rfor o.vw rl = RL at *
          go_wp2_with (first
            | (go_at_call 12; (with_reducible refine (cf.out _ M.out).mono ?_); rintro e w10 ⟨rfl, p, kp⟩; have M2 := Lib.hid p; replace RO := Lib.hid (RO.out.kp kp); clear q1; have q1 := Ev.f1 RO.out.b9; clear p kp M q4 cf)
            | (go_at_call 13; (with_reducible refine (cr.out _ M2.out).mono ?_); rintro e w11 ⟨rfl, p, kp⟩; have M := Lib.hid p; replace RO := Lib.hid (RO.out.kp kp); clear q1; clear p kp M2 cr))
          have hi0 := SIM.out.r
          obtain ⟨S, eS⟩ : ∃ S, saidv (ofv TS o.vw) (hv o.h) = S := ⟨_, rfl⟩
          have rS : rsh RL o.vw (hv o.h) (3 * f + 1) = S := (SIM.out.shares o.vw (hv o.h)).trans eS
          have cshs := Lib.hid (fun u (P : PlM w u g r f TS RL) => P.shs hf hi0 o.vw (hv_len o.h) eS)
          have crsh := Lib.hid (fun u (P : PlM w u g r f TS RL) => P.rshs hf o.vw (hv_len o.h) rS)
          have ccnt := Lib.hid (fun u (P : PlM w u g r f TS RL) => P.count hf hi0 o.vw (hv_len o.h) eS)
          have cful := Lib.hid (fun u (P : PlM w u g r f TS RL) => P.full hf hi0 o.vw (hv_len o.h) eS rfl)
          have csaid := Lib.hid (fun u (P : PlM w u g r f TS RL) => P.said hf hi0 o.fr o.vw (SIM.out.said o.fr o.vw).symm)
          have rlok : ∀ v ∈ RL, v.ok := by obtain ⟨v, vr, PI⟩ := M.out; exact PI.r.ok
          have cbest := Lib.hid (fun u (P : PlM w u g r f TS RL) => P.best hf hi0 o.vw rfl)
          have crbest := Lib.hid (fun u (P : PlM w u g r f TS RL) => P.rbest hf o.vw (SIM.out.best rlok o.vw))
          have bl := Lib.hid (bst_len32 SIM.out rlok o.vw)
          have sl := Lib.hid (lst_len rlok o.fr o.vw RL.length (Nat.le_refl _))
          have Sok : ∀ v ∈ S, v.ok := fun v hv => by rw [← eS] at hv; exact rlok v (SIM.out.p.mem_iff.1 (List.mem_filter.1 (List.mem_filter.1 hv).1).1)
          have SL : S.length ≤ 60 := by
            have h1 : S.length ≤ TS.length := by rw [← eS]; exact Nat.le_trans (List.length_filter_le _ _) (List.length_filter_le _ _)
            have h2 := SIM.out.len
            omega
          clear rS hi0 eS
          have hsb2 := Lib.hid hs_built
          have hnl := Lib.hid (show (noughts 32).length = 32 from by simp)
          have lst0 := Lib.hid (show lst RL o.fr o.vw 0 = (noughts 32, false) from rfl)
          generalize noughts 32 = HN at hsb2 hnl lst0
          generalize bst (ofv TS o.vw) (ofv TS o.vw).length = pb at *
          obtain ⟨bh, bn⟩ := pb
          simp only at bl cbest crbest
          replace RO := Lib.hid (RO.out.kept (Kept.refl [] _).drew)
          replace M := Lib.hid (M.out.kept (Kept.refl [] _).drew)
          replace Sok := Lib.hid Sok
          replace rlok := Lib.hid rlok
          refine Txt.wp_textG [2, 3, 7, 8] (Ro3 g9 g10 g11 o) [[_, _, _, _, _], [_, _, _, _, _], [_, _]] (by kernel_rfl) (by kernel_rfl) rfl RO.out (Txt.segs_cons ?_)
          have q1 := Ev.f1 RO.out.b9
          go_wp2_with (first
            | (with_reducible refine wpl_at 104 ?_; refine wpl_load_row (o := ⟨some 104, _, _, _, _, _⟩) hashT.row rfl (.tmp 10) rfl rfl RO.out.b10 (by simp [hv_len]) ?_)
            | (go_at_call 10; (with_reducible refine (cshs.out _ M.out).mono ?_); rintro e w12 ⟨A1, cx, rfl, x1, kk⟩; have X := Lib.hid x1; replace M := Lib.hid (M.out.kept kk); replace RO := Lib.hid (RO.out.kept kk); clear q1; clear x1 kk cshs))
          refine ⟨rfl, RO.out, Txt.segs_cons ?_⟩
          have q1 := Ev.f1 RO.out.b9
          go_wp2_with (first
            | (with_reducible refine wpl_at 109 ?_; refine wpl_load_row (o := ⟨some 109, _, _, _, _, _⟩) hashT.row rfl (.tmp 10) rfl rfl RO.out.b10 (by simp [hv_len]) ?_)
            | (go_at_call 15; (with_reducible refine (crsh.out _ M.out).mono ?_); rintro e w13 ⟨A2, cy, rfl, y1, kk⟩
               have CM := Lib.hid (show CmM w g r f TS RL g9 g10 g11 o (.slice A1 S.length cx) (.slice A2 S.length cy) S w13 from ⟨M.out.kept kk, RO.out.kept kk, X.out.kept0 kk, y1⟩)
               replace RO := Lib.hid (RO.out.kept kk)
               clear q1; clear y1 kk crsh X M))
          refine ⟨rfl, RO.out, Txt.segs_cons ?_⟩
          go_wp2_with fail
          refine ⟨rfl, RO.out, Txt.segs_nil ⟨⟨by kernel_rfl, ?_⟩, ?_⟩⟩
          · intro j hj o' ho hw
            have hj2 : j = 2 ∨ j = 3 ∨ j = 7 ∨ j = 8 := by simpa using hj
            rcases hj2 with rfl | rfl | rfl | rfl <;> cases ho
            · exact ⟨_, rfl, fun u hu => exec_cell (.tmp 102) rfl flatI rfl (Ev.f1 hu.b9)⟩
            · exact ⟨_, rfl, fun u hu => exec_load hashT.row (.tmp 10) rfl rfl hu.b10 (by simp [hv_len])⟩
            · exact ⟨_, rfl, fun u hu => exec_cell (.tmp 107) rfl flatI rfl (Ev.f1 hu.b9)⟩
            · exact ⟨_, rfl, fun u hu => exec_load hashT.row (.tmp 10) rfl rfl hu.b10 (by simp [hv_len])⟩
          clear RO
          have q1 := Ev.f1 CM.out.ro.b9
          go_wp2_with (first
            | (with_reducible refine wpl_at 120 ?_; refine wpl_load_row (o := ⟨some 120, _, _, _, _, _⟩) hashT.row rfl (.tmp 10) rfl rfl CM.out.ro.b10 (by simp [hv_len]) ?_)
            | (go_at_call 11; (with_reducible refine (ccnt.out _ CM.out.p).mono ?_); rintro e w14 ⟨rfl, kk⟩; replace CM := Lib.hid (CM.out.kept kk); clear q1; have q1 := Ev.f1 CM.out.ro.b9; clear kk ccnt)
            | (with_reducible refine wpl_at 130 ?_; refine wpl_load_row (o := ⟨some 130, _, _, _, _, _⟩) hashT.row rfl (.tmp 10) rfl rfl CM.out.ro.b10 (by simp [hv_len]) ?_)
            | (go_at_call 16; (with_reducible refine (cful.out _ CM.out.p).mono ?_); rintro e w15 ⟨rfl, kk⟩; replace CM := Lib.hid (CM.out.kept kk); clear q1; clear kk cful))
          go_loopg [142] S.length (fun fu i' wk => ∃ t : Nat, t ≤ S.length ∧ fu + t = S.length ∧ i' = .int .i64 (t : Int) ∧ Hid (CmM w g r f TS RL g9 g10 g11 o (.slice A1 S.length cx) (.slice A2 S.length cy) S wk))
          case atStart => exact ⟨0, by omega, by omega, rfl, CM⟩
          case round =>
            clear CM
            obtain ⟨t, ht, hft, rfl, CM⟩ := hrel
            by_cases hltt : t < S.length
            · have hlttt : (t : Int) < S.length := by omega
              obtain ⟨gx, ox, cx2, hvx', hcl1, hcl2⟩ := CM.out.x.at_ (by omega)
              clear hcl1 hcl2
              obtain rfl : A1 = some ⟨gx, ox, none⟩ := by cases hvx'; rfl
              clear hvx'
              obtain ⟨gy, oy, cy2, hvy', hcl1, hcl2⟩ := CM.out.y.at_ (by omega)
              clear hcl1 hcl2
              obtain rfl : A2 = some ⟨gy, oy, none⟩ := by cases hvy'; rfl
              clear hvy'
              have rx := Lib.hid (fun u (h : CmM w g r f TS RL g9 g10 g11 o (.slice (some ⟨gx, ox, none⟩) S.length cx) (.slice (some ⟨gy, oy, none⟩) S.length cy) S u) => share_rng h.x Sok.out hltt)
              have ry := Lib.hid (fun u (h : CmM w g r f TS RL g9 g10 g11 o (.slice (some ⟨gx, ox, none⟩) S.length cx) (.slice (some ⟨gy, oy, none⟩) S.length cy) S u) => share_rng h.y Sok.out hltt)
              have yok := Lib.hid (Sok.out _ (List.getElem_mem hltt))
              generalize S[t] = y at *
              have ysl := Lib.hid yok.out.2
              have ylen := Lib.hid (shc_len yok.out)
              go_wp2_with fail
              replace CM := Lib.hid (CM.out.kept (Kept.refl [] _).drew)
              refine Txt.wp_textG [3, 7, 8] (CmM w g r f TS RL g9 g10 g11 o (.slice (some ⟨gx, ox, none⟩) S.length cx) (.slice (some ⟨gy, oy, none⟩) S.length cy) S) [[_, _, _, _, _, _, _, _, _]] (by kernel_rfl) (by kernel_rfl) rfl CM.out (Txt.segs_cons ?_)
              go_wp2_with (first
                | (with_reducible refine wpl_at 148 ?_; refine wpl_loadp (o := ⟨some 148, _, _, _, _, _⟩) shareR rfl (.tmp 147) rfl rfl (rx.out _ CM.out) ylen.out ?_)
                | (with_reducible refine wpl_at 152 ?_; refine wpl_loadp (o := ⟨some 152, _, _, _, _, _⟩) shareR rfl (.tmp 151) rfl rfl (ry.out _ CM.out) ylen.out ?_)
                | (with_reducible refine wpl_at 153 ?_; refine wpl_exec (o := ⟨some 153, _, _, _, _, _⟩) (v := .bool false) rfl (exec_neq_share (.tmp 148) (.tmp 152) rfl y ysl.out rfl rfl) ?_))
              refine ⟨rfl, CM.out, Txt.segs_nil ⟨⟨by kernel_rfl, ?_⟩, ?_⟩⟩
              · intro j hj o' ho hw
                have hj2 : j = 3 ∨ j = 7 ∨ j = 8 := by simpa using hj
                rcases hj2 with rfl | rfl | rfl <;> cases ho
                · exact ⟨_, rfl, fun u hu => exec_loadp shareR (.tmp 147) rfl rfl (rx.out _ hu) ylen.out⟩
                · exact ⟨_, rfl, fun u hu => exec_loadp shareR (.tmp 151) rfl rfl (ry.out _ hu) ylen.out⟩
                · exact ⟨_, rfl, fun u hu => exec_neq_share (.tmp 148) (.tmp 152) rfl y ysl.out rfl rfl⟩
              go_wp2_with fail
              go_roundg (S.length - (t + 1))
              case measure => omega
              case rel => exact ⟨t + 1, by omega, by omega, by go_num, CM⟩
            · obtain rfl : t = S.length := by omega
              have nlt2 : ¬ ((S.length : Nat) : Int) < (S.length : Nat) := by omega
              obtain ⟨v0, vr, PI⟩ := CM.out.p
              obtain ⟨Ar, cr, rfl, _⟩ := PI.r.o.shape
              have q1 := PI.r.f1
              have hrl6 := PI.r.n
              replace PI := Lib.hid PI
              go_wp2_with (first
                | (with_reducible refine wpl_at 155 ?_; refine wpl_build0 (o := ⟨some 155, _, _, _, _, _⟩) rfl rfl hsb2.out ?_)
                | ((with_reducible refine wpl_new (o := ⟨some 15, _, _, _, _, _⟩) rfl rfl hz.out ?_); intro g15 w15 m15
                   refine wpl_store_row (o := ⟨none, Op.store 30 (.tmp 15) (.tmp 155), _, _, _, _⟩) hashT.row rfl (.tmp 15) (.tmp 155) rfl rfl rfl m15.blk rfl (by simp [hnl.out]) (one_ab _) ?_; intro wb b15 k15
                   have kk := m15.kept.then1 k15 m15.le
                   have M := Lib.hid (show SdM w g r f TS RL v0 (.slice Ar RL.length cr) g9 g10 g11 o g15 HN wb from ⟨PI.out.kept kk, CM.out.ro.kept kk, b15, Nat.le_trans PI.out.k.size m15.le, by have := CM.out.ro.b10.lt; have := m15.le; omega⟩)
                   clear q1; have q1 := M.out.p.r.f1
                   clear m15 b15 k15 kk PI CM))
              clear q1 nlt2
              go_loopg [16, 161] RL.length (fun fu s i' wk => ∃ k : Nat, k ≤ RL.length ∧ fu + k = RL.length ∧ i' = .int .i64 (k : Int) ∧ s = .bool (lst RL o.fr o.vw k).2 ∧ Hid (SdM w g r f TS RL v0 (.slice Ar RL.length cr) g9 g10 g11 o g15 (lst RL o.fr o.vw k).1 wk))
              case atStart =>
                refine ⟨0, by omega, by omega, rfl, ?_⟩
                rw [lst0.out]
                exact ⟨rfl, M⟩
              case round =>
                clear M
                obtain ⟨k, hk, hfk, rfl, rfl, M⟩ := hrel
                by_cases hlt3 : k < RL.length
                · have hlt3i : (k : Int) < RL.length := by omega
                  obtain ⟨gb, ob, cb, hv2, _⟩ := vote_at (Rd.of_ow M.out.p.r.o) rlok.out hlt3
                  obtain rfl : Ar = some ⟨gb, ob, none⟩ := by cases hv2; rfl
                  clear hv2
                  have hra := Lib.hid (fun u (oo : Ow u 51 98 (.slice (some ⟨gb, ob, none⟩) RL.length cr) RL.length (vcs RL)) => vote_rng (Rd.of_ow oo) rlok.out hlt3)
                  have es := Lib.hid (lst_succ hlt3 o.fr o.vw)
                  have pl := Lib.hid (lst_len rlok.out o.fr o.vw k hk)
                  have yok := Lib.hid (rlok.out _ (List.getElem_mem hlt3))
                  generalize lst RL o.fr o.vw k = p at *
                  obtain ⟨hs, sb⟩ := p
                  simp only at pl M
                  generalize RL[k] = y at *
                  have ly := Lib.hid (Vt.len yok.out)
                  have yh := Lib.hid yok.out.1
                  by_cases e1 : y.fr = o.fr
                  · by_cases e2 : y.vw = o.vw
                    · have e4 := Lib.hid (show lst RL o.fr o.vw (k + 1) = (y.h, true) from by rw [es.out, if_pos ⟨e1, e2⟩])
                      have E1 := Lib.hid e1
                      have E2 := Lib.hid e2
                      clear e1 e2 es
                      try clear nsaid; try clear nbest; try clear ncount; try clear nfull; try clear nadd; try clear nshs; try clear hsb; try clear sgb; try clear h32l; try clear hsb2; try clear hnl; try clear lst0; try clear csaid; try clear cbest; try clear crbest; try clear bl; try clear sl; try clear c0; try clear cn; try clear rb; try clear hs'; try clear hra2; try clear SIM; try clear Sok; try clear hz; try clear hx; try clear hfg; try clear SL; try clear hi; try clear hlti; try clear hrl; try clear hrl2; try clear h60; try clear h60i; try clear hlt; try clear q0; try clear q1; try clear hcs; try clear rab
                      go_wp2_with (first
                        | ((with_reducible refine wpl_at 164 ?_; refine wpl_loadp (o := ⟨some 164, _, _, _, _, _⟩) rvoteR rfl (.tmp 163) rfl rfl (hra.out _ M.out.p.r.o) ly.out ?_))
                        | ((with_reducible refine wpl_new (o := ⟨some 18, _, _, _, _, _⟩) rfl rfl rvz_info ?_); intro g18 w18 m18)
                        | ((with_reducible refine wpl_sat (.tmp 18) (.tmp 164) ?_); (refine wpl_store_row (o := ⟨none, Op.store 51 (.tmp 18) (.tmp 164), _, _, _, _⟩) rvoteR rfl (.tmp 18) (.tmp 164) rfl rfl rfl m18.blk rfl (by simpa using ly.out) (by rw [Array.all_eq_true_iff_forall_mem]; intro u hu; exact one_vc y u (by simpa using hu)) ?_); intro w8 b18 k18
                           replace M := Lib.hid (M.out.kept (m18.kept.then1 k18 m18.le))
                           have q6 := Vt.f0 b18
                           have q7 := Vt.f1 b18
                           have q8 := Ev.f0 M.out.ro.b9
                           have q9 := Ev.f1 M.out.ro.b9
                           rw [E1.out] at q6; rw [E2.out] at q7
                           replace b18 := Lib.hid b18
                           clear m18 k18)
                        | ((with_reducible refine wpl_at 178 ?_; refine wpl_loadp (o := ⟨some 178, _, _, _, _, _⟩) hashT.row rfl (.tmp 177) rfl rfl (Vt.hr b18.out) (by simp [yh.out]) ?_))
                        | ((with_reducible refine wpl_sat (.tmp 15) (.tmp 178) ?_); (refine wpl_store_row (o := ⟨none, Op.store 30 (.tmp 15) (.tmp 178), _, _, _, _⟩) hashT.row rfl (.tmp 15) (.tmp 178) rfl rfl rfl M.out.b (by simp [pl.out]) (by simp [yh.out]) (one_ab _) ?_); intro w7 b7 k7
                           replace M := Lib.hid (M.out.put b7 k7)
                           clear b7 k7))
                      go_roundg (RL.length - (k + 1))
                      case measure => omega
                      case rel =>
                        refine ⟨k + 1, by omega, by omega, by go_num, ?_⟩
                        rw [e4.out]
                        exact ⟨rfl, M⟩
                    · have e4 := Lib.hid (show lst RL o.fr o.vw (k + 1) = (hs, sb) from by rw [es.out, if_neg (fun h => e2 h.2)])
                      have E1 := Lib.hid e1
                      have n2 := Lib.hid e2
                      clear e1 e2 es
                      try clear nsaid; try clear nbest; try clear ncount; try clear nfull; try clear nadd; try clear nshs; try clear hsb; try clear sgb; try clear h32l; try clear hsb2; try clear hnl; try clear lst0; try clear csaid; try clear cbest; try clear crbest; try clear bl; try clear sl; try clear c0; try clear cn; try clear rb; try clear hs'; try clear hra2; try clear SIM; try clear Sok; try clear hz; try clear hx; try clear hfg; try clear SL; try clear hi; try clear hlti; try clear hrl; try clear hrl2; try clear h60; try clear h60i; try clear hlt; try clear q0; try clear q1; try clear hcs; try clear rab
                      go_wp2_with (first
                        | ((with_reducible refine wpl_at 164 ?_; refine wpl_loadp (o := ⟨some 164, _, _, _, _, _⟩) rvoteR rfl (.tmp 163) rfl rfl (hra.out _ M.out.p.r.o) ly.out ?_))
                        | ((with_reducible refine wpl_new (o := ⟨some 18, _, _, _, _, _⟩) rfl rfl rvz_info ?_); intro g18 w18 m18)
                        | ((with_reducible refine wpl_sat (.tmp 18) (.tmp 164) ?_); (refine wpl_store_row (o := ⟨none, Op.store 51 (.tmp 18) (.tmp 164), _, _, _, _⟩) rvoteR rfl (.tmp 18) (.tmp 164) rfl rfl rfl m18.blk rfl (by simpa using ly.out) (by rw [Array.all_eq_true_iff_forall_mem]; intro u hu; exact one_vc y u (by simpa using hu)) ?_); intro w8 b18 k18
                           replace M := Lib.hid (M.out.kept (m18.kept.then1 k18 m18.le))
                           have q6 := Vt.f0 b18
                           have q7 := Vt.f1 b18
                           have q8 := Ev.f0 M.out.ro.b9
                           have q9 := Ev.f1 M.out.ro.b9
                           rw [E1.out] at q6
                           replace b18 := Lib.hid b18
                           clear m18 k18)
                        | (with_reducible refine wpl_at 175 ?_; refine wpl_exec (o := ⟨some 175, _, _, _, _, _⟩) (v := .bool false) rfl (exec_eql_int (i := y.vw) (j := o.vw) (.tmp 172) (.tmp 174) rfl rfl rfl n2.out) ?_))
                      go_roundg (RL.length - (k + 1))
                      case measure => omega
                      case rel =>
                        refine ⟨k + 1, by omega, by omega, by go_num, ?_⟩
                        rw [e4.out]
                        exact ⟨rfl, M⟩
                  · have e4 := Lib.hid (show lst RL o.fr o.vw (k + 1) = (hs, sb) from by rw [es.out, if_neg (fun h => e1 h.1)])
                    have n1 : ¬ y.fr = o.fr := e1
                    clear e1 es
                    try clear nsaid; try clear nbest; try clear ncount; try clear nfull; try clear nadd; try clear nshs; try clear hsb; try clear sgb; try clear h32l; try clear hsb2; try clear hnl; try clear lst0; try clear csaid; try clear cbest; try clear crbest; try clear bl; try clear sl; try clear c0; try clear cn; try clear rb; try clear hs'; try clear hra2; try clear SIM; try clear Sok; try clear hz; try clear hx; try clear hfg; try clear SL; try clear hi; try clear hlti; try clear hrl; try clear hrl2; try clear h60; try clear h60i; try clear hlt; try clear q0; try clear q1; try clear hcs; try clear rab
                    go_wp2_with (first
                      | ((with_reducible refine wpl_at 164 ?_; refine wpl_loadp (o := ⟨some 164, _, _, _, _, _⟩) rvoteR rfl (.tmp 163) rfl rfl (hra.out _ M.out.p.r.o) ly.out ?_))
                      | ((with_reducible refine wpl_new (o := ⟨some 18, _, _, _, _, _⟩) rfl rfl rvz_info ?_); intro g18 w18 m18)
                      | ((with_reducible refine wpl_sat (.tmp 18) (.tmp 164) ?_); (refine wpl_store_row (o := ⟨none, Op.store 51 (.tmp 18) (.tmp 164), _, _, _, _⟩) rvoteR rfl (.tmp 18) (.tmp 164) rfl rfl rfl m18.blk rfl (by simpa using ly.out) (by rw [Array.all_eq_true_iff_forall_mem]; intro u hu; exact one_vc y u (by simpa using hu)) ?_); intro w8 b18 k18
                         replace M := Lib.hid (M.out.kept (m18.kept.then1 k18 m18.le))
                         have q6 := Vt.f0 b18
                         have q7 := Vt.f1 b18
                         have q8 := Ev.f0 M.out.ro.b9
                         have q9 := Ev.f1 M.out.ro.b9
                         clear q7 q9
                         replace b18 := Lib.hid b18
                         clear m18 k18))
                    go_roundg (RL.length - (k + 1))
                    case measure => omega
                    case rel =>
                      refine ⟨k + 1, by omega, by omega, by go_num, ?_⟩
                      rw [e4.out]
                      exact ⟨rfl, M⟩
                · obtain rfl : k = RL.length := by omega
                  have nlt3 : ¬ ((RL.length : Nat) : Int) < (RL.length : Nat) := by omega
                  generalize lst RL o.fr o.vw RL.length = pz at *
                  obtain ⟨sh, sb⟩ := pz
                  simp only at sl csaid M
                  have q0 := Ev.f0 M.out.ro.b9
                  have q1 := Ev.f1 M.out.ro.b9
                  go_wp2_with (first
                    | (go_at_call 17; (with_reducible refine (csaid.out _ M.out.pm).mono ?_); rintro e w16 ⟨rfl, kk⟩; replace M := Lib.hid (M.out.kept kk); clear q0 q1; clear kk csaid)
                    | ((with_reducible refine wpl_new (o := ⟨some 19, _, _, _, _, _⟩) rfl rfl hz.out ?_); intro g19 w19 m19
                       refine wpl_store_row (o := ⟨none, Op.store 30 (.tmp 19) (.tmp 187), _, _, _, _⟩) hashT.row rfl (.tmp 19) (.tmp 187) rfl rfl rfl m19.blk rfl (by simp [sl.out]) (one_ab _) ?_; intro wb b19 k19
                       have kk := m19.kept.then1 k19 m19.le
                       have B19 := Lib.hid b19
                       replace M := Lib.hid (M.out.kept kk)
                       have q1 := Ev.f1 M.out.ro.b9
                       clear m19 b19 k19 kk)
                    | (go_at_call 9; (with_reducible refine (cbest.out _ M.out.pm).mono ?_); rintro e w17 ⟨rfl, kk⟩; replace M := Lib.hid (M.out.kept kk); replace B19 := Lib.hid (B19.out.kept kk (by simp)); clear q1; clear kk cbest)
                    | ((with_reducible refine wpl_new (o := ⟨some 21, _, _, _, _, _⟩) rfl rfl hz.out ?_); intro g21 w21 m21
                       refine wpl_store_row (o := ⟨none, Op.store 30 (.tmp 21) (.tmp 194), _, _, _, _⟩) hashT.row rfl (.tmp 21) (.tmp 194) rfl rfl rfl m21.blk rfl (by simp [bl.out]) (one_ab _) ?_; intro wb b21 k21
                       have kk := m21.kept.then1 k21 m21.le
                       have B21 := Lib.hid b21
                       replace M := Lib.hid (M.out.kept kk)
                       replace B19 := Lib.hid (B19.out.kept kk (by simp))
                       have q1 := Ev.f1 M.out.ro.b9
                       clear m21 b21 k21 kk)
                    | (go_at_call 18; (with_reducible refine (crbest.out _ M.out.pm).mono ?_); rintro e w18 ⟨rfl, kk⟩; replace M := Lib.hid (M.out.kept kk); replace B19 := Lib.hid (B19.out.kept kk (by simp)); replace B21 := Lib.hid (B21.out.kept kk (by simp)); clear q1; clear kk crbest)
                    | ((with_reducible refine wpl_new (o := ⟨some 23, _, _, _, _, _⟩) rfl rfl hz.out ?_); intro g23 w23 m23
                       refine wpl_store_row (o := ⟨none, Op.store 30 (.tmp 23) (.tmp 201), _, _, _, _⟩) hashT.row rfl (.tmp 23) (.tmp 201) rfl rfl rfl m23.blk rfl (by simp [bl.out]) (one_ab _) ?_; intro wb b23 k23
                       have kk := m23.kept.then1 k23 m23.le
                       have B23 := Lib.hid b23
                       replace M := Lib.hid (M.out.kept kk)
                       replace B19 := Lib.hid (B19.out.kept kk (by simp)); replace B21 := Lib.hid (B21.out.kept kk (by simp))
                       clear m23 b23 k23 kk)
                    | (with_reducible refine wpl_at 203 ?_; refine wpl_load_row (o := ⟨some 203, _, _, _, _, _⟩) hashT.row rfl (.tmp 19) rfl rfl B19.out (by simp [sl.out]) ?_)
                    | (with_reducible refine wpl_at 204 ?_; refine wpl_load_row (o := ⟨some 204, _, _, _, _, _⟩) hashT.row rfl (.tmp 15) rfl rfl M.out.b (by simp [sl.out]) ?_)
                    | (with_reducible refine wpl_at 205 ?_; refine wpl_exec (o := ⟨some 205, _, _, _, _, _⟩) (v := .bool false) rfl ((exec_neq_ab hashT Try.underlying5 (by kernel_rfl) eg32 (.tmp 203) (.tmp 204) rfl rfl rfl sl.out sl.out).trans (by simp)) ?_)
                    | (with_reducible refine wpl_at 212 ?_; refine wpl_load_row (o := ⟨some 212, _, _, _, _, _⟩) hashT.row rfl (.tmp 21) rfl rfl B21.out (by simp [bl.out]) ?_)
                    | (with_reducible refine wpl_at 213 ?_; refine wpl_load_row (o := ⟨some 213, _, _, _, _, _⟩) hashT.row rfl (.tmp 23) rfl rfl B23.out (by simp [bl.out]) ?_)
                    | (with_reducible refine wpl_at 214 ?_; refine wpl_exec (o := ⟨some 214, _, _, _, _, _⟩) (v := .bool false) rfl ((exec_neq_ab hashT Try.underlying5 (by kernel_rfl) eg32 (.tmp 212) (.tmp 213) rfl rfl rfl bl.out bl.out).trans (by simp)) ?_))
                  go_roundg (l.length - (i + 1))
                  case measure => omega
                  case rel => exact ⟨i + 1, TS, RL, by omega, by omega, by go_num, hrl2, SIM.out, Lib.hid M.out.pm⟩
        | false =>
          have q4 := Ev.f4 RO.out.b9
          rw [hfg] at q4
          have ca := Lib.hid (fun u (P : PlM w u g r f ts rl) => P.addE hf o (by rw [SIM.out.len]; omega))
          have cr := Lib.hid (fun u (P : PlM w u g r f (addv f ts o.x) rl) => P.raddE hf o (by omega) SIM.out)
          replace SIM := Lib.hid (SIM.out.add o.x)
          have hrl2 : (if okv f ts o.x then rl ++ [o.x] else rl).length ≤ i + 1 := by
            split
            · simp; omega
            · omega
          have rab := Lib.hid (radd_built o)
          generalize (if okv f ts o.x then rl ++ [o.x] else rl) = RL at *
          generalize addv f ts o.x = TS at *
          generalize okv f ts o.x = ok at *
          go_wp2_with fail
          clear q4
          replace RO := Lib.hid (RO.out.kept (Kept.refl [] _).drew)
          replace M := Lib.hid (M.out.kept (Kept.refl [] _).drew)
          refine Txt.wp_textG [2, 4, 5, 6, 10, 12, 13, 14, 15] (Ro3 g9 g10 g11 o) [[_, _, _, _, _, _, _, _], [_, _, _, _, _, _, _, _], [_], [_]] (by kernel_rfl) (by kernel_rfl) rfl RO.out (Txt.segs_cons ?_)
          have q0 := Ev.f0 RO.out.b9
          have q1 := Ev.f1 RO.out.b9
          go_wp2_with (first
            | (with_reducible refine wpl_at 88 ?_; refine wpl_load_row (o := ⟨some 88, _, _, _, _, _⟩) hashT.row rfl (.tmp 10) rfl rfl RO.out.b10 (by simp [hv_len]) ?_)
            | (with_reducible refine wpl_at 89 ?_; refine wpl_load_row (o := ⟨some 89, _, _, _, _, _⟩) sigT.row rfl (.tmp 11) rfl rfl RO.out.b11 (by simp [sv_len]) ?_)
            | (go_at_call 8; (with_reducible refine (ca.out _ M.out).mono ?_); rintro e w10 ⟨rfl, p, kp⟩; have M2 := Lib.hid p; replace RO := Lib.hid (RO.out.kp kp); clear q1 q0; clear p kp M ca))
          refine ⟨rfl, RO.out, Txt.segs_cons ?_⟩
          have q0 := Ev.f0 RO.out.b9
          have q1 := Ev.f1 RO.out.b9
          go_wp2_with (first
            | (with_reducible refine wpl_at 96 ?_; refine wpl_load_row (o := ⟨some 96, _, _, _, _, _⟩) hashT.row rfl (.tmp 10) rfl rfl RO.out.b10 (by simp [hv_len]) ?_)
            | (with_reducible refine wpl_at 97 ?_; refine wpl_load_row (o := ⟨some 97, _, _, _, _, _⟩) sigT.row rfl (.tmp 11) rfl rfl RO.out.b11 (by simp [sv_len]) ?_)
            | (with_reducible refine wpl_at 98 ?_; refine wpl_build4 (o := ⟨some 98, _, _, _, _, _⟩) (v := .int .i64 o.fr) (u := .int .i64 o.vw) (v2 := ab (hv o.h)) (u2 := ab (sv o.s)) rfl 0 1 2 3 (.tmp 93) (.tmp 95) (.tmp 96) (.tmp 97) rfl rfl rfl rfl rfl rab.out ?_))
          refine ⟨rfl, RO.out, Txt.segs_cons ?_⟩
          clear q0 q1
          go_wp2_with (first
            | (go_at_call 14; (with_reducible refine (cr.out _ M2.out).mono ?_); rintro e w11 ⟨rfl, p, kp⟩; have M := Lib.hid p; replace RO := Lib.hid (RO.out.kp kp); clear p kp M2 cr))
          refine ⟨rfl, RO.out, Txt.segs_cons ?_⟩
          go_wp2_with fail
          refine ⟨rfl, RO.out, Txt.segs_nil ⟨⟨by kernel_rfl, ?_⟩, ?_⟩⟩
          · intro j hj o' ho hw
            have hj2 : j = 2 ∨ j = 4 ∨ j = 5 ∨ j = 6 ∨ j = 10 ∨ j = 12 ∨ j = 13 ∨ j = 14 ∨ j = 15 := by simpa using hj
            rcases hj2 with rfl | rfl | rfl | rfl | rfl | rfl | rfl | rfl | rfl <;> cases ho
            · exact ⟨_, rfl, fun u hu => exec_cell (.tmp 84) rfl flatI rfl (Ev.f0 hu.b9)⟩
            · exact ⟨_, rfl, fun u hu => exec_cell (.tmp 86) rfl flatI rfl (Ev.f1 hu.b9)⟩
            · exact ⟨_, rfl, fun u hu => exec_load hashT.row (.tmp 10) rfl rfl hu.b10 (by simp [hv_len])⟩
            · exact ⟨_, rfl, fun u hu => exec_load sigT.row (.tmp 11) rfl rfl hu.b11 (by simp [sv_len])⟩
            · exact ⟨_, rfl, fun u hu => exec_cell (.tmp 92) rfl flatI rfl (Ev.f0 hu.b9)⟩
            · exact ⟨_, rfl, fun u hu => exec_cell (.tmp 94) rfl flatI rfl (Ev.f1 hu.b9)⟩
            · exact ⟨_, rfl, fun u hu => exec_load hashT.row (.tmp 10) rfl rfl hu.b10 (by simp [hv_len])⟩
            · exact ⟨_, rfl, fun u hu => exec_load sigT.row (.tmp 11) rfl rfl hu.b11 (by simp [sv_len])⟩
            · exact ⟨_, rfl, fun u hu => exec_build4 0 1 2 3 (.tmp 93) (.tmp 95) (.tmp 96) (.tmp 97) rfl rfl rfl rfl rfl rab.out⟩
          go_wp2_with fail
          have hi0 := SIM.out.r
          obtain ⟨S, eS⟩ : ∃ S, saidv (ofv TS o.vw) (hv o.h) = S := ⟨_, rfl⟩
          have rS : rsh RL o.vw (hv o.h) (3 * f + 1) = S := (SIM.out.shares o.vw (hv o.h)).trans eS
          have cshs := Lib.hid (fun u (P : PlM w u g r f TS RL) => P.shs hf hi0 o.vw (hv_len o.h) eS)
          have crsh := Lib.hid (fun u (P : PlM w u g r f TS RL) => P.rshs hf o.vw (hv_len o.h) rS)
          have ccnt := Lib.hid (fun u (P : PlM w u g r f TS RL) => P.count hf hi0 o.vw (hv_len o.h) eS)
          have cful := Lib.hid (fun u (P : PlM w u g r f TS RL) => P.full hf hi0 o.vw (hv_len o.h) eS rfl)
          have csaid := Lib.hid (fun u (P : PlM w u g r f TS RL) => P.said hf hi0 o.fr o.vw (SIM.out.said o.fr o.vw).symm)
          have rlok : ∀ v ∈ RL, v.ok := by obtain ⟨v, vr, PI⟩ := M.out; exact PI.r.ok
          have cbest := Lib.hid (fun u (P : PlM w u g r f TS RL) => P.best hf hi0 o.vw rfl)
          have crbest := Lib.hid (fun u (P : PlM w u g r f TS RL) => P.rbest hf o.vw (SIM.out.best rlok o.vw))
          have bl := Lib.hid (bst_len32 SIM.out rlok o.vw)
          have sl := Lib.hid (lst_len rlok o.fr o.vw RL.length (Nat.le_refl _))
          have Sok : ∀ v ∈ S, v.ok := fun v hv => by rw [← eS] at hv; exact rlok v (SIM.out.p.mem_iff.1 (List.mem_filter.1 (List.mem_filter.1 hv).1).1)
          have SL : S.length ≤ 60 := by
            have h1 : S.length ≤ TS.length := by rw [← eS]; exact Nat.le_trans (List.length_filter_le _ _) (List.length_filter_le _ _)
            have h2 := SIM.out.len
            omega
          clear rS hi0 eS
          have hsb2 := Lib.hid hs_built
          have hnl := Lib.hid (show (noughts 32).length = 32 from by simp)
          have lst0 := Lib.hid (show lst RL o.fr o.vw 0 = (noughts 32, false) from rfl)
          generalize noughts 32 = HN at hsb2 hnl lst0
          generalize bst (ofv TS o.vw) (ofv TS o.vw).length = pb at *
          obtain ⟨bh, bn⟩ := pb
          simp only at bl cbest crbest
          replace RO := Lib.hid (RO.out.kept (Kept.refl [] _).drew)
          replace M := Lib.hid (M.out.kept (Kept.refl [] _).drew)
          replace Sok := Lib.hid Sok
          replace rlok := Lib.hid rlok
          refine Txt.wp_textG [2, 3, 7, 8] (Ro3 g9 g10 g11 o) [[_, _, _, _, _], [_, _, _, _, _], [_, _]] (by kernel_rfl) (by kernel_rfl) rfl RO.out (Txt.segs_cons ?_)
          have q1 := Ev.f1 RO.out.b9
          go_wp2_with (first
            | (with_reducible refine wpl_at 104 ?_; refine wpl_load_row (o := ⟨some 104, _, _, _, _, _⟩) hashT.row rfl (.tmp 10) rfl rfl RO.out.b10 (by simp [hv_len]) ?_)
            | (go_at_call 10; (with_reducible refine (cshs.out _ M.out).mono ?_); rintro e w12 ⟨A1, cx, rfl, x1, kk⟩; have X := Lib.hid x1; replace M := Lib.hid (M.out.kept kk); replace RO := Lib.hid (RO.out.kept kk); clear q1; clear x1 kk cshs))
          refine ⟨rfl, RO.out, Txt.segs_cons ?_⟩
          have q1 := Ev.f1 RO.out.b9
          go_wp2_with (first
            | (with_reducible refine wpl_at 109 ?_; refine wpl_load_row (o := ⟨some 109, _, _, _, _, _⟩) hashT.row rfl (.tmp 10) rfl rfl RO.out.b10 (by simp [hv_len]) ?_)
            | (go_at_call 15; (with_reducible refine (crsh.out _ M.out).mono ?_); rintro e w13 ⟨A2, cy, rfl, y1, kk⟩
               have CM := Lib.hid (show CmM w g r f TS RL g9 g10 g11 o (.slice A1 S.length cx) (.slice A2 S.length cy) S w13 from ⟨M.out.kept kk, RO.out.kept kk, X.out.kept0 kk, y1⟩)
               replace RO := Lib.hid (RO.out.kept kk)
               clear q1; clear y1 kk crsh X M))
          refine ⟨rfl, RO.out, Txt.segs_cons ?_⟩
          go_wp2_with fail
          refine ⟨rfl, RO.out, Txt.segs_nil ⟨⟨by kernel_rfl, ?_⟩, ?_⟩⟩
          · intro j hj o' ho hw
            have hj2 : j = 2 ∨ j = 3 ∨ j = 7 ∨ j = 8 := by simpa using hj
            rcases hj2 with rfl | rfl | rfl | rfl <;> cases ho
            · exact ⟨_, rfl, fun u hu => exec_cell (.tmp 102) rfl flatI rfl (Ev.f1 hu.b9)⟩
            · exact ⟨_, rfl, fun u hu => exec_load hashT.row (.tmp 10) rfl rfl hu.b10 (by simp [hv_len])⟩
            · exact ⟨_, rfl, fun u hu => exec_cell (.tmp 107) rfl flatI rfl (Ev.f1 hu.b9)⟩
            · exact ⟨_, rfl, fun u hu => exec_load hashT.row (.tmp 10) rfl rfl hu.b10 (by simp [hv_len])⟩
          clear RO
          have q1 := Ev.f1 CM.out.ro.b9
          go_wp2_with (first
            | (with_reducible refine wpl_at 120 ?_; refine wpl_load_row (o := ⟨some 120, _, _, _, _, _⟩) hashT.row rfl (.tmp 10) rfl rfl CM.out.ro.b10 (by simp [hv_len]) ?_)
            | (go_at_call 11; (with_reducible refine (ccnt.out _ CM.out.p).mono ?_); rintro e w14 ⟨rfl, kk⟩; replace CM := Lib.hid (CM.out.kept kk); clear q1; have q1 := Ev.f1 CM.out.ro.b9; clear kk ccnt)
            | (with_reducible refine wpl_at 130 ?_; refine wpl_load_row (o := ⟨some 130, _, _, _, _, _⟩) hashT.row rfl (.tmp 10) rfl rfl CM.out.ro.b10 (by simp [hv_len]) ?_)
            | (go_at_call 16; (with_reducible refine (cful.out _ CM.out.p).mono ?_); rintro e w15 ⟨rfl, kk⟩; replace CM := Lib.hid (CM.out.kept kk); clear q1; clear kk cful))
          go_loopg [142] S.length (fun fu i' wk => ∃ t : Nat, t ≤ S.length ∧ fu + t = S.length ∧ i' = .int .i64 (t : Int) ∧ Hid (CmM w g r f TS RL g9 g10 g11 o (.slice A1 S.length cx) (.slice A2 S.length cy) S wk))
          case atStart => exact ⟨0, by omega, by omega, rfl, CM⟩
          case round =>
            clear CM
            obtain ⟨t, ht, hft, rfl, CM⟩ := hrel
            by_cases hltt : t < S.length
            · have hlttt : (t : Int) < S.length := by omega
              obtain ⟨gx, ox, cx2, hvx', hcl1, hcl2⟩ := CM.out.x.at_ (by omega)
              clear hcl1 hcl2
              obtain rfl : A1 = some ⟨gx, ox, none⟩ := by cases hvx'; rfl
              clear hvx'
              obtain ⟨gy, oy, cy2, hvy', hcl1, hcl2⟩ := CM.out.y.at_ (by omega)
              clear hcl1 hcl2
              obtain rfl : A2 = some ⟨gy, oy, none⟩ := by cases hvy'; rfl
              clear hvy'
              have rx := Lib.hid (fun u (h : CmM w g r f TS RL g9 g10 g11 o (.slice (some ⟨gx, ox, none⟩) S.length cx) (.slice (some ⟨gy, oy, none⟩) S.length cy) S u) => share_rng h.x Sok.out hltt)
              have ry := Lib.hid (fun u (h : CmM w g r f TS RL g9 g10 g11 o (.slice (some ⟨gx, ox, none⟩) S.length cx) (.slice (some ⟨gy, oy, none⟩) S.length cy) S u) => share_rng h.y Sok.out hltt)
              have yok := Lib.hid (Sok.out _ (List.getElem_mem hltt))
              generalize S[t] = y at *
              have ysl := Lib.hid yok.out.2
              have ylen := Lib.hid (shc_len yok.out)
              go_wp2_with fail
              replace CM := Lib.hid (CM.out.kept (Kept.refl [] _).drew)
              refine Txt.wp_textG [3, 7, 8] (CmM w g r f TS RL g9 g10 g11 o (.slice (some ⟨gx, ox, none⟩) S.length cx) (.slice (some ⟨gy, oy, none⟩) S.length cy) S) [[_, _, _, _, _, _, _, _, _]] (by kernel_rfl) (by kernel_rfl) rfl CM.out (Txt.segs_cons ?_)
              go_wp2_with (first
                | (with_reducible refine wpl_at 148 ?_; refine wpl_loadp (o := ⟨some 148, _, _, _, _, _⟩) shareR rfl (.tmp 147) rfl rfl (rx.out _ CM.out) ylen.out ?_)
                | (with_reducible refine wpl_at 152 ?_; refine wpl_loadp (o := ⟨some 152, _, _, _, _, _⟩) shareR rfl (.tmp 151) rfl rfl (ry.out _ CM.out) ylen.out ?_)
                | (with_reducible refine wpl_at 153 ?_; refine wpl_exec (o := ⟨some 153, _, _, _, _, _⟩) (v := .bool false) rfl (exec_neq_share (.tmp 148) (.tmp 152) rfl y ysl.out rfl rfl) ?_))
              refine ⟨rfl, CM.out, Txt.segs_nil ⟨⟨by kernel_rfl, ?_⟩, ?_⟩⟩
              · intro j hj o' ho hw
                have hj2 : j = 3 ∨ j = 7 ∨ j = 8 := by simpa using hj
                rcases hj2 with rfl | rfl | rfl <;> cases ho
                · exact ⟨_, rfl, fun u hu => exec_loadp shareR (.tmp 147) rfl rfl (rx.out _ hu) ylen.out⟩
                · exact ⟨_, rfl, fun u hu => exec_loadp shareR (.tmp 151) rfl rfl (ry.out _ hu) ylen.out⟩
                · exact ⟨_, rfl, fun u hu => exec_neq_share (.tmp 148) (.tmp 152) rfl y ysl.out rfl rfl⟩
              go_wp2_with fail
              go_roundg (S.length - (t + 1))
              case measure => omega
              case rel => exact ⟨t + 1, by omega, by omega, by go_num, CM⟩
            · obtain rfl : t = S.length := by omega
              have nlt2 : ¬ ((S.length : Nat) : Int) < (S.length : Nat) := by omega
              obtain ⟨v0, vr, PI⟩ := CM.out.p
              obtain ⟨Ar, cr, rfl, _⟩ := PI.r.o.shape
              have q1 := PI.r.f1
              have hrl6 := PI.r.n
              replace PI := Lib.hid PI
              go_wp2_with (first
                | (with_reducible refine wpl_at 155 ?_; refine wpl_build0 (o := ⟨some 155, _, _, _, _, _⟩) rfl rfl hsb2.out ?_)
                | ((with_reducible refine wpl_new (o := ⟨some 15, _, _, _, _, _⟩) rfl rfl hz.out ?_); intro g15 w15 m15
                   refine wpl_store_row (o := ⟨none, Op.store 30 (.tmp 15) (.tmp 155), _, _, _, _⟩) hashT.row rfl (.tmp 15) (.tmp 155) rfl rfl rfl m15.blk rfl (by simp [hnl.out]) (one_ab _) ?_; intro wb b15 k15
                   have kk := m15.kept.then1 k15 m15.le
                   have M := Lib.hid (show SdM w g r f TS RL v0 (.slice Ar RL.length cr) g9 g10 g11 o g15 HN wb from ⟨PI.out.kept kk, CM.out.ro.kept kk, b15, Nat.le_trans PI.out.k.size m15.le, by have := CM.out.ro.b10.lt; have := m15.le; omega⟩)
                   clear q1; have q1 := M.out.p.r.f1
                   clear m15 b15 k15 kk PI CM))
              clear q1 nlt2
              go_loopg [16, 161] RL.length (fun fu s i' wk => ∃ k : Nat, k ≤ RL.length ∧ fu + k = RL.length ∧ i' = .int .i64 (k : Int) ∧ s = .bool (lst RL o.fr o.vw k).2 ∧ Hid (SdM w g r f TS RL v0 (.slice Ar RL.length cr) g9 g10 g11 o g15 (lst RL o.fr o.vw k).1 wk))
              case atStart =>
                refine ⟨0, by omega, by omega, rfl, ?_⟩
                rw [lst0.out]
                exact ⟨rfl, M⟩
              case round =>
                clear M
                obtain ⟨k, hk, hfk, rfl, rfl, M⟩ := hrel
                by_cases hlt3 : k < RL.length
                · have hlt3i : (k : Int) < RL.length := by omega
                  obtain ⟨gb, ob, cb, hv2, _⟩ := vote_at (Rd.of_ow M.out.p.r.o) rlok.out hlt3
                  obtain rfl : Ar = some ⟨gb, ob, none⟩ := by cases hv2; rfl
                  clear hv2
                  have hra := Lib.hid (fun u (oo : Ow u 51 98 (.slice (some ⟨gb, ob, none⟩) RL.length cr) RL.length (vcs RL)) => vote_rng (Rd.of_ow oo) rlok.out hlt3)
                  have es := Lib.hid (lst_succ hlt3 o.fr o.vw)
                  have pl := Lib.hid (lst_len rlok.out o.fr o.vw k hk)
                  have yok := Lib.hid (rlok.out _ (List.getElem_mem hlt3))
                  generalize lst RL o.fr o.vw k = p at *
                  obtain ⟨hs, sb⟩ := p
                  simp only at pl M
                  generalize RL[k] = y at *
                  have ly := Lib.hid (Vt.len yok.out)
                  have yh := Lib.hid yok.out.1
                  by_cases e1 : y.fr = o.fr
                  · by_cases e2 : y.vw = o.vw
                    · have e4 := Lib.hid (show lst RL o.fr o.vw (k + 1) = (y.h, true) from by rw [es.out, if_pos ⟨e1, e2⟩])
                      have E1 := Lib.hid e1
                      have E2 := Lib.hid e2
                      clear e1 e2 es
                      try clear nsaid; try clear nbest; try clear ncount; try clear nfull; try clear nadd; try clear nshs; try clear hsb; try clear sgb; try clear h32l; try clear hsb2; try clear hnl; try clear lst0; try clear csaid; try clear cbest; try clear crbest; try clear bl; try clear sl; try clear c0; try clear cn; try clear rb; try clear hs'; try clear hra2; try clear SIM; try clear Sok; try clear hz; try clear hx; try clear hfg; try clear SL; try clear hi; try clear hlti; try clear hrl; try clear hrl2; try clear h60; try clear h60i; try clear hlt; try clear q0; try clear q1; try clear hcs; try clear rab
                      go_wp2_with (first
                        | ((with_reducible refine wpl_at 164 ?_; refine wpl_loadp (o := ⟨some 164, _, _, _, _, _⟩) rvoteR rfl (.tmp 163) rfl rfl (hra.out _ M.out.p.r.o) ly.out ?_))
                        | ((with_reducible refine wpl_new (o := ⟨some 18, _, _, _, _, _⟩) rfl rfl rvz_info ?_); intro g18 w18 m18)
                        | ((with_reducible refine wpl_sat (.tmp 18) (.tmp 164) ?_); (refine wpl_store_row (o := ⟨none, Op.store 51 (.tmp 18) (.tmp 164), _, _, _, _⟩) rvoteR rfl (.tmp 18) (.tmp 164) rfl rfl rfl m18.blk rfl (by simpa using ly.out) (by rw [Array.all_eq_true_iff_forall_mem]; intro u hu; exact one_vc y u (by simpa using hu)) ?_); intro w8 b18 k18
                           replace M := Lib.hid (M.out.kept (m18.kept.then1 k18 m18.le))
                           have q6 := Vt.f0 b18
                           have q7 := Vt.f1 b18
                           have q8 := Ev.f0 M.out.ro.b9
                           have q9 := Ev.f1 M.out.ro.b9
                           rw [E1.out] at q6; rw [E2.out] at q7
                           replace b18 := Lib.hid b18
                           clear m18 k18)
                        | ((with_reducible refine wpl_at 178 ?_; refine wpl_loadp (o := ⟨some 178, _, _, _, _, _⟩) hashT.row rfl (.tmp 177) rfl rfl (Vt.hr b18.out) (by simp [yh.out]) ?_))
                        | ((with_reducible refine wpl_sat (.tmp 15) (.tmp 178) ?_); (refine wpl_store_row (o := ⟨none, Op.store 30 (.tmp 15) (.tmp 178), _, _, _, _⟩) hashT.row rfl (.tmp 15) (.tmp 178) rfl rfl rfl M.out.b (by simp [pl.out]) (by simp [yh.out]) (one_ab _) ?_); intro w7 b7 k7
                           replace M := Lib.hid (M.out.put b7 k7)
                           clear b7 k7))
                      go_roundg (RL.length - (k + 1))
                      case measure => omega
                      case rel =>
                        refine ⟨k + 1, by omega, by omega, by go_num, ?_⟩
                        rw [e4.out]
                        exact ⟨rfl, M⟩
                    · have e4 := Lib.hid (show lst RL o.fr o.vw (k + 1) = (hs, sb) from by rw [es.out, if_neg (fun h => e2 h.2)])
                      have E1 := Lib.hid e1
                      have n2 := Lib.hid e2
                      clear e1 e2 es
                      try clear nsaid; try clear nbest; try clear ncount; try clear nfull; try clear nadd; try clear nshs; try clear hsb; try clear sgb; try clear h32l; try clear hsb2; try clear hnl; try clear lst0; try clear csaid; try clear cbest; try clear crbest; try clear bl; try clear sl; try clear c0; try clear cn; try clear rb; try clear hs'; try clear hra2; try clear SIM; try clear Sok; try clear hz; try clear hx; try clear hfg; try clear SL; try clear hi; try clear hlti; try clear hrl; try clear hrl2; try clear h60; try clear h60i; try clear hlt; try clear q0; try clear q1; try clear hcs; try clear rab
                      go_wp2_with (first
                        | ((with_reducible refine wpl_at 164 ?_; refine wpl_loadp (o := ⟨some 164, _, _, _, _, _⟩) rvoteR rfl (.tmp 163) rfl rfl (hra.out _ M.out.p.r.o) ly.out ?_))
                        | ((with_reducible refine wpl_new (o := ⟨some 18, _, _, _, _, _⟩) rfl rfl rvz_info ?_); intro g18 w18 m18)
                        | ((with_reducible refine wpl_sat (.tmp 18) (.tmp 164) ?_); (refine wpl_store_row (o := ⟨none, Op.store 51 (.tmp 18) (.tmp 164), _, _, _, _⟩) rvoteR rfl (.tmp 18) (.tmp 164) rfl rfl rfl m18.blk rfl (by simpa using ly.out) (by rw [Array.all_eq_true_iff_forall_mem]; intro u hu; exact one_vc y u (by simpa using hu)) ?_); intro w8 b18 k18
                           replace M := Lib.hid (M.out.kept (m18.kept.then1 k18 m18.le))
                           have q6 := Vt.f0 b18
                           have q7 := Vt.f1 b18
                           have q8 := Ev.f0 M.out.ro.b9
                           have q9 := Ev.f1 M.out.ro.b9
                           rw [E1.out] at q6
                           replace b18 := Lib.hid b18
                           clear m18 k18)
                        | (with_reducible refine wpl_at 175 ?_; refine wpl_exec (o := ⟨some 175, _, _, _, _, _⟩) (v := .bool false) rfl (exec_eql_int (i := y.vw) (j := o.vw) (.tmp 172) (.tmp 174) rfl rfl rfl n2.out) ?_))
                      go_roundg (RL.length - (k + 1))
                      case measure => omega
                      case rel =>
                        refine ⟨k + 1, by omega, by omega, by go_num, ?_⟩
                        rw [e4.out]
                        exact ⟨rfl, M⟩
                  · have e4 := Lib.hid (show lst RL o.fr o.vw (k + 1) = (hs, sb) from by rw [es.out, if_neg (fun h => e1 h.1)])
                    have n1 : ¬ y.fr = o.fr := e1
                    clear e1 es
                    try clear nsaid; try clear nbest; try clear ncount; try clear nfull; try clear nadd; try clear nshs; try clear hsb; try clear sgb; try clear h32l; try clear hsb2; try clear hnl; try clear lst0; try clear csaid; try clear cbest; try clear crbest; try clear bl; try clear sl; try clear c0; try clear cn; try clear rb; try clear hs'; try clear hra2; try clear SIM; try clear Sok; try clear hz; try clear hx; try clear hfg; try clear SL; try clear hi; try clear hlti; try clear hrl; try clear hrl2; try clear h60; try clear h60i; try clear hlt; try clear q0; try clear q1; try clear hcs; try clear rab
                    go_wp2_with (first
                      | ((with_reducible refine wpl_at 164 ?_; refine wpl_loadp (o := ⟨some 164, _, _, _, _, _⟩) rvoteR rfl (.tmp 163) rfl rfl (hra.out _ M.out.p.r.o) ly.out ?_))
                      | ((with_reducible refine wpl_new (o := ⟨some 18, _, _, _, _, _⟩) rfl rfl rvz_info ?_); intro g18 w18 m18)
                      | ((with_reducible refine wpl_sat (.tmp 18) (.tmp 164) ?_); (refine wpl_store_row (o := ⟨none, Op.store 51 (.tmp 18) (.tmp 164), _, _, _, _⟩) rvoteR rfl (.tmp 18) (.tmp 164) rfl rfl rfl m18.blk rfl (by simpa using ly.out) (by rw [Array.all_eq_true_iff_forall_mem]; intro u hu; exact one_vc y u (by simpa using hu)) ?_); intro w8 b18 k18
                         replace M := Lib.hid (M.out.kept (m18.kept.then1 k18 m18.le))
                         have q6 := Vt.f0 b18
                         have q7 := Vt.f1 b18
                         have q8 := Ev.f0 M.out.ro.b9
                         have q9 := Ev.f1 M.out.ro.b9
                         clear q7 q9
                         replace b18 := Lib.hid b18
                         clear m18 k18))
                    go_roundg (RL.length - (k + 1))
                    case measure => omega
                    case rel =>
                      refine ⟨k + 1, by omega, by omega, by go_num, ?_⟩
                      rw [e4.out]
                      exact ⟨rfl, M⟩
                · obtain rfl : k = RL.length := by omega
                  have nlt3 : ¬ ((RL.length : Nat) : Int) < (RL.length : Nat) := by omega
                  generalize lst RL o.fr o.vw RL.length = pz at *
                  obtain ⟨sh, sb⟩ := pz
                  simp only at sl csaid M
                  have q0 := Ev.f0 M.out.ro.b9
                  have q1 := Ev.f1 M.out.ro.b9
                  go_wp2_with (first
                    | (go_at_call 17; (with_reducible refine (csaid.out _ M.out.pm).mono ?_); rintro e w16 ⟨rfl, kk⟩; replace M := Lib.hid (M.out.kept kk); clear q0 q1; clear kk csaid)
                    | ((with_reducible refine wpl_new (o := ⟨some 19, _, _, _, _, _⟩) rfl rfl hz.out ?_); intro g19 w19 m19
                       refine wpl_store_row (o := ⟨none, Op.store 30 (.tmp 19) (.tmp 187), _, _, _, _⟩) hashT.row rfl (.tmp 19) (.tmp 187) rfl rfl rfl m19.blk rfl (by simp [sl.out]) (one_ab _) ?_; intro wb b19 k19
                       have kk := m19.kept.then1 k19 m19.le
                       have B19 := Lib.hid b19
                       replace M := Lib.hid (M.out.kept kk)
                       have q1 := Ev.f1 M.out.ro.b9
                       clear m19 b19 k19 kk)
                    | (go_at_call 9; (with_reducible refine (cbest.out _ M.out.pm).mono ?_); rintro e w17 ⟨rfl, kk⟩; replace M := Lib.hid (M.out.kept kk); replace B19 := Lib.hid (B19.out.kept kk (by simp)); clear q1; clear kk cbest)
                    | ((with_reducible refine wpl_new (o := ⟨some 21, _, _, _, _, _⟩) rfl rfl hz.out ?_); intro g21 w21 m21
                       refine wpl_store_row (o := ⟨none, Op.store 30 (.tmp 21) (.tmp 194), _, _, _, _⟩) hashT.row rfl (.tmp 21) (.tmp 194) rfl rfl rfl m21.blk rfl (by simp [bl.out]) (one_ab _) ?_; intro wb b21 k21
                       have kk := m21.kept.then1 k21 m21.le
                       have B21 := Lib.hid b21
                       replace M := Lib.hid (M.out.kept kk)
                       replace B19 := Lib.hid (B19.out.kept kk (by simp))
                       have q1 := Ev.f1 M.out.ro.b9
                       clear m21 b21 k21 kk)
                    | (go_at_call 18; (with_reducible refine (crbest.out _ M.out.pm).mono ?_); rintro e w18 ⟨rfl, kk⟩; replace M := Lib.hid (M.out.kept kk); replace B19 := Lib.hid (B19.out.kept kk (by simp)); replace B21 := Lib.hid (B21.out.kept kk (by simp)); clear q1; clear kk crbest)
                    | ((with_reducible refine wpl_new (o := ⟨some 23, _, _, _, _, _⟩) rfl rfl hz.out ?_); intro g23 w23 m23
                       refine wpl_store_row (o := ⟨none, Op.store 30 (.tmp 23) (.tmp 201), _, _, _, _⟩) hashT.row rfl (.tmp 23) (.tmp 201) rfl rfl rfl m23.blk rfl (by simp [bl.out]) (one_ab _) ?_; intro wb b23 k23
                       have kk := m23.kept.then1 k23 m23.le
                       have B23 := Lib.hid b23
                       replace M := Lib.hid (M.out.kept kk)
                       replace B19 := Lib.hid (B19.out.kept kk (by simp)); replace B21 := Lib.hid (B21.out.kept kk (by simp))
                       clear m23 b23 k23 kk)
                    | (with_reducible refine wpl_at 203 ?_; refine wpl_load_row (o := ⟨some 203, _, _, _, _, _⟩) hashT.row rfl (.tmp 19) rfl rfl B19.out (by simp [sl.out]) ?_)
                    | (with_reducible refine wpl_at 204 ?_; refine wpl_load_row (o := ⟨some 204, _, _, _, _, _⟩) hashT.row rfl (.tmp 15) rfl rfl M.out.b (by simp [sl.out]) ?_)
                    | (with_reducible refine wpl_at 205 ?_; refine wpl_exec (o := ⟨some 205, _, _, _, _, _⟩) (v := .bool false) rfl ((exec_neq_ab hashT Try.underlying5 (by kernel_rfl) eg32 (.tmp 203) (.tmp 204) rfl rfl rfl sl.out sl.out).trans (by simp)) ?_)
                    | (with_reducible refine wpl_at 212 ?_; refine wpl_load_row (o := ⟨some 212, _, _, _, _, _⟩) hashT.row rfl (.tmp 21) rfl rfl B21.out (by simp [bl.out]) ?_)
                    | (with_reducible refine wpl_at 213 ?_; refine wpl_load_row (o := ⟨some 213, _, _, _, _, _⟩) hashT.row rfl (.tmp 23) rfl rfl B23.out (by simp [bl.out]) ?_)
                    | (with_reducible refine wpl_at 214 ?_; refine wpl_exec (o := ⟨some 214, _, _, _, _, _⟩) (v := .bool false) rfl ((exec_neq_ab hashT Try.underlying5 (by kernel_rfl) eg32 (.tmp 212) (.tmp 213) rfl rfl rfl bl.out bl.out).trans (by simp)) ?_))
                  go_roundg (l.length - (i + 1))
                  case measure => omega
                  case rel => exact ⟨i + 1, TS, RL, by omega, by omega, by go_num, hrl2, SIM.out, Lib.hid M.out.pm⟩
    · have hlti : ¬ (i : Int) < l.length := by omega
      have K := Lib.hid M.out.k
      generalize noughts 32 = H32 at hsb nsaid nbest ncount nfull nadd nshs h32l
      generalize noughts 64 = H64 at sgb nadd
      go_wp2_with (first
        | (go_at_call 12; (with_reducible refine (forget_nil 3 _).mono ?_); rintro e w2 ⟨rfl, kk⟩; replace K := Lib.hid (K.out.then0 kk); clear kk)
        | (go_at_call 17; (with_reducible refine (nsaid.out _).mono ?_); rintro e w2 ⟨rfl, kk⟩; replace K := Lib.hid (K.out.then0 kk); clear kk)
        | ((with_reducible refine wpl_new (o := ⟨some 26, _, _, _, _, _⟩) rfl rfl hz.out ?_); intro g26 w3 m26
           refine wpl_store_row (o := ⟨none, Op.store 30 (.tmp 26) (.tmp 227), _, _, _, _⟩) hashT.row rfl (.tmp 26) (.tmp 227) rfl rfl rfl m26.blk rfl (by simp [h32l.out]) (one_ab _) ?_; intro w4 b26 k26
           replace K := Lib.hid (K.out.then0 (m26.kept.then1 k26 m26.le))
           clear m26 b26 k26)
        | (go_at_call 9; (with_reducible refine (nbest.out _).mono ?_); rintro e w2 ⟨rfl, kk⟩; replace K := Lib.hid (K.out.then0 kk); clear kk)
        | ((with_reducible refine wpl_new (o := ⟨some 28, _, _, _, _, _⟩) rfl rfl hz.out ?_); intro g28 w3 m28
           refine wpl_store_row (o := ⟨none, Op.store 30 (.tmp 28) (.tmp 232), _, _, _, _⟩) hashT.row rfl (.tmp 28) (.tmp 232) rfl rfl rfl m28.blk rfl (by simp [h32l.out]) (one_ab _) ?_; intro w4 b28 k28
           replace K := Lib.hid (K.out.then0 (m28.kept.then1 k28 m28.le))
           clear m28 b28 k28)
        | (with_reducible refine wpl_at 235 ?_; refine wpl_build0 (o := ⟨some 235, _, _, _, _, _⟩) rfl rfl hsb.out ?_)
        | (with_reducible refine wpl_at 236 ?_; refine wpl_build0 (o := ⟨some 236, _, _, _, _, _⟩) rfl rfl sgb.out ?_)
        | (go_at_call 8; (with_reducible refine (nadd.out _).mono ?_); rintro e w2 ⟨rfl, kk⟩; replace K := Lib.hid (K.out.then0 kk); clear kk)
        | (with_reducible refine wpl_at 241 ?_; refine wpl_build0 (o := ⟨some 241, _, _, _, _, _⟩) rfl rfl hsb.out ?_)
        | (go_at_call 16; (with_reducible refine (nfull.out _).mono ?_); rintro e w2 ⟨rfl, kk⟩; replace K := Lib.hid (K.out.then0 kk); clear kk)
        | (with_reducible refine wpl_at 247 ?_; refine wpl_build0 (o := ⟨some 247, _, _, _, _, _⟩) rfl rfl hsb.out ?_)
        | (go_at_call 11; (with_reducible refine (ncount.out _).mono ?_); rintro e w2 ⟨rfl, kk⟩; replace K := Lib.hid (K.out.then0 kk); clear kk)
        | (with_reducible refine wpl_at 253 ?_; refine wpl_build0 (o := ⟨some 253, _, _, _, _, _⟩) rfl rfl hsb.out ?_)
        | (go_at_call 10; (with_reducible refine (nshs.out _).mono ?_); rintro e w2 ⟨A9, c9, rfl, kk⟩; replace K := Lib.hid (K.out.then0 kk); clear kk))
      go_ret
      exact ⟨rfl, K.out⟩
end Go.Proofs.Ythffkgnbgncfaaa
