/-
  Field's laws: long rows stay right (FieldRows).
-/
import Derived.Test.YthmpdhegodmjjaaFl1
namespace Go.Proofs.Ythmpdhegodmjjaa
open Go.RowKit Go.Mem Go.Txt

theorem enters_add (xs : Array Value) (w : World) : (callFunc 13 xs).run Try.prog w = .ok (.enter 13 xs) w := enters_of (c := _) Try.func13 (by kernel_rfl) rfl xs w
theorem enters_sub (xs : Array Value) (w : World) : (callFunc 16 xs).run Try.prog w = .ok (.enter 16 xs) w := enters_of (c := _) Try.func16 (by kernel_rfl) rfl xs w
theorem Mm.put1 {w0 : World} {g7 g8 g9 : Nat} {X Y U V : Nat → Nat} {u u' : World} (h : Mm w0 [] [(g7, X), (g8, Y), (g9, U)] [] u) (hn : g7 ≠ g9 ∧ g8 ≠ g9 ∧ w0.heap.size ≤ g9) (b : Blk u' g9 27 (uv (fam 5 V)).toArray) (hk : Kept [g9] u u') : Mm w0 [] [(g7, X), (g8, Y), (g9, V)] [] u' :=
  ((Mm.econs (Mm.econs (Mm.econs ⟨fun _ h => absurd h (by simp), fun _ h => absurd h (by simp), fun _ h => absurd h (by simp), h.k.then1 hk hn.2.2⟩ b) ((h.e (g8, Y) (by simp)).kept hk (by simpa using hn.2.1))) ((h.e (g7, X) (by simp)).kept hk (by simpa using hn.1))))

set_option maxRecDepth 100000 in
set_option maxHeartbeats 1600000 in
theorem rows_walk (a b : List UInt8) (v : Value) (bs : List UInt8) (w : World) (ha : a.length = 32) (hb : b.length = 32) (rd : Rd w 1 v bs.length (bv bs)) (bd : bs.length ≤ 9223372036854775807) :
    Calls Try.prog 9 #[ab a, ab b, v] w fun e w' => e = .returned (.bool true) ∧ Kept [] w w' := by
  have iX := in_any a ha
  have iY := in_any b hb
  have rX := Lib.hid (in_rep a)
  have rY := Lib.hid (in_rep b)
  generalize inF a = X, inF b = Y, inV a = x, inV b = y at *
  have hl := Lib.hid (And.intro (show (bv a).length = 32 by simp [ha]) (show (bv b).length = 32 by simp [hb]))
  clear ha hb
  have hr2 := Lib.hid rd
  obtain ⟨A, c, rfl, _, _, _⟩ := rd
  replace iX := Lib.hid iX
  replace iY := Lib.hid iY
  go_enter Try.func9, Try.ntmps9
  go_wp2_with (first
    | ((with_reducible refine wpl_box (o := ⟨some 3, _, _, _, _, _⟩) (v := ab a) rfl (.tmp 0) rfl rfl ?_); intro g3 w1 m1)
    | ((with_reducible refine wpl_box (o := ⟨some 4, _, _, _, _, _⟩) (v := ab b) rfl (.tmp 1) rfl rfl ?_); intro g4 w2 m2)
    | (go_at_call 11; refine (first_true _).mono ?_; rintro e w5 ⟨rfl, kk4⟩))
  have t := Lib.hid (show Mm w [(g4, b), (g3, a)] [] [] w5 from ((((Mm.none w).kept m1.kept).bcons m1.blk).kept m2.kept |>.bcons m2.blk).kept kk4)
  clear m1 m2 kk4
  refine wp_multi (by kernel_rfl) [.val (ab a), .val (el X), .val (ab b), .val (el Y), .new 27 (el nought), .new 27 (el nought), .put 4 1 (uv (fam 5 X)).toArray, .put 5 3 (uv (fam 5 Y)).toArray]
    (Mm w [(g4, b), (g3, a)] [] []) (by kernel_rfl) (by kernel_rfl) t.out.drew (fun u u' T hS hk hT => ?_) ?_ ?_
  · exact t.out.fresh u u' T hS hk hT
  · refine ⟨?_, ?_, ?_, ?_, ⟨⟨_, rfl⟩, rfl, zeroEl⟩, ⟨⟨_, rfl⟩, rfl, zeroEl⟩, ?_, ?_, trivial⟩
    · refine ⟨⟨_, rfl⟩, fun a' u K0 R hS hr ho h => ?_⟩
      exact wp_loadr arrB.row (.tmp 3) rfl ((ho 3 (by decide)).trans rfl) (hS.b (g3, a) (by simp)) hl.out.1 (h u (Kept.refl _ _))
    · refine ⟨⟨_, rfl⟩, fun a' u K0 R hS hr ho h => ?_⟩
      refine wp_callf rfl enters_in (vs := #[ab a]) ?_ (iX.out u) h
      have := hr 0 (ab a) 15 _ rfl rfl rfl ⟨⟨0, .data⟩, by simp, rfl, rfl⟩
      simpa [Act.eval] using this
    · refine ⟨⟨_, rfl⟩, fun a' u K0 R hS hr ho h => ?_⟩
      exact wp_loadr arrB.row (.tmp 4) rfl ((ho 4 (by decide)).trans rfl) (hS.b (g4, b) (by simp)) hl.out.2 (h u (Kept.refl _ _))
    · refine ⟨⟨_, rfl⟩, fun a' u K0 R hS hr ho h => ?_⟩
      refine wp_callf rfl enters_in (vs := #[ab b]) ?_ (iY.out u) h
      have := hr 2 (ab b) 17 _ rfl rfl rfl ⟨⟨2, .data⟩, by simp, rfl, rfl⟩
      simpa [Act.eval] using this
    · exact ⟨rfl, ⟨⟨4, .data⟩, by simp, rfl, rfl⟩, ⟨⟨1, .data⟩, by simp, rfl, rfl⟩, _, _, _, _, _, _, _, _, rfl, rfl, rfl, rfl, rfl, rfl, rfl, structEl, rfl, rfl, one_el _⟩
    · exact ⟨rfl, ⟨⟨5, .data⟩, by simp, rfl, rfl⟩, ⟨⟨3, .data⟩, by simp, rfl, rfl⟩, _, _, _, _, _, _, _, _, rfl, rfl, rfl, rfl, rfl, rfl, rfl, structEl, rfl, rfl, one_el _⟩
  · intro γ w6 hS hγ hne hput
    have b7 := hput 6 4 1 _ _ _ rfl rfl
    have b8 := hput 7 5 3 _ _ _ rfl rfl
    generalize e7 : γ 4 = g7 at *
    generalize e8 : γ 5 = g8 at *
    simp [actOf, VK, List.range, List.range.loop, Act.put, e7, e8]
    replace t := Lib.hid (show Mm w [(g4, b), (g3, a)] [(g7, X), (g8, Y)] [] w6 from ((hS).econs b8).econs b7)
    clear b7 b8 hput hne hγ hS e7 e8
    have tt := Lib.hid (show Mm w [] [(g7, X), (g8, Y)] [] w6 from ⟨fun _ h => absurd h (by simp), t.out.e, fun _ h => absurd h (by simp), t.out.k⟩)
    clear t
    go_wp2_with (first
      | (with_reducible refine wpl_load_row (o := ⟨some 19, _, _, _, _, _⟩) structEl rfl (.tmp 7) rfl rfl (tt.out.e (g7, X) (by simp)) rfl ?_)
      | ((with_reducible refine wpl_new (o := ⟨some 9, _, _, _, _, _⟩) rfl rfl zeroEl ?_); intro g9 x9 m9)
      | ((with_reducible refine wpl_store_row (o := ⟨none, .store 27 (.tmp 9) (.tmp 19), _, _, _, _⟩) structEl rfl (.tmp 9) (.tmp 19) rfl rfl rfl m9.blk rfl rfl (one_el _) ?_); intro v9 b9 k9))
    have hn := Lib.hid (show g7 ≠ g9 ∧ g8 ≠ g9 ∧ w.heap.size ≤ g9 from ⟨m9.ne (tt.out.e (g7, X) (by simp)).lt, m9.ne (tt.out.e (g8, Y) (by simp)).lt, Nat.le_trans tt.out.k.size m9.le⟩)
    have t0 := Lib.hid (show Mm w [] [(g7, X), (g8, Y), (g9, X)] [] v9 from
      ((Mm.econs (Mm.econs (Mm.econs ⟨fun _ h => absurd h (by simp), fun _ h => absurd h (by simp), fun _ h => absurd h (by simp), (tt.out.kept m9.kept).k.then1 k9 hn.out.2.2⟩ b9) (((tt.out.kept m9.kept).e (g8, Y) (by simp)).kept k9 (by simpa using hn.out.2.1))) (((tt.out.kept m9.kept).e (g7, X) (by simp)).kept k9 (by simpa using hn.out.1)))))
    clear tt m9 b9 k9
    go_loopg [22, 10] bs.length (fun f i n wk => ∃ k : Nat, k ≤ bs.length ∧ f + k = bs.length ∧ i = .int .i64 k ∧ n = .int .u64 k ∧ k ≤ 200 ∧ ∃ U, Rep U (x + k * y) ∧ Mm w [] [(g7, X), (g8, Y), (g9, U)] [] wk)
    case atStart => exact ⟨0, Nat.zero_le _, rfl, rfl, rfl, by omega, X, by rw [Nat.zero_mul]; exact rX.out, t0.out⟩
    case round =>
      obtain ⟨k, hk, hf, rfl, rfl, hk2, U, hU, ht⟩ := hrel
      have rU := Lib.hid hU
      have t := Lib.hid ht
      clear hU ht
      by_cases hlt : k < bs.length
      · by_cases hlt2 : k < 200
        · obtain ⟨xb, xo, xc, hxe, _, hcell⟩ := (hr2.out.kept0 t.out.k).at_ (by omega)
          cases hxe
          have c0 := hcell k (byteV bs[k]) (by simp [hlt])
          unfold byteV at c0
          have b0 := UInt8.toNat_lt bs[k]
          generalize (bs[k]).toNat = ov at *
          clear hcell
          by_cases hpar : ov % 2 = 0
          · have hp : ((ov : Nat) : Int) % 2 = 0 := by omega
            have cA := Lib.hid (ad_c rU.out rY.out)
            have rV := Lib.hid ((rU.out.ad rY.out).to (y := x + (k + 1) * y) (congrArg (· % PP) (by grind)))
            go_wp2_with (first
              | (with_reducible refine wpl_load_row (o := ⟨some 32, _, _, _, _, _⟩) structEl rfl (.tmp 9) rfl rfl (t.out.e (g9, U) (by simp)) rfl ?_)
              | (with_reducible refine wpl_load_row (o := ⟨some 33, _, _, _, _, _⟩) structEl rfl (.tmp 8) rfl rfl (t.out.e (g8, Y) (by simp)) rfl ?_)
              | (go_at_call 13; (with_reducible refine (cA.out _).mono ?_); rintro e y1 ⟨rfl, kk⟩; have t := Lib.hid (t.out.kept kk); clear kk)
              | ((with_reducible refine wpl_store_row (o := ⟨none, .store 27 (.tmp 9) (.tmp 34), _, _, _, _⟩) structEl rfl (.tmp 9) (.tmp 34) rfl rfl rfl (t.out.e (g9, U) (by simp)) rfl rfl (one_el _) ?_); intro v9 b9 k9))
            go_roundg (bs.length - (k + 1))
            case measure => omega
            case rel => exact ⟨k + 1, by omega, by omega, by go_num, by go_num, by omega, _, rV.out, t.out.put1 hn.out b9 k9⟩
          · have hp : ¬ ((ov : Nat) : Int) % 2 = 0 := by omega
            have cS := Lib.hid (su_c rU.out rY.out)
            have rS := Lib.hid (rU.out.su rY.out)
            have cA := Lib.hid (ad_c rS.out rY.out)
            have rA := Lib.hid (rS.out.ad rY.out)
            have cB := Lib.hid (ad_c rA.out rY.out)
            have rV := Lib.hid ((rA.out.ad rY.out).to (y := x + (k + 1) * y) (by rw [Nat.add_mod, sb_add, ← Nat.add_mod]; exact congrArg (· % PP) (by grind)))
            go_wp2_with fail
            refine wp_last (by kernel_rfl) [el U, el Y, el (suF U Y), el Y, el (adF (suF U Y) Y), el Y, el (adF (adF (suF U Y) Y) Y)] (Mm w [] [(g7, X), (g8, Y), (g9, U)] []) (by kernel_rfl) rfl rfl (by kernel_rfl) t.out.drew (fun u u' h hk => h.kept hk) ?_ ?_
            · refine ⟨?_, ?_, ?_, ?_, ?_, ?_, ?_, trivial⟩
              · exact fun a' u K0 R hS hr ho h => wp_loadr structEl (.tmp 9) rfl ((ho 9 (by decide)).trans rfl) (hS.e (g9, U) (by simp)) rfl (h u (Kept.refl _ _))
              · exact fun a' u K0 R hS hr ho h => wp_loadr structEl (.tmp 8) rfl ((ho 8 (by decide)).trans rfl) (hS.e (g8, Y) (by simp)) rfl (h u (Kept.refl _ _))
              · refine fun a' u K0 R hS hr ho h => ?_
                refine wp_callf rfl enters_sub (vs := #[el U, el Y]) ?_ (cS.out u) h
                have h0 := hr 0 (el U) 37 _ rfl rfl rfl ⟨⟨0, .data⟩, by simp, rfl, rfl⟩
                have h1 := hr 1 (el Y) 38 _ rfl rfl rfl ⟨⟨1, .data⟩, by simp, rfl, rfl⟩
                simp [Act.eval] at h0 h1 ⊢
                exact ⟨h0, h1⟩
              · exact fun a' u K0 R hS hr ho h => wp_loadr structEl (.tmp 8) rfl ((ho 8 (by decide)).trans rfl) (hS.e (g8, Y) (by simp)) rfl (h u (Kept.refl _ _))
              · refine fun a' u K0 R hS hr ho h => ?_
                refine wp_callf rfl enters_add (vs := #[el (suF U Y), el Y]) ?_ (cA.out u) h
                have h0 := hr 2 (el (suF U Y)) 39 _ rfl rfl rfl ⟨⟨2, .data⟩, by simp, rfl, rfl⟩
                have h1 := hr 3 (el Y) 40 _ rfl rfl rfl ⟨⟨3, .data⟩, by simp, rfl, rfl⟩
                simp [Act.eval] at h0 h1 ⊢
                exact ⟨h0, h1⟩
              · exact fun a' u K0 R hS hr ho h => wp_loadr structEl (.tmp 8) rfl ((ho 8 (by decide)).trans rfl) (hS.e (g8, Y) (by simp)) rfl (h u (Kept.refl _ _))
              · refine fun a' u K0 R hS hr ho h => ?_
                refine wp_callf rfl enters_add (vs := #[el (adF (suF U Y) Y), el Y]) ?_ (cB.out u) h
                have h0 := hr 4 (el (adF (suF U Y) Y)) 41 _ rfl rfl rfl ⟨⟨4, .data⟩, by simp, rfl, rfl⟩
                have h1 := hr 5 (el Y) 42 _ rfl rfl rfl ⟨⟨5, .data⟩, by simp, rfl, rfl⟩
                simp [Act.eval] at h0 h1 ⊢
                exact ⟨h0, h1⟩
            intro u7 hS7
            have t := Lib.hid (show Mm w [] [(g7, X), (g8, Y), (g9, adF (adF (suF U Y) Y) Y)] [] (u7.setRow g9 (uv (fam 5 (adF (adF (suF U Y) Y) Y))).toArray) from hS7.put1 hn.out ((hS7.e (g9, U) (by simp)).setRow_ _) ((Kept.refl [g9] u7).setRow (.inl (by simp)) _))
            simp [actOf, List.range, List.range.loop, Act.put]
            refine wp_storer structEl (.tmp 9) (.tmp 43) rfl rfl rfl (hS7.e (g9, U) (by simp)) rfl rfl (one_el _) ?_
            simp [Act.put]
            generalize u7.setRow g9 (uv (fam 5 (adF (adF (suF U Y) Y) Y))).toArray = u8 at *
            clear hS7
            go_wp2_with fail
            go_roundg (bs.length - (k + 1))
            case measure => omega
            case rel => exact ⟨k + 1, by omega, by omega, by go_num, by go_num, by omega, _, rV.out, t.out⟩
        · obtain rfl : k = 200 := by omega
          obtain ⟨xb, xo, xc, hxe, _, hcell⟩ := (hr2.out.kept0 t.out.k).at_ (by omega)
          cases hxe
          have c0 := hcell 200 (byteV bs[200]) (by simp [hlt])
          unfold byteV at c0
          clear hcell
          go_wp2_with fail
          have k0 : HbC U := hb_c rU.out
          replace k0 := Lib.hid k0
          have k1 : ∀ W, Calls Try.prog 12 #[.int .u64 200] W fun e w' => e = .returned (el (smL 200)) ∧ Kept [] W w' := fun W => small_any 200 W (by omega)
          replace k1 := Lib.hid k1
          have k2 : MlC Y (smL 200) (mlF Y (smL 200)) := ml_c rY.out (Rep.small 200 (by omega))
          replace k2 := Lib.hid k2
          have k3 : AdC X (mlF Y (smL 200)) (adF X (mlF Y (smL 200))) := ad_c rX.out (Rep.m rY.out (Rep.small 200 (by omega)))
          replace k3 := Lib.hid k3
          have k4 : HbC (adF X (mlF Y (smL 200))) := hb_c (Rep.ad rX.out (Rep.m rY.out (Rep.small 200 (by omega))))
          replace k4 := Lib.hid k4
          have Q56 : ((hb U) == (hb (adF X (mlF Y (smL 200))))) = true := hb_eq rU.out (Rep.ad rX.out (Rep.m rY.out (Rep.small 200 (by omega)))) (congrArg (· % PP) (by grind))
          have q56 := eql_run Q56 (hb_len _) (hb_len _)
          replace Q56 := Lib.hid Q56
          refine Txt.wp_textG [0, 2, 3, 9] (Mm w [] [(g7, X), (g8, Y), (g9, U)] []) [[_, _], [_, _, _, _], [_], [_], [_], [_, _]] (by kernel_rfl) (by kernel_rfl) rfl t.out.drew (Txt.segs_cons ?_)
          replace t := Lib.hid t.out.drew
          go_wp2_with (first
            | (with_reducible refine wpl_load_row (o := ⟨some 47, _, _, _, _, _⟩) structEl rfl (.tmp 9) rfl rfl (t.out.e (g9, U) (by simp)) rfl ?_)
            | (go_at_call 14; (with_reducible refine (k0.out _).mono ?_); rintro e v ⟨rfl, kk⟩; have t := Lib.hid (t.out.kept kk); clear kk))
          refine ⟨rfl, t.out, Txt.segs_cons ?_⟩
          go_wp2_with (first
            | (with_reducible refine wpl_load_row (o := ⟨some 49, _, _, _, _, _⟩) structEl rfl (.tmp 7) rfl rfl (t.out.e (g7, X) (by simp)) rfl ?_)
            | (with_reducible refine wpl_load_row (o := ⟨some 50, _, _, _, _, _⟩) structEl rfl (.tmp 8) rfl rfl (t.out.e (g8, Y) (by simp)) rfl ?_)
            | (go_at_call 12; (with_reducible refine (k1.out _).mono ?_); rintro e v ⟨rfl, kk⟩; have t := Lib.hid (t.out.kept kk); clear kk))
          refine ⟨rfl, t.out, Txt.segs_cons ?_⟩
          go_wp2_with (first
            | (go_at_call 15; (with_reducible refine (k2.out _).mono ?_); rintro e v ⟨rfl, kk⟩; have t := Lib.hid (t.out.kept kk); clear kk))
          refine ⟨rfl, t.out, Txt.segs_cons ?_⟩
          go_wp2_with (first
            | (go_at_call 13; (with_reducible refine (k3.out _).mono ?_); rintro e v ⟨rfl, kk⟩; have t := Lib.hid (t.out.kept kk); clear kk))
          refine ⟨rfl, t.out, Txt.segs_cons ?_⟩
          go_wp2_with (first
            | (go_at_call 14; (with_reducible refine (k4.out _).mono ?_); rintro e v ⟨rfl, kk⟩; have t := Lib.hid (t.out.kept kk); clear kk))
          refine ⟨rfl, t.out, Txt.segs_cons ?_⟩
          go_wp2_with fail
          refine ⟨rfl, t.out, Txt.segs_nil ⟨⟨by kernel_rfl, ?_⟩, ?_⟩⟩
          · intro j hj o ho hw
            have hj2 : j = 0 ∨ j = 2 ∨ j = 3 ∨ j = 9 := by simpa using hj
            rcases hj2 with rfl | rfl | rfl | rfl <;> cases ho
            · exact ⟨47, rfl, fun u hu => exec_load structEl (.tmp 9) rfl rfl (hu.e (g9, U) (by simp)) rfl⟩
            · exact ⟨49, rfl, fun u hu => exec_load structEl (.tmp 7) rfl rfl (hu.e (g7, X) (by simp)) rfl⟩
            · exact ⟨50, rfl, fun u hu => exec_load structEl (.tmp 8) rfl rfl (hu.e (g8, Y) (by simp)) rfl⟩
            · exact ⟨56, rfl, fun u _ => exec_eqb (.tmp 48) (.tmp 55) rfl rfl rfl Q56.out (hb_len _) (hb_len _)⟩
          go_wp2_with fail
          go_ret
          exact ⟨rfl, t.out.k⟩
      · obtain rfl : k = bs.length := by omega
        obtain ⟨k, hkk⟩ : ∃ k, k = bs.length := ⟨_, rfl⟩
        rw [← hkk] at rU hk2
        have go := hlt
        clear hlt
        go_wp2_with fail
        rw [← hkk]
        replace hkk := Lib.hid hkk
        have k0 : HbC U := hb_c rU.out
        replace k0 := Lib.hid k0
        have k1 : ∀ W, Calls Try.prog 12 #[.int .u64 k] W fun e w' => e = .returned (el (smL k)) ∧ Kept [] W w' := fun W => small_any k W (by omega)
        replace k1 := Lib.hid k1
        have k2 : MlC Y (smL k) (mlF Y (smL k)) := ml_c rY.out (Rep.small k (by omega))
        replace k2 := Lib.hid k2
        have k3 : AdC X (mlF Y (smL k)) (adF X (mlF Y (smL k))) := ad_c rX.out (Rep.m rY.out (Rep.small k (by omega)))
        replace k3 := Lib.hid k3
        have k4 : HbC (adF X (mlF Y (smL k))) := hb_c (Rep.ad rX.out (Rep.m rY.out (Rep.small k (by omega))))
        replace k4 := Lib.hid k4
        have Q56 : ((hb U) == (hb (adF X (mlF Y (smL k))))) = true := hb_eq rU.out (Rep.ad rX.out (Rep.m rY.out (Rep.small k (by omega)))) (congrArg (· % PP) (by grind))
        have q56 := eql_run Q56 (hb_len _) (hb_len _)
        replace Q56 := Lib.hid Q56
        refine Txt.wp_textG [0, 2, 3, 9] (Mm w [] [(g7, X), (g8, Y), (g9, U)] []) [[_, _], [_, _, _, _], [_], [_], [_], [_, _]] (by kernel_rfl) (by kernel_rfl) rfl t.out.drew (Txt.segs_cons ?_)
        replace t := Lib.hid t.out.drew
        go_wp2_with (first
          | (with_reducible refine wpl_load_row (o := ⟨some 47, _, _, _, _, _⟩) structEl rfl (.tmp 9) rfl rfl (t.out.e (g9, U) (by simp)) rfl ?_)
          | (go_at_call 14; (with_reducible refine (k0.out _).mono ?_); rintro e v ⟨rfl, kk⟩; have t := Lib.hid (t.out.kept kk); clear kk))
        refine ⟨rfl, t.out, Txt.segs_cons ?_⟩
        go_wp2_with (first
          | (with_reducible refine wpl_load_row (o := ⟨some 49, _, _, _, _, _⟩) structEl rfl (.tmp 7) rfl rfl (t.out.e (g7, X) (by simp)) rfl ?_)
          | (with_reducible refine wpl_load_row (o := ⟨some 50, _, _, _, _, _⟩) structEl rfl (.tmp 8) rfl rfl (t.out.e (g8, Y) (by simp)) rfl ?_)
          | (go_at_call 12; (with_reducible refine (k1.out _).mono ?_); rintro e v ⟨rfl, kk⟩; have t := Lib.hid (t.out.kept kk); clear kk))
        refine ⟨rfl, t.out, Txt.segs_cons ?_⟩
        go_wp2_with (first
          | (go_at_call 15; (with_reducible refine (k2.out _).mono ?_); rintro e v ⟨rfl, kk⟩; have t := Lib.hid (t.out.kept kk); clear kk))
        refine ⟨rfl, t.out, Txt.segs_cons ?_⟩
        go_wp2_with (first
          | (go_at_call 13; (with_reducible refine (k3.out _).mono ?_); rintro e v ⟨rfl, kk⟩; have t := Lib.hid (t.out.kept kk); clear kk))
        refine ⟨rfl, t.out, Txt.segs_cons ?_⟩
        go_wp2_with (first
          | (go_at_call 14; (with_reducible refine (k4.out _).mono ?_); rintro e v ⟨rfl, kk⟩; have t := Lib.hid (t.out.kept kk); clear kk))
        refine ⟨rfl, t.out, Txt.segs_cons ?_⟩
        go_wp2_with fail
        refine ⟨rfl, t.out, Txt.segs_nil ⟨⟨by kernel_rfl, ?_⟩, ?_⟩⟩
        · intro j hj o ho hw
          have hj2 : j = 0 ∨ j = 2 ∨ j = 3 ∨ j = 9 := by simpa using hj
          rcases hj2 with rfl | rfl | rfl | rfl <;> cases ho
          · exact ⟨47, rfl, fun u hu => exec_load structEl (.tmp 9) rfl rfl (hu.e (g9, U) (by simp)) rfl⟩
          · exact ⟨49, rfl, fun u hu => exec_load structEl (.tmp 7) rfl rfl (hu.e (g7, X) (by simp)) rfl⟩
          · exact ⟨50, rfl, fun u hu => exec_load structEl (.tmp 8) rfl rfl (hu.e (g8, Y) (by simp)) rfl⟩
          · exact ⟨56, rfl, fun u _ => exec_eqb (.tmp 48) (.tmp 55) rfl rfl rfl Q56.out (hb_len _) (hb_len _)⟩
        go_wp2_with fail
        go_ret
        exact ⟨rfl, t.out.k⟩
end Go.Proofs.Ythmpdhegodmjjaa
