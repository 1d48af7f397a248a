/-
  Slots: quorums meet: the walk.
-/
import Derived.Test.YthffkgnbgncfaaaSt19
namespace Go.Proofs.Ythffkgnbgncfaaa
open Go.RowKit Go.Mem Go.Txt

theorem third (f : Int) : ∃ k : Nat, k ≤ 2 ∧ wrap64 ((IntKind.u64.wrap f).tmod 3) = k := by
  have h : 0 ≤ IntKind.u64.wrap f := by rw [IntKind.wrap_u64]; omega
  rw [Int.tmod_eq_emod_of_nonneg h]
  refine ⟨(IntKind.u64.wrap f % 3).toNat, by omega, ?_⟩
  have h2 : 0 ≤ IntKind.u64.wrap f % 3 := by omega
  have h3 : IntKind.u64.wrap f % 3 < 3 := by omega
  generalize IntKind.u64.wrap f % 3 = z at *
  unfold wrap64
  omega
theorem rd_cell {w : World} {g o n c : Nat} {l : List UInt8} (h : Rd w 1 (.slice (some ⟨g, o, none⟩) n c) n (bv l)) {i : Nat} (hi : i < l.length) : w.cell? ⟨g, o + i, none⟩ = some (.int .u8 l[i].toNat) := by
  have hl := h.len
  simp at hl
  obtain ⟨b, o', c', hv, _, hc⟩ := h.at_ (by omega)
  cases hv
  exact hc i _ (by simp [hi, byteV])
theorem rd_shape {w : World} {s n : Nat} {v : Value} {l : List Value} (h : Rd w s v n l) : ∃ A c, v = .slice A n c ∧ n ≤ c := by
  obtain ⟨A, c, h, _, h2, _⟩ := h
  exact ⟨A, c, h, h2⟩
theorem xa_some {a : List UInt8} {n : Nat} (h : n < a.length) : ∃ r : Nat, r < 3 ∧ ((a[n].toNat : Int)).tmod 3 = r ∧ xa a n = r ∧ (xb a n).toNat = r := by
  have e : a[n]? = some a[n] := List.getElem?_eq_getElem h
  have h3 : (a[n] % 3).toNat = a[n].toNat % 3 := by simp [UInt8.toNat_mod]
  refine ⟨a[n].toNat % 3, by omega, ?_, ?_, ?_⟩
  · rw [Int.tmod_eq_emod_of_nonneg (by omega)]; omega
  · unfold xa; rw [e]; simp only; rw [h3]
  · unfold xb; rw [e]; simp only; exact h3
theorem xa_none {a : List UInt8} {n : Nat} (h : ¬ n < a.length) : xa a n = -1 := by
  have e : a[n]? = none := List.getElem?_eq_none (by omega)
  unfold xa; rw [e]
theorem tw_le (a b : List UInt8) : ∀ n, tw a b n ≤ n
  | 0 => Nat.le_refl _
  | n + 1 => by
    have := tw_le a b n
    rw [tw_succ]
    split <;> omega
theorem tw_no {a b : List UInt8} {n : Nat} (h : ¬ (0 < xa a n ∧ 0 < xa b n ∧ xa a n ≠ xa b n)) : tw a b (n + 1) = tw a b n := by rw [tw_succ, if_neg h]
theorem tw_yes {a b : List UInt8} {n : Nat} (h : 0 < xa a n ∧ 0 < xa b n ∧ xa a n ≠ xa b n) : tw a b (n + 1) = tw a b n + 1 := by rw [tw_succ, if_pos h]
theorem hvx {b : UInt8} {r : Nat} (h : b.toNat = r) : Try.prog.built 30 [(0, .int .u8 (r : Int))] = some (bv (hv b)).toArray := by subst h; exact hv_built b
theorem u8_in {r : Nat} (h : r < 3) : IntKind.u8.wrap (r : Int) = r := by rw [IntKind.wrap_u8]; omega
theorem la_add1 {w0 : World} {k g1 g2 : Nat} (hk : k ≤ 2) {a : List UInt8} {L2 : List Vt} {n : Nat} (hn : n ≤ 3 * k) (hx : 0 < xa a n) (u : World) (T : T2 w0 u k g1 (LA a n) g2 L2) :
    Calls Try.prog 8 #[.pointer (some ⟨g1, 0, none⟩), .int .i64 (n : Int), .int .i64 0, ab (hv (xb a n)), ab (noughts 64)] u fun e w' => e = .returned (.bool true) ∧ T2 w0 w' k g1 (LA a (n + 1)) g2 L2 := by
  obtain ⟨h1, h2⟩ := LA_step a hn hx
  have := T.add1 (by omega) (vt_ok n 0 (xb a n) (s := noughts 64) (by simp)) (by have := LA_len a n; omega)
  rw [h1, h2] at this
  exact this
theorem la_add2 {w0 : World} {k g1 g2 : Nat} (hk : k ≤ 2) {a : List UInt8} {L1 : List Vt} {n : Nat} (hn : n ≤ 3 * k) (hx : 0 < xa a n) (u : World) (T : T2 w0 u k g1 L1 g2 (LA a n)) :
    Calls Try.prog 8 #[.pointer (some ⟨g2, 0, none⟩), .int .i64 (n : Int), .int .i64 0, ab (hv (xb a n)), ab (noughts 64)] u fun e w' => e = .returned (.bool true) ∧ T2 w0 w' k g1 L1 g2 (LA a (n + 1)) := by
  refine (la_add1 hk hn hx u T.symm).mono ?_
  rintro e w' ⟨rfl, t⟩
  exact ⟨rfl, t.symm⟩
theorem la_best1 {w0 : World} {k g1 g2 : Nat} (hk : k ≤ 2) {a : List UInt8} {L2 : List Vt} (u : World) (T : T2 w0 u k g1 (LA a (3 * k + 1)) g2 L2) :
    Calls Try.prog 9 #[.pointer (some ⟨g1, 0, none⟩), .int .i64 0] u fun e w' => e = .returned (.tuple #[ab (bst (LA a (3 * k + 1)) (LA a (3 * k + 1)).length).1, .int .i64 ((bst (LA a (3 * k + 1)) (LA a (3 * k + 1)).length).2 : Nat)]) ∧ T2 w0 w' k g1 (LA a (3 * k + 1)) g2 L2 ∧ Kept [] u w' := by
  have F := T.ofs1 (by omega) (LA_in a (Nat.le_refl _)) 0
  rw [ofv_all fun v hv => (LA_mem a _ v hv).1] at F
  refine (best_any F).mono ?_
  rintro e w' ⟨rfl, kk⟩
  exact ⟨rfl, T.kept kk, kk⟩
theorem la_best2 {w0 : World} {k g1 g2 : Nat} (hk : k ≤ 2) {a : List UInt8} {L1 : List Vt} (u : World) (T : T2 w0 u k g1 L1 g2 (LA a (3 * k + 1))) :
    Calls Try.prog 9 #[.pointer (some ⟨g2, 0, none⟩), .int .i64 0] u fun e w' => e = .returned (.tuple #[ab (bst (LA a (3 * k + 1)) (LA a (3 * k + 1)).length).1, .int .i64 ((bst (LA a (3 * k + 1)) (LA a (3 * k + 1)).length).2 : Nat)]) ∧ T2 w0 w' k g1 L1 g2 (LA a (3 * k + 1)) ∧ Kept [] u w' := by
  refine (la_best1 hk u T.symm).mono ?_
  rintro e w' ⟨rfl, t, kk⟩
  exact ⟨rfl, t.symm, kk⟩
theorem la_best_len (a : List UInt8) (n : Nat) : (bst (LA a n) (LA a n).length).1.length = 32 := bst_len (fun v hv => (LA_mem a n v hv).2.2.2) _ (Nat.le_refl _)
set_option maxRecDepth 100000 in
set_option maxHeartbeats 12800000 in
theorem one_walk (f : Int) (va : Value) (a : List UInt8) (vb : Value) (b : List UInt8) (w : World) (ha : Rd w 1 va a.length (bv a)) (ha2 : a.length ≤ 9223372036854775807) (hb : Rd w 1 vb b.length (bv b)) (hb2 : b.length ≤ 9223372036854775807) :
    Calls Try.prog 3 #[.int .i64 f, va, vb] w fun e w' => e = .returned (.bool true) ∧ Kept [] w w' := by
  have c0 := Lib.hid (first_any w)
  obtain ⟨k, hk, ek⟩ := third f
  have cn := Lib.hid (fun u => new_ok (k : Int) (by omega) u)
  obtain ⟨Aa, ca, rfl, hca⟩ := rd_shape ha
  obtain ⟨Ab, cb, rfl, hcb⟩ := rd_shape hb
  have ha' := Lib.hid ha
  have hb' := Lib.hid hb
  have b1 := Lib.hid (fun g1 g2 u T => la_best1 (w0 := w) (g1 := g1) (g2 := g2) (L2 := LA b (3 * k + 1)) hk (a := a) u T)
  have b2 := Lib.hid (fun g1 g2 u T => la_best2 (w0 := w) (g1 := g1) (g2 := g2) (L1 := LA a (3 * k + 1)) hk (a := b) u T)
  have law := Lib.hid (one_plain a b k)
  have pl := Lib.hid (la_best_len a (3 * k + 1))
  have ql := Lib.hid (la_best_len b (3 * k + 1))
  have twl := tw_le a b (3 * k + 1)
  have hz := Lib.hid hz_info
  clear ha hb
  go_enter Try.func3, Try.ntmps3
  go_wp2_with (first
    | (go_at_call 6; (with_reducible refine (c0.out).mono ?_); rintro e w1 ⟨rfl, kk⟩
       have K := Lib.hid kk
       clear kk)
    | (go_at_call 7; have T2' := T1; clear T1; (with_reducible refine (cn.out _).mono ?_); rintro e w2 ⟨g2, rfl, t, kk, n⟩
       have T := Lib.hid (T2.start T2'.out.1 T2'.out.2.1 T2'.out.2.2 (by simp [Value.ownBlock]) t kk n)
       clear T2' t kk n)
    | (go_at_call 7; (with_reducible refine (cn.out _).mono ?_); rintro e w2 ⟨g1, rfl, t, kk, n⟩
       have T1 := Lib.hid (show Tl w2 g1 k [] (.slice none 0 0) ∧ Kept [] w w2 ∧ w.heap.size ≤ g1 from ⟨t, K.out.then0 kk, Nat.le_trans K.out.size n⟩)
       clear K t kk n))
  go_loopg [12, 13] (3 * k + 1) (fun fu t i wk => ∃ n : Nat, n ≤ 3 * k + 1 ∧ fu + n = 3 * k + 1 ∧ i = .int .i64 (n : Int) ∧ t = .int .i64 (tw a b n : Nat) ∧ Hid (T2 w wk k g1 (LA a n) g2 (LA b n)))
  case atStart => exact ⟨0, by omega, by omega, rfl, rfl, T⟩
  case round =>
    clear T
    obtain ⟨n, hn, hf, rfl, rfl, T⟩ := hrel
    have tl := tw_le a b n
    by_cases hlt : n ≤ 3 * k
    · have hlti : (n : Int) ≤ 3 * (k : Int) := by omega
      by_cases ha : n < a.length
      · obtain ⟨ga, oa, ca2, hva, hcl1, hcl2⟩ := (ha'.out.kept0 T.out.k).at_ (by omega)
        clear hcl1 hcl2
        obtain rfl : Aa = some ⟨ga, oa, none⟩ := by cases hva; rfl
        clear hva
        have qa := rd_cell (ha'.out.kept0 T.out.k) ha
        obtain ⟨ra, ra3, ram, xa, ya⟩ := xa_some ha
        replace xa := Lib.hid xa
        replace ya := Lib.hid ya
        rcases Nat.eq_zero_or_pos ra with rfl | hra
        · have ea := Lib.hid (LA_none a (n := n) (by rw [xa.out]; omega))
          by_cases hb : n < b.length
          · obtain ⟨gb, ob, cb2, hvb, hcl1, hcl2⟩ := (hb'.out.kept0 T.out.k).at_ (by omega)
            clear hcl1 hcl2
            obtain rfl : Ab = some ⟨gb, ob, none⟩ := by cases hvb; rfl
            clear hvb
            have qb := rd_cell (hb'.out.kept0 T.out.k) hb
            obtain ⟨rb, rb3, rbm, xb, yb⟩ := xa_some hb
            replace xb := Lib.hid xb
            replace yb := Lib.hid yb
            rcases Nat.eq_zero_or_pos rb with rfl | hrb
            · have eb := Lib.hid (LA_none b (n := n) (by rw [xb.out]; omega))
              have et := Lib.hid (tw_no (a := a) (b := b) (n := n) (by rw [xa.out, xb.out]; omega))
              generalize tw a b n = tn at *
              go_wp2_with fail
              go_roundg (3 * k + 1 - (n + 1))
              case measure => omega
              case rel =>
                refine ⟨n + 1, by omega, by omega, by go_num, ?_, ?_⟩
                · rw [et.out]
                · rw [ea.out]; rw [eb.out]; exact T
            · have blb := Lib.hid (hvx yb.out)
              have wb := u8_in rb3
              have pb : (0 : Int) < rb := by omega
              have et := Lib.hid (tw_no (a := a) (b := b) (n := n) (by rw [xa.out, xb.out]; omega))
              have addb := Lib.hid (fun u T => la_add2 (w0 := w) (g1 := g1) (g2 := g2) (L1 := LA a (n + 1)) hk (a := b) (n := n) hlt (by rw [xb.out]; omega) u T)
              rw [ea.out] at addb
              have sgb := Lib.hid sg_built
              generalize noughts 64 = sg at *
              generalize hv (Go.Proofs.Ythffkgnbgncfaaa.xb b n) = HB at *
              generalize tw a b n = tn at *
              go_wp2_with (first
                | (refine wpl_build1 (o := ⟨some 77, _, _, _, _, _⟩) (v := .int .u8 (rb : Int)) rfl 0 (.tmp 76) rfl rfl blb.out ?_)
                | (refine wpl_build0 (o := ⟨some 78, _, _, _, _, _⟩) rfl rfl sgb.out ?_)
                | (go_at_call 8; (with_reducible refine (addb.out _ T.out).mono ?_); rintro e w2 ⟨rfl, t⟩; replace T := Lib.hid t; clear t))
              go_roundg (3 * k + 1 - (n + 1))
              case measure => omega
              case rel =>
                refine ⟨n + 1, by omega, by omega, by go_num, ?_, ?_⟩
                · rw [et.out]
                · rw [ea.out]; exact T
          · have eb := Lib.hid (LA_none b (n := n) (by rw [xa_none hb]; omega))
            have xb := Lib.hid (xa_none hb)
            have et := Lib.hid (tw_no (a := a) (b := b) (n := n) (by rw [xa.out, xb.out]; omega))
            generalize tw a b n = tn at *
            go_wp2_with fail
            go_roundg (3 * k + 1 - (n + 1))
            case measure => omega
            case rel =>
              refine ⟨n + 1, by omega, by omega, by go_num, ?_, ?_⟩
              · rw [et.out]
              · rw [ea.out]; rw [eb.out]; exact T
        · have adda := Lib.hid (fun u T => la_add1 (w0 := w) (g1 := g1) (g2 := g2) (L2 := LA b n) hk (a := a) (n := n) hlt (by rw [xa.out]; omega) u T)
          have bla := Lib.hid (hvx ya.out)
          have wa := u8_in ra3
          have pa : (0 : Int) < ra := by omega
          by_cases hb : n < b.length
          · obtain ⟨gb, ob, cb2, hvb, hcl1, hcl2⟩ := (hb'.out.kept0 T.out.k).at_ (by omega)
            clear hcl1 hcl2
            obtain rfl : Ab = some ⟨gb, ob, none⟩ := by cases hvb; rfl
            clear hvb
            have qb := rd_cell (hb'.out.kept0 T.out.k) hb
            obtain ⟨rb, rb3, rbm, xb, yb⟩ := xa_some hb
            replace xb := Lib.hid xb
            replace yb := Lib.hid yb
            rcases Nat.eq_zero_or_pos rb with rfl | hrb
            · have eb := Lib.hid (LA_none b (n := n) (by rw [xb.out]; omega))
              have et := Lib.hid (tw_no (a := a) (b := b) (n := n) (by rw [xa.out, xb.out]; omega))
              have sgb := Lib.hid sg_built
              generalize noughts 64 = sg at *
              generalize hv (Go.Proofs.Ythffkgnbgncfaaa.xb a n) = HA at *
              generalize tw a b n = tn at *
              go_wp2_with (first
                | (refine wpl_build1 (o := ⟨some 68, _, _, _, _, _⟩) (v := .int .u8 (ra : Int)) rfl 0 (.tmp 67) rfl rfl bla.out ?_)
                | (refine wpl_build0 (o := ⟨some 69, _, _, _, _, _⟩) rfl rfl sgb.out ?_)
                | (go_at_call 8; (with_reducible refine (adda.out _ T.out).mono ?_); rintro e w2 ⟨rfl, t⟩; replace T := Lib.hid t; clear t adda))
              go_roundg (3 * k + 1 - (n + 1))
              case measure => omega
              case rel =>
                refine ⟨n + 1, by omega, by omega, by go_num, ?_, ?_⟩
                · rw [et.out]
                · rw [eb.out]; exact T
            · have blb := Lib.hid (hvx yb.out)
              have wb := u8_in rb3
              have pb : (0 : Int) < rb := by omega
              by_cases hrr : ra = rb
              · subst hrr
                have et := Lib.hid (tw_no (a := a) (b := b) (n := n) (by rw [xa.out, xb.out]; omega))
                have addb := Lib.hid (fun u T => la_add2 (w0 := w) (g1 := g1) (g2 := g2) (L1 := LA a (n + 1)) hk (a := b) (n := n) hlt (by rw [xb.out]; omega) u T)
                have sgb := Lib.hid sg_built
                generalize noughts 64 = sg at *
                generalize hv (Go.Proofs.Ythffkgnbgncfaaa.xb a n) = HA at *
                generalize hv (Go.Proofs.Ythffkgnbgncfaaa.xb b n) = HB at *
                generalize tw a b n = tn at *
                go_wp2_with (first
                  | (refine wpl_build1 (o := ⟨some 68, _, _, _, _, _⟩) (v := .int .u8 (ra : Int)) rfl 0 (.tmp 67) rfl rfl bla.out ?_)
                  | (refine wpl_build0 (o := ⟨some 69, _, _, _, _, _⟩) rfl rfl sgb.out ?_)
                  | (go_at_call 8; (with_reducible refine (adda.out _ T.out).mono ?_); rintro e w2 ⟨rfl, t⟩; replace T := Lib.hid t; clear t adda)
                  | (refine wpl_build1 (o := ⟨some 77, _, _, _, _, _⟩) (v := .int .u8 (ra : Int)) rfl 0 (.tmp 76) rfl rfl blb.out ?_)
                  | (refine wpl_build0 (o := ⟨some 78, _, _, _, _, _⟩) rfl rfl sgb.out ?_)
                  | (go_at_call 8; (with_reducible refine (addb.out _ T.out).mono ?_); rintro e w2 ⟨rfl, t⟩; replace T := Lib.hid t; clear t))
                go_roundg (3 * k + 1 - (n + 1))
                case measure => omega
                case rel =>
                  refine ⟨n + 1, by omega, by omega, by go_num, ?_, ?_⟩
                  · rw [et.out]
                  · exact T
              · have et := Lib.hid (tw_yes (a := a) (b := b) (n := n) (by rw [xa.out, xb.out]; omega))
                have addb := Lib.hid (fun u T => la_add2 (w0 := w) (g1 := g1) (g2 := g2) (L1 := LA a (n + 1)) hk (a := b) (n := n) hlt (by rw [xb.out]; omega) u T)
                have sgb := Lib.hid sg_built
                generalize noughts 64 = sg at *
                generalize hv (Go.Proofs.Ythffkgnbgncfaaa.xb a n) = HA at *
                generalize hv (Go.Proofs.Ythffkgnbgncfaaa.xb b n) = HB at *
                have nei : ¬ (ra : Int) = rb := by omega
                generalize tw a b n = tn at *
                go_wp2_with (first
                  | (refine wpl_build1 (o := ⟨some 68, _, _, _, _, _⟩) (v := .int .u8 (ra : Int)) rfl 0 (.tmp 67) rfl rfl bla.out ?_)
                  | (refine wpl_build0 (o := ⟨some 69, _, _, _, _, _⟩) rfl rfl sgb.out ?_)
                  | (go_at_call 8; (with_reducible refine (adda.out _ T.out).mono ?_); rintro e w2 ⟨rfl, t⟩; replace T := Lib.hid t; clear t adda)
                  | (refine wpl_build1 (o := ⟨some 77, _, _, _, _, _⟩) (v := .int .u8 (rb : Int)) rfl 0 (.tmp 76) rfl rfl blb.out ?_)
                  | (refine wpl_build0 (o := ⟨some 78, _, _, _, _, _⟩) rfl rfl sgb.out ?_)
                  | (go_at_call 8; (with_reducible refine (addb.out _ T.out).mono ?_); rintro e w2 ⟨rfl, t⟩; replace T := Lib.hid t; clear t))
                go_roundg (3 * k + 1 - (n + 1))
                case measure => omega
                case rel =>
                  refine ⟨n + 1, by omega, by omega, by go_num, ?_, ?_⟩
                  · rw [et.out]; go_num
                  · exact T
          · have eb := Lib.hid (LA_none b (n := n) (by rw [xa_none hb]; omega))
            have xb := Lib.hid (xa_none hb)
            have et := Lib.hid (tw_no (a := a) (b := b) (n := n) (by rw [xa.out, xb.out]; omega))
            have sgb := Lib.hid sg_built
            generalize noughts 64 = sg at *
            generalize hv (Go.Proofs.Ythffkgnbgncfaaa.xb a n) = HA at *
            generalize tw a b n = tn at *
            go_wp2_with (first
              | (refine wpl_build1 (o := ⟨some 68, _, _, _, _, _⟩) (v := .int .u8 (ra : Int)) rfl 0 (.tmp 67) rfl rfl bla.out ?_)
              | (refine wpl_build0 (o := ⟨some 69, _, _, _, _, _⟩) rfl rfl sgb.out ?_)
              | (go_at_call 8; (with_reducible refine (adda.out _ T.out).mono ?_); rintro e w2 ⟨rfl, t⟩; replace T := Lib.hid t; clear t adda))
            go_roundg (3 * k + 1 - (n + 1))
            case measure => omega
            case rel =>
              refine ⟨n + 1, by omega, by omega, by go_num, ?_, ?_⟩
              · rw [et.out]
              · rw [eb.out]; exact T
      · have ea := Lib.hid (LA_none a (n := n) (by rw [xa_none ha]; omega))
        have xa := Lib.hid (xa_none ha)
        by_cases hb : n < b.length
        · obtain ⟨gb, ob, cb2, hvb, hcl1, hcl2⟩ := (hb'.out.kept0 T.out.k).at_ (by omega)
          clear hcl1 hcl2
          obtain rfl : Ab = some ⟨gb, ob, none⟩ := by cases hvb; rfl
          clear hvb
          have qb := rd_cell (hb'.out.kept0 T.out.k) hb
          obtain ⟨rb, rb3, rbm, xb, yb⟩ := xa_some hb
          replace xb := Lib.hid xb
          replace yb := Lib.hid yb
          rcases Nat.eq_zero_or_pos rb with rfl | hrb
          · have eb := Lib.hid (LA_none b (n := n) (by rw [xb.out]; omega))
            have et := Lib.hid (tw_no (a := a) (b := b) (n := n) (by rw [xa.out, xb.out]; omega))
            generalize tw a b n = tn at *
            go_wp2_with fail
            go_roundg (3 * k + 1 - (n + 1))
            case measure => omega
            case rel =>
              refine ⟨n + 1, by omega, by omega, by go_num, ?_, ?_⟩
              · rw [et.out]
              · rw [ea.out]; rw [eb.out]; exact T
          · have blb := Lib.hid (hvx yb.out)
            have wb := u8_in rb3
            have pb : (0 : Int) < rb := by omega
            have et := Lib.hid (tw_no (a := a) (b := b) (n := n) (by rw [xa.out, xb.out]; omega))
            have addb := Lib.hid (fun u T => la_add2 (w0 := w) (g1 := g1) (g2 := g2) (L1 := LA a (n + 1)) hk (a := b) (n := n) hlt (by rw [xb.out]; omega) u T)
            rw [ea.out] at addb
            have sgb := Lib.hid sg_built
            generalize noughts 64 = sg at *
            generalize hv (Go.Proofs.Ythffkgnbgncfaaa.xb b n) = HB at *
            generalize tw a b n = tn at *
            go_wp2_with (first
              | (refine wpl_build1 (o := ⟨some 77, _, _, _, _, _⟩) (v := .int .u8 (rb : Int)) rfl 0 (.tmp 76) rfl rfl blb.out ?_)
              | (refine wpl_build0 (o := ⟨some 78, _, _, _, _, _⟩) rfl rfl sgb.out ?_)
              | (go_at_call 8; (with_reducible refine (addb.out _ T.out).mono ?_); rintro e w2 ⟨rfl, t⟩; replace T := Lib.hid t; clear t))
            go_roundg (3 * k + 1 - (n + 1))
            case measure => omega
            case rel =>
              refine ⟨n + 1, by omega, by omega, by go_num, ?_, ?_⟩
              · rw [et.out]
              · rw [ea.out]; exact T
        · have eb := Lib.hid (LA_none b (n := n) (by rw [xa_none hb]; omega))
          have xb := Lib.hid (xa_none hb)
          have et := Lib.hid (tw_no (a := a) (b := b) (n := n) (by rw [xa.out, xb.out]; omega))
          generalize tw a b n = tn at *
          go_wp2_with fail
          go_roundg (3 * k + 1 - (n + 1))
          case measure => omega
          case rel =>
            refine ⟨n + 1, by omega, by omega, by go_num, ?_, ?_⟩
            · rw [et.out]
            · rw [ea.out]; rw [eb.out]; exact T
    · have hnk : n = 3 * k + 1 := by omega
      subst hnk
      have hlti : ¬ ((3 * k + 1 : Nat) : Int) ≤ 3 * (k : Int) := by omega
      generalize bst (LA a (3 * k + 1)) (LA a (3 * k + 1)).length = p at *
      generalize bst (LA b (3 * k + 1)) (LA b (3 * k + 1)).length = q at *
      obtain ⟨ph, pn⟩ := p
      obtain ⟨qh, qn⟩ := q
      simp only at pl ql law
      generalize tw a b (3 * k + 1) = tz at *
      simp only at b1 b2
      replace law := law.out
      by_cases d1 : pn ≤ 2 * k
      · clear law
        have d1' : (pn : Int) ≤ 2 * (k : Int) := by omega
        go_wp2_with (first
          | (go_at_call 9; (with_reducible refine (b1.out g1 g2 _ T.out).mono ?_); rintro e w2 ⟨rfl, t, kk⟩; replace T := Lib.hid t; clear t kk)
          | (go_at_call 9; (with_reducible refine (b2.out g1 g2 _ T.out).mono ?_); rintro e w2 ⟨rfl, t, kk⟩; replace T := Lib.hid t; replace B16 := Lib.hid (B16.out.kept kk (by simp)); clear t kk)
          | ((with_reducible refine wpl_new (o := ⟨some 16, _, _, _, _, _⟩) rfl rfl hz.out ?_); intro g16 w3 m16)
          | ((refine wpl_store_row (o := ⟨none, Op.store 30 (.tmp 16) (.tmp 96), _, _, _, _⟩) hashT.row rfl (.tmp 16) (.tmp 96) rfl rfl rfl m16.blk rfl (by simp [pl.out]) (one_ab _) ?_); intro w4 b16 k16
             replace T := Lib.hid (T.out.kept (m16.kept.then1 k16 m16.le))
             have B16 := Lib.hid b16
             clear m16 b16 k16)
          | ((with_reducible refine wpl_new (o := ⟨some 18, _, _, _, _, _⟩) rfl rfl hz.out ?_); intro g18 w3 m18)
          | ((refine wpl_store_row (o := ⟨none, Op.store 30 (.tmp 18) (.tmp 101), _, _, _, _⟩) hashT.row rfl (.tmp 18) (.tmp 101) rfl rfl rfl m18.blk rfl (by simp [ql.out]) (one_ab _) ?_); intro w4 b18 k18
             replace T := Lib.hid (T.out.kept (m18.kept.then1 k18 m18.le))
             replace B16 := Lib.hid (B16.out.kept (m18.kept.then1 k18 m18.le) (by simp))
             have B18 := Lib.hid b18
             clear m18 b18 k18))
        go_ret
        exact ⟨rfl, T.out.k⟩
      have d1' : ((pn : Int) ≤ 2 * (k : Int)) = False := eq_false (by omega)
      by_cases d2 : qn ≤ 2 * k
      · clear law
        have d2' : (qn : Int) ≤ 2 * (k : Int) := by omega
        go_wp2_with (first
          | (go_at_call 9; (with_reducible refine (b1.out g1 g2 _ T.out).mono ?_); rintro e w2 ⟨rfl, t, kk⟩; replace T := Lib.hid t; clear t kk)
          | (go_at_call 9; (with_reducible refine (b2.out g1 g2 _ T.out).mono ?_); rintro e w2 ⟨rfl, t, kk⟩; replace T := Lib.hid t; replace B16 := Lib.hid (B16.out.kept kk (by simp)); clear t kk)
          | ((with_reducible refine wpl_new (o := ⟨some 16, _, _, _, _, _⟩) rfl rfl hz.out ?_); intro g16 w3 m16)
          | ((refine wpl_store_row (o := ⟨none, Op.store 30 (.tmp 16) (.tmp 96), _, _, _, _⟩) hashT.row rfl (.tmp 16) (.tmp 96) rfl rfl rfl m16.blk rfl (by simp [pl.out]) (one_ab _) ?_); intro w4 b16 k16
             replace T := Lib.hid (T.out.kept (m16.kept.then1 k16 m16.le))
             have B16 := Lib.hid b16
             clear m16 b16 k16)
          | ((with_reducible refine wpl_new (o := ⟨some 18, _, _, _, _, _⟩) rfl rfl hz.out ?_); intro g18 w3 m18)
          | ((refine wpl_store_row (o := ⟨none, Op.store 30 (.tmp 18) (.tmp 101), _, _, _, _⟩) hashT.row rfl (.tmp 18) (.tmp 101) rfl rfl rfl m18.blk rfl (by simp [ql.out]) (one_ab _) ?_); intro w4 b18 k18
             replace T := Lib.hid (T.out.kept (m18.kept.then1 k18 m18.le))
             replace B16 := Lib.hid (B16.out.kept (m18.kept.then1 k18 m18.le) (by simp))
             have B18 := Lib.hid b18
             clear m18 b18 k18))
        go_ret
        exact ⟨rfl, T.out.k⟩
      have d2' : ((qn : Int) ≤ 2 * (k : Int)) = False := eq_false (by omega)
      by_cases d3 : ph = qh
      · clear law
        have deq := Lib.hid (show (ph == qh) = true from by simpa using d3)
        replace d3 := Lib.hid d3
        go_wp2_with (first
          | (go_at_call 9; (with_reducible refine (b1.out g1 g2 _ T.out).mono ?_); rintro e w2 ⟨rfl, t, kk⟩; replace T := Lib.hid t; clear t kk)
          | (go_at_call 9; (with_reducible refine (b2.out g1 g2 _ T.out).mono ?_); rintro e w2 ⟨rfl, t, kk⟩; replace T := Lib.hid t; replace B16 := Lib.hid (B16.out.kept kk (by simp)); clear t kk)
          | ((with_reducible refine wpl_new (o := ⟨some 16, _, _, _, _, _⟩) rfl rfl hz.out ?_); intro g16 w3 m16)
          | ((refine wpl_store_row (o := ⟨none, Op.store 30 (.tmp 16) (.tmp 96), _, _, _, _⟩) hashT.row rfl (.tmp 16) (.tmp 96) rfl rfl rfl m16.blk rfl (by simp [pl.out]) (one_ab _) ?_); intro w4 b16 k16
             replace T := Lib.hid (T.out.kept (m16.kept.then1 k16 m16.le))
             have B16 := Lib.hid b16
             clear m16 b16 k16)
          | ((with_reducible refine wpl_new (o := ⟨some 18, _, _, _, _, _⟩) rfl rfl hz.out ?_); intro g18 w3 m18)
          | ((refine wpl_store_row (o := ⟨none, Op.store 30 (.tmp 18) (.tmp 101), _, _, _, _⟩) hashT.row rfl (.tmp 18) (.tmp 101) rfl rfl rfl m18.blk rfl (by simp [ql.out]) (one_ab _) ?_); intro w4 b18 k18
             replace T := Lib.hid (T.out.kept (m18.kept.then1 k18 m18.le))
             replace B16 := Lib.hid (B16.out.kept (m18.kept.then1 k18 m18.le) (by simp))
             have B18 := Lib.hid b18
             clear m18 b18 k18)
          | (refine wpl_load_row (o := ⟨some 114, _, _, _, _, _⟩) hashT.row rfl (.tmp 16) rfl rfl B16.out (by simp [pl.out]) ?_)
          | (refine wpl_load_row (o := ⟨some 115, _, _, _, _, _⟩) hashT.row rfl (.tmp 18) rfl rfl B18.out (by simp [ql.out]) ?_)
          | (refine wpl_eql_ab (o := ⟨some 116, _, _, _, _, _⟩) hashT Try.underlying5 (by kernel_rfl) eg32 rfl (.tmp 114) (.tmp 115) rfl rfl rfl pl.out ql.out deq.out ?_))
        go_ret
        exact ⟨rfl, T.out.k⟩
      · have d4 : k < tz := by
          rcases law with h | h | h | h
          · exact absurd h d1
          · exact absurd h d2
          · exact absurd h d3
          · exact h
        have d4' : (k : Int) < tz := by omega
        have deq := Lib.hid (show (ph == qh) = false from by simpa using d3)
        replace d3 := Lib.hid d3
        clear law
        go_wp2_with (first
          | (go_at_call 9; (with_reducible refine (b1.out g1 g2 _ T.out).mono ?_); rintro e w2 ⟨rfl, t, kk⟩; replace T := Lib.hid t; clear t kk)
          | (go_at_call 9; (with_reducible refine (b2.out g1 g2 _ T.out).mono ?_); rintro e w2 ⟨rfl, t, kk⟩; replace T := Lib.hid t; replace B16 := Lib.hid (B16.out.kept kk (by simp)); clear t kk)
          | ((with_reducible refine wpl_new (o := ⟨some 16, _, _, _, _, _⟩) rfl rfl hz.out ?_); intro g16 w3 m16)
          | ((refine wpl_store_row (o := ⟨none, Op.store 30 (.tmp 16) (.tmp 96), _, _, _, _⟩) hashT.row rfl (.tmp 16) (.tmp 96) rfl rfl rfl m16.blk rfl (by simp [pl.out]) (one_ab _) ?_); intro w4 b16 k16
             replace T := Lib.hid (T.out.kept (m16.kept.then1 k16 m16.le))
             have B16 := Lib.hid b16
             clear m16 b16 k16)
          | ((with_reducible refine wpl_new (o := ⟨some 18, _, _, _, _, _⟩) rfl rfl hz.out ?_); intro g18 w3 m18)
          | ((refine wpl_store_row (o := ⟨none, Op.store 30 (.tmp 18) (.tmp 101), _, _, _, _⟩) hashT.row rfl (.tmp 18) (.tmp 101) rfl rfl rfl m18.blk rfl (by simp [ql.out]) (one_ab _) ?_); intro w4 b18 k18
             replace T := Lib.hid (T.out.kept (m18.kept.then1 k18 m18.le))
             replace B16 := Lib.hid (B16.out.kept (m18.kept.then1 k18 m18.le) (by simp))
             have B18 := Lib.hid b18
             clear m18 b18 k18)
          | (refine wpl_load_row (o := ⟨some 114, _, _, _, _, _⟩) hashT.row rfl (.tmp 16) rfl rfl B16.out (by simp [pl.out]) ?_)
          | (refine wpl_load_row (o := ⟨some 115, _, _, _, _, _⟩) hashT.row rfl (.tmp 18) rfl rfl B18.out (by simp [ql.out]) ?_)
          | (refine wpl_eql_ab (o := ⟨some 116, _, _, _, _, _⟩) hashT Try.underlying5 (by kernel_rfl) eg32 rfl (.tmp 114) (.tmp 115) rfl rfl rfl pl.out ql.out deq.out ?_))
        go_ret
        exact ⟨rfl, T.out.k⟩
theorem one_law (f : Int) (va : Value) (a : List UInt8) (vb : Value) (b : List UInt8) (w : World) (_ : (Lit.int .i64 f).wf = true) (ha : Rd w 1 va a.length (bv a)) (ha2 : a.length ≤ 9223372036854775807) (hb : Rd w 1 vb b.length (bv b)) (hb2 : b.length ≤ 9223372036854775807) :
    Calls Try.prog 3 #[.int .i64 f, va, vb] w fun e w' => e = .returned (.bool true) ∧ Kept [] w w' := one_walk f va a vb b w ha ha2 hb hb2
end Go.Proofs.Ythffkgnbgncfaaa
