/-
  Slots: what most said.
-/
import Derived.Test.YthffkgnbgncfaaaSt14
import Derived.WalkMore
namespace Go.Proofs.Ythffkgnbgncfaaa
open Go.RowKit Go.Mem Go.Txt

/-- What a round knows. -/
structure BeM (w0 : World) (g4 g6 : Nat) (B : Option Addr) (d : Nat) (m : List Vt) (hs : List UInt8) (u : World) : Prop where
  b4 : Blk u g4 30 (bv (noughts 32)).toArray
  b6 : Blk u g6 30 (bv hs).toArray
  r : Rd u 98 (.slice B m.length d) m.length (vcs m)
  k : Kept [] w0 u
  l4 : w0.heap.size ≤ g4
  l6 : w0.heap.size ≤ g6
  ne : g4 ≠ g6
  q : 0 < m.length → ∀ k, (Value.slice B m.length d).ownBlock = some k → k < w0.heap.size
section
variable {w0 : World} {g4 g6 : Nat} {B : Option Addr} {d : Nat} {m : List Vt} {hs hs' : List UInt8} {u u' u2 : World}
theorem BeM.kept (t : BeM w0 g4 g6 B d m hs u) (hk : Kept [] u u') : BeM w0 g4 g6 B d m hs u' := ⟨t.b4.kept hk (by simp), t.b6.kept hk (by simp), t.r.kept0 hk, t.k.then0 hk, t.l4, t.l6, t.ne, t.q⟩
theorem BeM.then1 {g9 : Nat} {bt : TypeId} {cs : Array Value} (t : BeM w0 g4 g6 B d m hs u) (hm : Made u u' g9 bt cs) (hk : Kept [g9] u' u2) : BeM w0 g4 g6 B d m hs u2 :=
  ⟨(t.b4.kept hm.kept (by simp)).kept hk (by have := t.b4.lt; have := hm.le; simp; omega),
    (t.b6.kept hm.kept (by simp)).kept hk (by have := t.b6.lt; have := hm.le; simp; omega),
    (t.r.kept0 hm.kept).kept hk (t.r.old (by omega) (by simpa using hm.le)),
    (t.k.then0 hm.kept).then1 hk (Nat.le_trans t.k.size hm.le), t.l4, t.l6, t.ne, t.q⟩
theorem BeM.put (t : BeM w0 g4 g6 B d m hs u) (hb : Blk u' g6 30 (bv hs').toArray) (hk : Kept [g6] u u') : BeM w0 g4 g6 B d m hs' u' :=
  ⟨t.b4.kept hk (by have := t.ne; simpa using this), hb, t.r.kept hk (fun h0 k h => by have := t.q h0 k h; have := t.l6; simp; omega), t.k.then1 hk t.l6, t.l4, t.l6, t.ne, t.q⟩
end
theorem hash_sl {w : World} {g o : Nat} {h : List UInt8} (hh : h.length = 32) (hr : w.rangeAt g o (bv h)) : Rd w 1 (.slice (some ⟨g, o, none⟩) 32 32) h.length (bv h) := by
  rw [hh]
  exact ⟨_, _, rfl, by simp [hh], by omega, fun _ => ⟨g, o, rfl, fun j u hu => hr j u hu⟩⟩
theorem blk_rng {w : World} {g : Nat} {bt : TypeId} {l : List Value} (h : Blk w g bt l.toArray) : w.rangeAt g 0 l := h.rng (by simp)
set_option maxRecDepth 100000 in
set_option maxHeartbeats 6400000 in
theorem best_any {tv : Value} {vw : Int} {m : List Vt} {w : World} (F : Ofs w tv vw m) :
    Calls Try.prog 9 #[tv, .int .i64 vw] w fun e w' => e = .returned (.tuple #[ab (bst m m.length).1, .int .i64 ((bst m m.length).2 : Nat)]) ∧ Kept [] w w' := by
  have hn := F.n
  have F2 := Lib.hid F
  have hlen := Lib.hid (bst_len F.ok)
  clear F
  go_enter Try.func9, Try.ntmps9
  go_wp2_with (first
    | ((with_reducible refine wpl_new (o := ⟨some 4, _, _, _, _, _⟩) rfl rfl hz_info ?_); intro g4 w4 m4))
  go_step3
  go_wp2_with (first
    | ((with_reducible refine wpl_new (o := ⟨some 6, _, _, _, _, _⟩) rfl rfl hz_info ?_); intro g6 w6 m6
       have K := Lib.hid (m4.kept.then0 m6.kept)
       obtain ⟨B, d, hr, hq, hc⟩ := F2.out.c w6 K.out
       replace hr := Lib.hid hr
       replace hc := Lib.hid hc
       replace hq := Lib.hid hq
       have b4 := Lib.hid (show Blk w6 g4 30 (bv (noughts 32)).toArray from m4.blk.kept m6.kept (by simp))
       have b6 := Lib.hid (show Blk w6 g6 30 (bv (noughts 32)).toArray from m6.blk)
       have l4 := Lib.hid m4.le
       have l6 := Lib.hid (Nat.le_trans m4.kept.size m6.le)
       have ne := Lib.hid (m6.ne m4.blk.lt)
       clear m4 m6)
    | (go_at_call 21; (with_reducible refine (hc.out).mono ?_); rintro e v ⟨rfl, kk⟩
       have t := Lib.hid (show BeM w g4 g6 B d m (noughts 32) v from ⟨b4.out.kept kk (by simp), b6.out.kept kk (by simp), hr.out.kept0 kk, K.out.then0 kk, l4.out, l6.out, ne.out, hq.out⟩)
       clear kk hr hc b4 b6 K l4 l6 ne hq))
  go_step3
  go_wp2_with fail
  go_loopg [7, 19] m.length (fun f o i wk => ∃ (k : Nat), k ≤ m.length ∧ f + k = m.length ∧ i = .int .i64 (k : Int) ∧ o = .int .i64 ((bst m k).2 : Nat) ∧ Hid (BeM w g4 g6 B d m (bst m k).1 wk))
  case atStart => exact ⟨0, by omega, by omega, rfl, rfl, t⟩
  case round =>
    clear t
    obtain ⟨k, hk, hf, rfl, rfl, t⟩ := hrel
    by_cases hlt : k < m.length
    · obtain ⟨gb, ob, cb, hv2, hcb, _⟩ := t.out.r.at_ (by omega)
      have hB : B = some ⟨gb, ob, none⟩ ∧ d = cb := by cases hv2; exact ⟨rfl, rfl⟩
      obtain ⟨rfl, rfl⟩ := hB
      clear hv2
      have yok := F2.out.ok _ (List.getElem_mem hlt)
      have hra := Lib.hid (fun (W : World) (r : Rd W 98 (.slice (some ⟨gb, ob, none⟩) m.length d) m.length (vcs m)) => vote_rng r F2.out.ok hlt)
      have est := Lib.hid (bst_succ hlt)
      have ly := Lib.hid (Vt.len yok)
      have pl := Lib.hid (hlen.out k hk)
      have p2 := bst_le (m := m) k hk
      obtain ⟨yh, ysig⟩ := yok
      replace yh := Lib.hid yh
      replace ysig := Lib.hid ysig
      have f1 := fun W => run_uptoS (g := gb) (off := ob) (n := m.length) votesT .i64 (k := k) (c := d) (by omega) W
      generalize m[k] = y at *
      generalize bst m k = p at *
      go_wp2_with (first
        | ((with_reducible refine wpl_idxs (o := ⟨some 22, _, _, _, _, _⟩) (i := k) votesT rfl (.tmp 17) (.tmp 19) rfl rfl rfl hlt ?_))
        | ((with_reducible refine wpl_loadp (o := ⟨some 23, _, _, _, _, _⟩) voteR rfl (.tmp 22) rfl rfl (hra.out _ t.out.r) ly.out ?_))
        | ((with_reducible refine wpl_new (o := ⟨some 10, _, _, _, _, _⟩) rfl rfl vz_info ?_); intro g10 w9 m9
           have tt := Lib.hid (fun u2 (hk : Kept [g10] w9 u2) => t.out.then1 m9 hk)
           have l10 := Lib.hid (show g4 ≠ g10 ∧ g6 ≠ g10 from ⟨m9.ne t.out.b4.lt, m9.ne t.out.b6.lt⟩)
           clear t)
        | ((refine wpl_store_row (o := ⟨none, Op.store 63 (.tmp 10) (.tmp 23), _, _, _, _⟩) voteR rfl (.tmp 10) (.tmp 23) rfl rfl rfl m9.blk rfl (by simpa using ly.out) (by rw [Array.all_eq_true_iff_forall_mem]; intro u hu; exact one_vc y u (by simpa using hu)) ?_); intro w8 b9 k9
           have t := Lib.hid (tt.out w8 k9)
           have b10 := Lib.hid b9
           clear k9 m9 tt b9))
      go_loopg [28] k (fun f j wk2 => ∃ (i : Nat), i ≤ k ∧ f + i = k ∧ j = .int .i64 (i : Int) ∧ Hid ((m.take i).any (fun v => v.h == y.h) = false) ∧ Hid (BeM w g4 g6 (some ⟨gb, ob, none⟩) d m p.1 wk2) ∧ Hid (Blk wk2 g10 63 y.c.toArray))
      case atStart => exact ⟨0, by omega, by omega, rfl, Lib.hid (by simp), t, b10⟩
      case round =>
        clear t b10
        obtain ⟨i, hi, hfi, rfl, hno, t, b10⟩ := hrel
        by_cases hik : i < k
        · have him : i < m.length := by omega
          have zok := F2.out.ok _ (List.getElem_mem him)
          have hrz := Lib.hid (fun (W : World) (r : Rd W 98 (.slice (some ⟨gb, ob, none⟩) m.length d) m.length (vcs m)) => vote_rng r F2.out.ok him)
          have lz := Lib.hid (Vt.len zok)
          have hany : (m.take (i + 1)).any (fun v => v.h == y.h) = (m[i].h == y.h) := by
            rw [List.take_succ_eq_append_getElem him, List.any_append, hno.out]; simp
          replace hany := Lib.hid hany
          obtain ⟨zh, _⟩ := zok
          replace zh := Lib.hid zh
          generalize m[i] = z at *
          cases hb : (z.h == y.h) with
          | true =>
            have e2 : bst m (k + 1) = p := by
              rw [est.out]
              unfold stepB
              rw [if_pos]
              have h1 := hany.out
              rw [hb] at h1
              rw [List.any_eq_true] at h1 ⊢
              obtain ⟨v, hv, h2⟩ := h1
              exact ⟨v, (List.take_subset_take_left m (by omega)) hv, h2⟩
            replace e2 := Lib.hid e2
            replace hb := Lib.hid hb
            clear est hany
            go_wp2_with (first
              | ((with_reducible refine wpl_idxs (o := ⟨some 30, _, _, _, _, _⟩) (i := i) votesT rfl (.tmp 26) (.tmp 28) rfl rfl rfl hik ?_))
              | ((with_reducible refine wpl_loadp (o := ⟨some 31, _, _, _, _, _⟩) voteR rfl (.tmp 30) rfl rfl (hrz.out _ t.out.r) lz.out ?_))
              | ((with_reducible refine wpl_new (o := ⟨some 12, _, _, _, _, _⟩) rfl rfl vz_info ?_); intro g12 w9 m9
                 have tt := Lib.hid (fun u2 (hk : Kept [g12] w9 u2) => t.out.then1 m9 hk)
                 have tb := Lib.hid (fun u2 (hk : Kept [g12] w9 u2) => (b10.out.kept m9.kept (by simp)).kept hk (by have := m9.ne b10.out.lt; simpa using this))
                 clear t b10)
              | ((refine wpl_store_row (o := ⟨none, Op.store 63 (.tmp 12) (.tmp 31), _, _, _, _⟩) voteR rfl (.tmp 12) (.tmp 31) rfl rfl rfl m9.blk rfl (by simpa using lz.out) (by rw [Array.all_eq_true_iff_forall_mem]; intro u hu; exact one_vc z u (by simpa using hu)) ?_); intro w8 b9 k9
                 have t := Lib.hid (tt.out w8 k9)
                 have b10 := Lib.hid (tb.out w8 k9)
                 have b12 := Lib.hid b9
                 clear k9 m9 tt tb b9)
              | ((with_reducible refine wpl_loadp (o := ⟨some 33, _, _, _, _, _⟩) hashT.row rfl (.tmp 32) rfl rfl (Vt.hr b12.out) (by simp [zh.out]) ?_))
              | ((with_reducible refine wpl_loadp (o := ⟨some 35, _, _, _, _, _⟩) hashT.row rfl (.tmp 34) rfl rfl (Vt.hr b10.out) (by simp [yh.out]) ?_))
              | ((with_reducible refine wpl_eql_ab (o := ⟨some 36, _, _, _, _, _⟩) hashT Try.underlying5 (by kernel_rfl) eg32 rfl (.tmp 33) (.tmp 35) rfl rfl rfl zh.out yh.out hb.out ?_)))
            go_roundg (m.length - (k + 1))
            case measure => omega
            case rel =>
              refine ⟨k + 1, by omega, by omega, by go_num, ?_, ?_⟩
              · rw [e2.out]
              · rw [e2.out]; exact t
          | false =>
            have e2 : (m.take (i + 1)).any (fun v => v.h == y.h) = false := by rw [hany.out, hb]
            replace e2 := Lib.hid e2
            replace hb := Lib.hid hb
            clear est hany
            go_wp2_with (first
              | ((with_reducible refine wpl_idxs (o := ⟨some 30, _, _, _, _, _⟩) (i := i) votesT rfl (.tmp 26) (.tmp 28) rfl rfl rfl hik ?_))
              | ((with_reducible refine wpl_loadp (o := ⟨some 31, _, _, _, _, _⟩) voteR rfl (.tmp 30) rfl rfl (hrz.out _ t.out.r) lz.out ?_))
              | ((with_reducible refine wpl_new (o := ⟨some 12, _, _, _, _, _⟩) rfl rfl vz_info ?_); intro g12 w9 m9
                 have tt := Lib.hid (fun u2 (hk : Kept [g12] w9 u2) => t.out.then1 m9 hk)
                 have tb := Lib.hid (fun u2 (hk : Kept [g12] w9 u2) => (b10.out.kept m9.kept (by simp)).kept hk (by have := m9.ne b10.out.lt; simpa using this))
                 clear t b10)
              | ((refine wpl_store_row (o := ⟨none, Op.store 63 (.tmp 12) (.tmp 31), _, _, _, _⟩) voteR rfl (.tmp 12) (.tmp 31) rfl rfl rfl m9.blk rfl (by simpa using lz.out) (by rw [Array.all_eq_true_iff_forall_mem]; intro u hu; exact one_vc z u (by simpa using hu)) ?_); intro w8 b9 k9
                 have t := Lib.hid (tt.out w8 k9)
                 have b10 := Lib.hid (tb.out w8 k9)
                 have b12 := Lib.hid b9
                 clear k9 m9 tt tb b9)
              | ((with_reducible refine wpl_loadp (o := ⟨some 33, _, _, _, _, _⟩) hashT.row rfl (.tmp 32) rfl rfl (Vt.hr b12.out) (by simp [zh.out]) ?_))
              | ((with_reducible refine wpl_loadp (o := ⟨some 35, _, _, _, _, _⟩) hashT.row rfl (.tmp 34) rfl rfl (Vt.hr b10.out) (by simp [yh.out]) ?_))
              | ((with_reducible refine wpl_eql_ab (o := ⟨some 36, _, _, _, _, _⟩) hashT Try.underlying5 (by kernel_rfl) eg32 rfl (.tmp 33) (.tmp 35) rfl rfl rfl zh.out yh.out hb.out ?_)))
            go_roundg (k - (i + 1))
            case measure => omega
            case rel => exact ⟨i + 1, by omega, by omega, by go_num, e2, t, b10⟩
        · have hik2 : i = k := by omega
          subst hik2
          have est2 : bst m (i + 1) = if p.2 < (saidv m y.h).length ∨ (saidv m y.h).length = p.2 ∧ bcmp y.h p.1 < 0 then (y.h, (saidv m y.h).length) else p := by
            rw [est.out]
            unfold stepB
            rw [hno.out]
            rfl
          have hsl : (saidv m y.h).length ≤ m.length := List.length_filter_le _ _
          have cc := Lib.hid (fun u (hk : Kept [] w u) => count_any (F2.out.kept hk) yh.out)
          replace est2 := Lib.hid est2
          clear est hno
          generalize (saidv m y.h).length = n at *
          obtain ⟨p1, q2⟩ := p
          simp only at p2 pl t est2
          by_cases c1 : q2 < n
          · have e2 : bst m (i + 1) = (y.h, n) := by rw [est2.out, if_pos (.inl c1)]
            replace e2 := Lib.hid e2
            clear est2
            go_wp2_with (first
              | ((with_reducible refine wpl_loadp (o := ⟨some 41, _, _, _, _, _⟩) hashT.row rfl (.tmp 40) rfl rfl (Vt.hr b10.out) (by simp [yh.out]) ?_))
              | (go_at_call 11; (with_reducible refine (cc.out _ t.out.k).mono ?_); rintro e w6 ⟨rfl, kk⟩
                 replace t := Lib.hid (t.out.kept kk)
                 replace b10 := Lib.hid (b10.out.kept kk (by simp))
                 clear kk))
            refine Txt.wp_text (by kernel_rfl) (by kernel_rfl) ?_
            replace t := Lib.hid (t.out.kept (Kept.refl [] _).drew)
            replace b10 := Lib.hid (b10.out.drew)
            go_wp2_with fail
            refine ⟨rfl, by kernel_rfl, ?_⟩
            go_wp2_with (first
              | ((with_reducible refine wpl_loadp (o := ⟨some 59, _, _, _, _, _⟩) hashT.row rfl (.tmp 58) rfl rfl (Vt.hr b10.out) (by simp [yh.out]) ?_))
              | ((refine wpl_store_row (o := ⟨none, Op.store 30 (.tmp 6) (.tmp 59), _, _, _, _⟩) hashT.row rfl (.tmp 6) (.tmp 59) rfl rfl rfl t.out.b6 (by simp [pl.out]) (by simp [yh.out]) (one_ab _) ?_); intro w7 b7 k7
                 have t := Lib.hid (t.out.put b7 k7)
                 clear b7 k7))
            go_roundg (m.length - (i + 1))
            case measure => omega
            case rel =>
              refine ⟨i + 1, by omega, by omega, by go_num, ?_, ?_⟩
              · rw [e2.out]
              · rw [e2.out]; exact t
          · by_cases c2 : n = q2
            · subst c2
              have cb := Lib.hid (fun (u : World) (t : BeM w g4 g6 (some ⟨gb, ob, none⟩) d m p1 u) (b10 : Blk u g10 63 y.c.toArray) => bcompare_any (hash_sl yh.out (Vt.hr b10)) (hash_sl pl.out (blk_rng t.b6)))
              generalize hbc : bcmp y.h p1 = bc at *
              have hbc2 := Lib.hid hbc
              clear hbc
              by_cases c3 : bc < 0
              · have e2 : bst m (i + 1) = (y.h, n) := by rw [est2.out, if_pos (.inr ⟨rfl, c3⟩)]
                replace e2 := Lib.hid e2
                clear est2
                go_wp2_with (first
                  | ((with_reducible refine wpl_loadp (o := ⟨some 41, _, _, _, _, _⟩) hashT.row rfl (.tmp 40) rfl rfl (Vt.hr b10.out) (by simp [yh.out]) ?_))
                  | (go_at_call 11; (with_reducible refine (cc.out _ t.out.k).mono ?_); rintro e w6 ⟨rfl, kk⟩
                     replace t := Lib.hid (t.out.kept kk)
                     replace b10 := Lib.hid (b10.out.kept kk (by simp))
                     clear kk))
                refine Txt.wp_text (by kernel_rfl) (by kernel_rfl) ?_
                replace t := Lib.hid (t.out.kept (Kept.refl [] _).drew)
                replace b10 := Lib.hid (b10.out.drew)
                go_wp2_with (first
                  | (go_at_call 22; (with_reducible refine (cb.out _ t.out b10.out).mono ?_); rintro e w6 ⟨rfl, kk⟩
                     replace t := Lib.hid (t.out.kept kk)
                     replace b10 := Lib.hid (b10.out.kept kk (by simp))
                     clear kk))
                refine ⟨rfl, by kernel_rfl, ?_⟩
                go_wp2_with (first
                  | ((with_reducible refine wpl_loadp (o := ⟨some 59, _, _, _, _, _⟩) hashT.row rfl (.tmp 58) rfl rfl (Vt.hr b10.out) (by simp [yh.out]) ?_))
                  | ((refine wpl_store_row (o := ⟨none, Op.store 30 (.tmp 6) (.tmp 59), _, _, _, _⟩) hashT.row rfl (.tmp 6) (.tmp 59) rfl rfl rfl t.out.b6 (by simp [pl.out]) (by simp [yh.out]) (one_ab _) ?_); intro w7 b7 k7
                     have t := Lib.hid (t.out.put b7 k7)
                     clear b7 k7))
                go_roundg (m.length - (i + 1))
                case measure => omega
                case rel =>
                  refine ⟨i + 1, by omega, by omega, by go_num, ?_, ?_⟩
                  · rw [e2.out]
                  · rw [e2.out]; exact t
              · have e2 : bst m (i + 1) = (p1, n) := by rw [est2.out, if_neg (by omega)]
                replace e2 := Lib.hid e2
                clear est2
                go_wp2_with (first
                  | ((with_reducible refine wpl_loadp (o := ⟨some 41, _, _, _, _, _⟩) hashT.row rfl (.tmp 40) rfl rfl (Vt.hr b10.out) (by simp [yh.out]) ?_))
                  | (go_at_call 11; (with_reducible refine (cc.out _ t.out.k).mono ?_); rintro e w6 ⟨rfl, kk⟩
                     replace t := Lib.hid (t.out.kept kk)
                     replace b10 := Lib.hid (b10.out.kept kk (by simp))
                     clear kk))
                refine Txt.wp_text (by kernel_rfl) (by kernel_rfl) ?_
                replace t := Lib.hid (t.out.kept (Kept.refl [] _).drew)
                replace b10 := Lib.hid (b10.out.drew)
                go_wp2_with (first
                  | (go_at_call 22; (with_reducible refine (cb.out _ t.out b10.out).mono ?_); rintro e w6 ⟨rfl, kk⟩
                     replace t := Lib.hid (t.out.kept kk)
                     replace b10 := Lib.hid (b10.out.kept kk (by simp))
                     clear kk))
                refine ⟨rfl, by kernel_rfl, ?_⟩
                go_wp2_with fail
                go_roundg (m.length - (i + 1))
                case measure => omega
                case rel =>
                  refine ⟨i + 1, by omega, by omega, by go_num, ?_, ?_⟩
                  · rw [e2.out]
                  · rw [e2.out]; exact t
            · have e2 : bst m (i + 1) = (p1, q2) := by rw [est2.out, if_neg (by omega)]
              replace e2 := Lib.hid e2
              clear est2
              have c3 : ¬ (n : Int) = (q2 : Int) := by omega
              have c4 : ((n : Int) == (q2 : Int)) = false := by simpa using c3
              go_wp2_with (first
                | ((with_reducible refine wpl_loadp (o := ⟨some 41, _, _, _, _, _⟩) hashT.row rfl (.tmp 40) rfl rfl (Vt.hr b10.out) (by simp [yh.out]) ?_))
                | (go_at_call 11; (with_reducible refine (cc.out _ t.out.k).mono ?_); rintro e w6 ⟨rfl, kk⟩
                   replace t := Lib.hid (t.out.kept kk)
                   replace b10 := Lib.hid (b10.out.kept kk (by simp))
                   clear kk))
              refine Txt.wp_text (by kernel_rfl) (by kernel_rfl) ?_
              replace t := Lib.hid (t.out.kept (Kept.refl [] _).drew)
              replace b10 := Lib.hid (b10.out.drew)
              go_wp2_with fail
              refine ⟨rfl, by kernel_rfl, ?_⟩
              go_wp2_with fail
              go_roundg (m.length - (i + 1))
              case measure => omega
              case rel =>
                refine ⟨i + 1, by omega, by omega, by go_num, ?_, ?_⟩
                · rw [e2.out]
                · rw [e2.out]; exact t
    · have hkm : k = m.length := by omega
      subst hkm
      have pl := Lib.hid (hlen.out _ (Nat.le_refl _))
      generalize hp : bst m m.length = p at *
      have hp2 := Lib.hid hp
      clear hp
      go_wp2_with (first
        | ((with_reducible refine wpl_load_row (o := ⟨some 62, _, _, _, _, _⟩) hashT.row rfl (.tmp 6) rfl rfl t.out.b6 (by simp [pl.out]) ?_))
        | ((refine wpl_store_row (o := ⟨none, Op.store 30 (.tmp 4) (.tmp 62), _, _, _, _⟩) hashT.row rfl (.tmp 4) (.tmp 62) rfl rfl rfl t.out.b4 (by simp) (by simp [pl.out]) (one_ab _) ?_); intro w7 b7 k7
           have b7' := Lib.hid b7
           have k7' := Lib.hid (t.out.k.then1 k7 t.out.l4)
           clear b7 k7))
      rw [Exit.noGoto_ret]
      exact ret_row2 hashT.row rfl rfl b7'.out (by simp [pl.out]) rfl ⟨by rw [hp2.out]; rfl, k7'.out⟩
end Go.Proofs.Ythffkgnbgncfaaa
