/-
  Slots: the shares of those who said it.
-/
import Derived.Test.YthffkgnbgncfaaaSt10
namespace Go.Proofs.Ythffkgnbgncfaaa
open Go.RowKit Go.Mem Go.Txt

/-- The votes of a view, whichever way they are got. -/
structure Ofs (w : World) (tv : Value) (vw : Int) (m : List Vt) : Prop where
  ok : ∀ v ∈ m, v.ok
  n : m.length < 1099511627776
  c : ∀ u, Kept [] w u → ∃ B d, Rd u 98 (.slice B m.length d) m.length (vcs m) ∧ (0 < m.length → ∀ k, (Value.slice B m.length d).ownBlock = some k → k < w.heap.size) ∧ OfC u tv vw B m.length d
theorem Ofs.kept {w w' : World} {tv : Value} {vw : Int} {m : List Vt} (h : Ofs w tv vw m) (hk : Kept [] w w') : Ofs w' tv vw m := ⟨h.ok, h.n, fun u hu => by
  obtain ⟨B, d, h1, h2, h3⟩ := h.c u (hk.then0 hu)
  exact ⟨B, d, h1, fun h0 k e => hk.lt (h2 h0 k e), h3⟩⟩
theorem Ofs.nil (w : World) (vw : Int) : Ofs w (.pointer none) vw [] := ⟨by simp, by simp, fun u _ => ⟨none, 0, Rd.nil u 98, by simp, of_nil vw u⟩⟩
theorem Tl.ofs {g : Nat} {f : Int} {l : List Vt} {v : Value} {w : World} (t : Tl w g f l v) (hf : 0 ≤ f ∧ f ≤ 1000000) (hi : inR f l) (vw : Int) : Ofs w (.pointer (some ⟨g, 0, none⟩)) vw (ofv l vw) :=
  ⟨ofv_ok t.ok vw, Nat.lt_of_le_of_lt (List.length_filter_le _ _) t.n, fun _ hu => by
    obtain ⟨B, d, h1, h2, h3⟩ := of_any (t.kept hu) hf hi vw
    exact ⟨B, d, h1, fun h0 k e => t.o.lt (by rw [← h2 h0]; exact e), h3⟩⟩
/-- A share. -/
def shc (v : Vt) : List Value := .int .i64 v.fr :: bv v.s
abbrev shs (l : List Vt) : List Value := l.flatMap shc
theorem shc_len {v : Vt} (h : v.ok) : (shc v).length = 65 := by simp [shc, h.2]
theorem shc_one (v : Vt) : ∀ u ∈ shc v, u.oneCell' = true := by
  intro u hu
  rcases List.mem_cons.1 hu with rfl | hu
  · rfl
  · exact one_bv _ _ hu
def sz : Value := .agg (.int .i64 0 :: bv (List.replicate 64 0)).toArray
theorem sharesT : SliceT Try.prog 35 38 65 72 sz := ⟨Try.underlying35, by kernel_rfl, rfl, by omega⟩
theorem shareR : RowT Try.prog 38 65 := ⟨⟨_, Try.underlying38, rfl⟩, by kernel_rfl⟩
theorem sh_gen (fr : Int) (q : Nat → UInt8) : Try.prog.built 38 [(0, .int .i64 fr), (1, ab ((List.range 64).map q))] = some ((.int .i64 fr :: bv ((List.range 64).map q)) : List Value).toArray := by kernel_rfl
theorem sh_built (v : Vt) (h : v.ok) : Try.prog.built 38 [(0, .int .i64 v.fr), (1, ab v.s)] = some (shc v).toArray := by
  unfold shc
  rw [as_map h.2]
  exact sh_gen _ _
theorem Vt.hr {v : Vt} {w : World} {g : Nat} {bt : TypeId} (h : Blk w g bt v.c.toArray) : w.rangeAt g 2 (bv v.h) := Blk.range (pre := [.int .i64 v.fr, .int .i64 v.vw]) (post := bv v.s) h rfl
theorem Vt.sr {v : Vt} {w : World} {g : Nat} {bt : TypeId} (hh : v.h.length = 32) (h : Blk w g bt v.c.toArray) : w.rangeAt g 34 (bv v.s) := Blk.range (pre := .int .i64 v.fr :: .int .i64 v.vw :: bv v.h) (post := []) (by simpa [Vt.c] using h) (by simp [hh])
/-- Those who said it. -/
def saidv (m : List Vt) (h : List UInt8) : List Vt := m.filter fun v => v.h == h
theorem vz_info : (Try.prog.info? 63).map (·.zero) = some (some vz) := by kernel_rfl
theorem eg32 : Try.prog.eqGuardType Try.prog.depth 30 = false := by kernel_rfl
theorem saidv_step {m : List Vt} {k : Nat} (hk : k < m.length) (h : List UInt8) : saidv (m.take (k + 1)) h = if m[k].h == h then saidv (m.take k) h ++ [m[k]] else saidv (m.take k) h := by
  rw [List.take_succ_eq_append_getElem hk, saidv, List.filter_append]
  cases hb : (m[k].h == h) with
  | true => rw [List.filter_cons_of_pos (by simpa using hb)]; rfl
  | false => rw [List.filter_cons_of_neg (by simpa using hb)]; simp [saidv]
/-- What a round knows. -/
structure ShM (w0 : World) (g5 : Nat) (B : Option Addr) (d : Nat) (m : List Vt) (h : List UInt8) (v : Value) (n : Nat) (xs : List Value) (u : World) : Prop where
  b : Blk u g5 30 (bv h).toArray
  r : Rd u 98 (.slice B m.length d) m.length (vcs m)
  o : Ow u 38 65 v n xs
  k : Kept [] w0 u
  f : ∀ k, v.ownBlock = some k → w0.heap.size ≤ k
  l : w0.heap.size ≤ g5
  q : 0 < m.length → ∀ k, (Value.slice B m.length d).ownBlock = some k → k < w0.heap.size
theorem ShM.kept {w0 : World} {g5 : Nat} {B : Option Addr} {d : Nat} {m : List Vt} {h : List UInt8} {v : Value} {n : Nat} {xs : List Value} {u u' : World} (t : ShM w0 g5 B d m h v n xs u) (hk : Kept [] u u') : ShM w0 g5 B d m h v n xs u' :=
  ⟨t.b.kept hk (by simp), t.r.kept0 hk, t.o.kept0 hk, t.k.then0 hk, t.f, t.l, t.q⟩
theorem ShM.then1 {w0 : World} {g5 : Nat} {B : Option Addr} {d : Nat} {m : List Vt} {h : List UInt8} {v : Value} {n : Nat} {xs : List Value} {u u' u2 : World} {g9 : Nat} {bt : TypeId} {cs : Array Value} (t : ShM w0 g5 B d m h v n xs u) (hm : Made u u' g9 bt cs) (hk : Kept [g9] u' u2) : ShM w0 g5 B d m h v n xs u2 :=
  ⟨(t.b.kept hm.kept (by simp)).kept hk (by have := t.b.lt; have := hm.le; simp; omega),
    (t.r.kept0 hm.kept).kept hk (t.r.old (by omega) (by simpa using hm.le)),
    (t.o.kept0 hm.kept).kept hk (fun k h => by have := t.o.lt h; have := hm.le; simp; omega),
    (t.k.then0 hm.kept).then1 hk (Nat.le_trans t.k.size hm.le), t.f, t.l, t.q⟩
/-- What Shares hands back. -/
abbrev ShsP (w : World) (m : List Vt) (h : List UInt8) (e : Ending) (w' : World) : Prop :=
  ∃ v, e = .returned v ∧ Ow w' 38 65 v (saidv m h).length (shs (saidv m h)) ∧ Kept [] w w' ∧ ∀ k, v.ownBlock = some k → w.heap.size ≤ k
set_option maxRecDepth 100000 in
set_option maxHeartbeats 3200000 in
theorem shares_any {tv : Value} {vw : Int} {m : List Vt} {w : World} (F : Ofs w tv vw m) {h : List UInt8} (hh : h.length = 32) :
    Calls Try.prog 10 #[tv, .int .i64 vw, ab h] w (ShsP w m h) := by
  have hn := F.n
  have F2 := Lib.hid F
  have hh2 := Lib.hid hh
  clear F hh
  go_enter Try.func10, Try.ntmps10
  go_wp2_with (first
    | ((with_reducible refine wpl_box (o := ⟨some 5, _, _, _, _, _⟩) (v := ab h) rfl (.tmp 2) rfl rfl ?_); intro g5 w5 m5
       obtain ⟨B, d, hr, hq, hc⟩ := F2.out.c w5 m5.kept
       replace hq := Lib.hid hq
       replace hr := Lib.hid hr
       replace hc := Lib.hid hc
       have b5 := Lib.hid m5.blk
       have l5 := Lib.hid m5.le
       have K := Lib.hid m5.kept
       clear m5)
    | (go_at_call 21; (with_reducible refine (hc.out).mono ?_); rintro e v ⟨rfl, kk⟩
       have t := Lib.hid (show ShM w g5 B d m h (.slice none 0 0) 0 [] v from ⟨b5.out.kept kk (by simp), hr.out.kept0 kk, Ow.nil _ _ _, K.out.then0 kk, by simp [Value.ownBlock], l5.out, hq.out⟩)
       clear kk hr hc b5 K l5 hq))
  go_loopg [7, 14] m.length (fun f o i wk => ∃ (k : Nat) (A : Option Addr) (c : Nat), k ≤ m.length ∧ f + k = m.length ∧ i = .int .i64 (k : Int) ∧ o = .slice A (saidv (m.take k) h).length c ∧ (saidv (m.take k) h).length ≤ c ∧ Hid (ShM w g5 B d m h (.slice A (saidv (m.take k) h).length c) (saidv (m.take k) h).length (shs (saidv (m.take k) h)) wk))
  case atStart => exact ⟨0, none, 0, by omega, by omega, rfl, rfl, by simp [saidv], t⟩
  case round =>
    clear t
    obtain ⟨k, A, c, hk, hf, rfl, rfl, hlc, t⟩ := hrel
    by_cases hlt : k < m.length
    · have y0 := hlt
      obtain ⟨gb, ob, cb, hv2, _⟩ := vote_at t.out.r F2.out.ok hlt
      have hB : B = some ⟨gb, ob, none⟩ := by cases hv2; rfl
      subst hB
      clear hv2
      have yok := F2.out.ok _ (List.getElem_mem hlt)
      have hra := Lib.hid (fun (W : World) (r : Rd W 98 (.slice (some ⟨gb, ob, none⟩) m.length d) m.length (vcs m)) => vote_rng r F2.out.ok hlt)
      have est := saidv_step hlt h
      have s5 := Lib.hid (sh_built _ yok)
      have ys := Lib.hid (shc_len yok)
      have ly := Lib.hid (Vt.len yok)
      obtain ⟨yh, ysig⟩ := yok
      replace yh := Lib.hid yh
      replace ysig := Lib.hid ysig
      replace est := Lib.hid est
      have hsn : (saidv (m.take k) h).length ≤ k := Nat.le_trans (List.length_filter_le _ _) (by rw [List.length_take]; omega)
      generalize m[k] = y at *
      cases hb : (y.h == h) with
      | false =>
        have e2 : saidv (m.take (k + 1)) h = saidv (m.take k) h := by rw [est.out, hb]; rfl
        replace e2 := Lib.hid e2
        replace hb := Lib.hid hb
        clear est
        go_wp2_with (first
          | ((with_reducible refine wpl_idxs (o := ⟨some 16, _, _, _, _, _⟩) (i := k) votesT rfl (.tmp 12) (.tmp 14) rfl rfl rfl hlt ?_))
          | ((with_reducible refine wpl_loadp (o := ⟨some 17, _, _, _, _, _⟩) voteR rfl (.tmp 16) rfl rfl (hra.out _ t.out.r) ly.out ?_))
          | ((with_reducible refine wpl_new (o := ⟨some 9, _, _, _, _, _⟩) rfl rfl vz_info ?_); intro g9 w9 m9
             have tt := Lib.hid (fun u2 (hk : Kept [g9] w9 u2) => t.out.then1 m9 hk)
             clear t)
          | ((refine wpl_store_row (o := ⟨none, Op.store 63 (.tmp 9) (.tmp 17), _, _, _, _⟩) voteR rfl (.tmp 9) (.tmp 17) rfl rfl rfl m9.blk rfl (by simpa using ly.out) (by rw [Array.all_eq_true_iff_forall_mem]; intro u hu; exact one_vc y u (by simpa using hu)) ?_); intro w8 b9 k9
             have t := Lib.hid (tt.out w8 k9)
             replace b9 := Lib.hid b9
             have q9 := Vt.f0 b9.out
             clear k9 m9 tt)
          | ((with_reducible refine wpl_loadp (o := ⟨some 19, _, _, _, _, _⟩) hashT.row rfl (.tmp 18) rfl rfl (Vt.hr b9.out) (by simp [yh.out]) ?_))
          | ((with_reducible refine wpl_load_row (o := ⟨some 20, _, _, _, _, _⟩) hashT.row rfl (.tmp 5) rfl rfl t.out.b (by simp [hh2.out]) ?_))
          | ((with_reducible refine wpl_eql_ab (o := ⟨some 21, _, _, _, _, _⟩) hashT Try.underlying5 (by kernel_rfl) eg32 rfl (.tmp 19) (.tmp 20) rfl rfl rfl yh.out hh2.out hb.out ?_)))
        go_roundg (m.length - (k + 1))
        case measure => omega
        case rel =>
          refine ⟨k + 1, A, c, by omega, by omega, by go_num, ?_, ?_, ?_⟩
          · rw [e2.out]
          · rw [e2.out]; exact hlc
          · rw [e2.out]; exact t
      | true =>
        have e2 : saidv (m.take (k + 1)) h = saidv (m.take k) h ++ [y] := by rw [est.out, hb]; rfl
        replace e2 := Lib.hid e2
        replace hb := Lib.hid hb
        clear est
        generalize saidv (m.take k) h = L at *
        go_wp2_with (first
          | ((with_reducible refine wpl_idxs (o := ⟨some 16, _, _, _, _, _⟩) (i := k) votesT rfl (.tmp 12) (.tmp 14) rfl rfl rfl hlt ?_))
          | ((with_reducible refine wpl_loadp (o := ⟨some 17, _, _, _, _, _⟩) voteR rfl (.tmp 16) rfl rfl (hra.out _ t.out.r) ly.out ?_))
          | ((with_reducible refine wpl_new (o := ⟨some 9, _, _, _, _, _⟩) rfl rfl vz_info ?_); intro g9 w9 m9
             have tt := Lib.hid (fun u2 (hk : Kept [g9] w9 u2) => t.out.then1 m9 hk)
             clear t)
          | ((refine wpl_store_row (o := ⟨none, Op.store 63 (.tmp 9) (.tmp 17), _, _, _, _⟩) voteR rfl (.tmp 9) (.tmp 17) rfl rfl rfl m9.blk rfl (by simpa using ly.out) (by rw [Array.all_eq_true_iff_forall_mem]; intro u hu; exact one_vc y u (by simpa using hu)) ?_); intro w8 b9 k9
             have t := Lib.hid (tt.out w8 k9)
             replace b9 := Lib.hid b9
             have q9 := Vt.f0 b9.out
             clear k9 m9 tt)
          | ((with_reducible refine wpl_loadp (o := ⟨some 19, _, _, _, _, _⟩) hashT.row rfl (.tmp 18) rfl rfl (Vt.hr b9.out) (by simp [yh.out]) ?_))
          | ((with_reducible refine wpl_load_row (o := ⟨some 20, _, _, _, _, _⟩) hashT.row rfl (.tmp 5) rfl rfl t.out.b (by simp [hh2.out]) ?_))
          | ((with_reducible refine wpl_eql_ab (o := ⟨some 21, _, _, _, _, _⟩) hashT Try.underlying5 (by kernel_rfl) eg32 rfl (.tmp 19) (.tmp 20) rfl rfl rfl yh.out hh2.out hb.out ?_))
          | ((with_reducible refine wpl_loadp (o := ⟨some 26, _, _, _, _, _⟩) sigT.row rfl (.tmp 25) rfl rfl (Vt.sr yh.out b9.out) (by simp [ysig.out]) ?_))
          | ((with_reducible refine wpl_build2 (o := ⟨some 27, _, _, _, _, _⟩) (v := .int .i64 y.fr) (u := ab y.s) rfl 0 1 (.tmp 24) (.tmp 26) rfl rfl rfl s5.out ?_))
          | ((refine wpl_bslice1 (o := ⟨some 28, _, _, _, _, _⟩) (v0 := .agg (shc y).toArray) (cells := (shc y).toArray) rfl sharesT rfl rfl (by decide) rfl (by simpa using ys.out) ?_); intro g7 w7 m7
             have t := Lib.hid (t.out.kept m7.kept)
             have b7 := Lib.hid (show Rd w7 65 (.slice (some ⟨g7, 0, none⟩) 1 1) 1 (shc y) from ⟨_, _, rfl, by rw [ys.out], by omega, fun _ => ⟨g7, 0, rfl, fun j u hu => by rw [m7.blk.cell]; simpa using hu⟩⟩)
             clear m7)
          | (at_builtin
             refine wpl_app (n := L.length) (m := 1) sharesT rfl (.tmp 22) (.tmp 28) rfl rfl t.out.o rfl b7.out (shc_one y) (by omega) (by omega) ?_
             intro v' w6 o6 k6 f6
             obtain ⟨A', c', hv', hlc'⟩ := o6.shape
             subst hv'
             have o6' := Lib.hid o6
             have k6' := Lib.hid k6
             have f6' := Lib.hid f6
             clear o6 k6 f6))
        go_roundg (m.length - (k + 1))
        case measure => omega
        case rel =>
          refine ⟨k + 1, A', c', by omega, by omega, by go_num, ?_, ?_, ?_⟩
          · rw [e2.out, List.length_append]; rfl
          · rw [e2.out, List.length_append]; exact hlc'
          · rw [e2.out, List.length_append, show shs (L ++ [y]) = shs L ++ shc y from by simp [shs]]
            have T := t.out
            refine ⟨T.b.kept k6'.out (notin_own (T.o.blk_ne T.b (by decide))), T.r.kept k6'.out (fun h0 k hk => notin_own fun e => ?_), o6'.out, T.k.fresh k6'.out fun k hk => T.f k (mem_own hk), fun k hk => ?_, T.l, T.q⟩
            · have := T.q h0 k hk; have := T.f k e; omega
            · rcases f6'.out with e | e
              · exact T.f k (e.symm.trans hk)
              · have e2 : some w7.heap.size = some k := e.symm.trans hk
                injection e2 with e2
                rw [← e2]
                exact T.k.size
    · have hkm : k = m.length := by omega
      subst hkm
      go_wp2_with fail
      go_ret
      have t3 := t.out
      simp only [List.take_length] at t3
      refine ⟨_, ?_, t3.o, t3.k, t3.f⟩
      show Ending.returned (.slice A (saidv (m.take m.length) h).length c) = _
      rw [List.take_length]
end Go.Proofs.Ythffkgnbgncfaaa
