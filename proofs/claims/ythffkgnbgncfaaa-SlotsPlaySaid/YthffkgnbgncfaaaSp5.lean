/-
  Slots, the document's answer: views are forgotten; nil tallies add nothing.
-/
import Derived.Test.YthffkgnbgncfaaaSp4
namespace Go.Proofs.Ythffkgnbgncfaaa
open Go.RowKit Go.Mem Go.Txt

/-- The votes not of views below. -/
def rfor (vw : Int) (l : List Vt) : List Vt := l.filter fun v => decide (vw ≤ v.vw)
theorem rfor_le (vw : Int) (l : List Vt) : (rfor vw l).length ≤ l.length := List.length_filter_le _ _
theorem rfor_step {l : List Vt} {k : Nat} (hk : k < l.length) (vw : Int) : rfor vw (l.take (k + 1)) = rfor vw (l.take k) ++ (if vw ≤ l[k].vw then [l[k]] else []) := by
  rw [List.take_succ_eq_append_getElem hk, rfor, List.filter_append]
  congr 1
  by_cases h : vw ≤ l[k].vw
  · rw [List.filter_cons_of_pos (by simpa using h), if_pos h]; rfl
  · rw [List.filter_cons_of_neg (by simpa using h), if_neg h]; rfl
/-- What a round knows. -/
structure RfM (w0 : World) (g : Nat) (f : Int) (l : List Vt) (v : Value) (ov : Value) (n : Nat) (xs : List Value) (u : World) : Prop where
  t : Rt u g f l v
  o : Ow u 51 98 ov n xs
  k : Kept [] w0 u
  f : ∀ k, ov.ownBlock = some k → w0.heap.size ≤ k
  gl : g < w0.heap.size
  vl : ∀ k, v.ownBlock = some k → k < w0.heap.size
theorem RfM.kept {w0 : World} {g : Nat} {f : Int} {l : List Vt} {v : Value} {ov : Value} {n : Nat} {xs : List Value} {u u' : World} (t : RfM w0 g f l v ov n xs u) (hk : Kept [] u u') : RfM w0 g f l v ov n xs u' :=
  ⟨t.t.kept hk, t.o.kept0 hk, t.k.then0 hk, t.f, t.gl, t.vl⟩
/-- What Forget hands back. -/
abbrev RForP (w : World) (g : Nat) (f : Int) (m : List Vt) (e : Ending) (w' : World) : Prop :=
  e = .returned (.tuple #[]) ∧ ∃ v', Rt w' g f m v' ∧ Kept [g] w w' ∧ ∀ k, v'.ownBlock = some k → w.heap.size ≤ k
set_option maxRecDepth 100000 in
set_option maxHeartbeats 3200000 in
theorem rforget_any {g : Nat} {f : Int} {l : List Vt} {v : Value} {w : World} (t : Rt w g f l v) (vw : Int) :
    Calls Try.prog 13 #[.pointer (some ⟨g, 0, none⟩), .int .i64 vw] w (RForP w g f (rfor vw l)) := by
  obtain ⟨A, c, rfl, hnc⟩ := t.o.shape
  have hok := Lib.hid t.ok
  have hl6 := t.n
  have K0 := Lib.hid (show RfM w g f l (.slice A l.length c) (.slice none 0 0) 0 [] w from ⟨t, Ow.nil _ _ _, Kept.refl _ _, by simp [Value.ownBlock], t.b.lt, fun k h => t.o.lt h⟩)
  have q1 := t.f1
  clear t
  go_enter Try.func13, Try.ntmps13
  go_wp2_with fail
  clear q1
  go_loopg [4, 12] l.length (fun fu o i wk => ∃ (k : Nat) (A' : Option Addr) (c' : Nat), k ≤ l.length ∧ fu + k = l.length ∧ i = .int .i64 (k : Int) ∧ o = .slice A' (rfor vw (l.take k)).length c' ∧ (rfor vw (l.take k)).length ≤ c' ∧ Hid (RfM w g f l (.slice A l.length c) (.slice A' (rfor vw (l.take k)).length c') (rfor vw (l.take k)).length (vcs (rfor vw (l.take k))) wk))
  case atStart => exact ⟨0, none, 0, by omega, by omega, rfl, rfl, by simp [rfor], K0⟩
  case round =>
    clear K0
    obtain ⟨k, A', c', hk, hfu, rfl, rfl, hlc, M⟩ := hrel
    by_cases hlt : k < l.length
    · obtain ⟨gb, ob, cb, hv2, _⟩ := vote_at (Rd.of_ow M.out.t.o) hok.out hlt
      obtain rfl : A = some ⟨gb, ob, none⟩ := by cases hv2; rfl
      clear hv2
      have hra := Lib.hid (fun u (o : Ow u 51 98 (.slice (some ⟨gb, ob, none⟩) l.length c) l.length (vcs l)) => vote_rng (Rd.of_ow o) hok.out hlt)
      have es := rfor_step hlt vw
      have yok := Lib.hid (hok.out _ (List.getElem_mem hlt))
      have hlti : (k : Int) < l.length := by omega
      have hsl : (rfor vw (l.take k)).length ≤ 1000000 := Nat.le_trans (rfor_le _ _) (by rw [List.length_take]; omega)
      generalize rfor vw (l.take k) = Z at *
      generalize l[k] = y at *
      have ly := Lib.hid (Vt.len yok.out)
      by_cases e1 : vw ≤ y.vw
      · rw [if_pos e1] at es
        replace es := Lib.hid es
        go_wp2_with (first
          | ((with_reducible refine wpl_at 15 ?_; refine wpl_loadp (o := ⟨some 15, _, _, _, _, _⟩) rvoteR rfl (.tmp 14) rfl rfl (hra.out _ M.out.t.o) ly.out ?_))
          | ((with_reducible refine wpl_new (o := ⟨some 6, _, _, _, _, _⟩) rfl rfl rvz_info ?_); intro g6 w6 m6)
          | ((refine wpl_store_row (o := ⟨none, Op.store 51 (.tmp 6) (.tmp 15), _, _, _, _⟩) rvoteR rfl (.tmp 6) (.tmp 15) rfl rfl rfl m6.blk rfl (by simpa using ly.out) (by rw [Array.all_eq_true_iff_forall_mem]; intro u hu; exact one_vc y u (by simpa using hu)) ?_); intro w8 b6 k6
             replace M := Lib.hid (M.out.kept (m6.kept.then1 k6 m6.le))
             have q6 := Vt.f1 b6
             replace b6 := Lib.hid b6
             clear m6 k6)
          | (with_reducible refine wpl_at 21 ?_; refine wpl_load_row (o := ⟨some 21, _, _, _, _, _⟩) rvoteR rfl (.tmp 6) rfl rfl b6.out (by simpa using ly.out) ?_)
          | ((with_reducible refine wpl_at 22 ?_); (refine wpl_bslice1 (o := ⟨some 22, _, _, _, _, _⟩) (v0 := y.v) (cells := y.c.toArray) rfl rvotesT rfl rfl (by decide) rfl (by simpa using ly.out) ?_); intro g7 w7 m7
             replace M := Lib.hid (M.out.kept m7.kept)
             have b7 := Lib.hid (show Rd w7 98 (.slice (some ⟨g7, 0, none⟩) 1 1) 1 y.c from ⟨_, _, rfl, by rw [ly.out], by omega, fun _ => ⟨g7, 0, rfl, fun j u hu => by rw [m7.blk.cell]; simpa using hu⟩⟩)
             clear m7)
          | (at_builtin
             refine wpl_app (n := Z.length) (m := 1) rvotesT rfl (.tmp 20) (.tmp 22) rfl rfl M.out.o rfl b7.out (one_vc y) (by omega) (by omega) ?_
             intro v' w9 o9 k9 f9
             obtain ⟨A2, c2, hv', hlc'⟩ := o9.shape
             subst hv'
             have o9' := Lib.hid o9
             have k9' := Lib.hid k9
             have f9' := Lib.hid f9
             clear o9 k9 f9))
        go_roundg (l.length - (k + 1))
        case measure => omega
        case rel =>
          refine ⟨k + 1, A2, c2, by omega, by omega, by go_num, ?_⟩
          rw [es.out, List.length_append, show vcs (Z ++ [y]) = vcs Z ++ y.c from by simp [vcs]]
          refine ⟨rfl, hlc', Lib.hid ?_⟩
          have X := M.out
          refine ⟨⟨X.t.b.kept k9'.out (notin_own fun e => ?_), X.t.o.kept k9'.out (fun k hk => notin_own fun e => ?_), X.t.ok, X.t.n⟩, o9'.out, X.k.fresh k9'.out fun k hk => X.f k (mem_own hk), fun k hk => ?_, X.gl, X.vl⟩
          · have := X.f _ e; have := X.gl; omega
          · have := X.vl _ hk; have := X.f _ e; omega
          · rcases f9'.out with e | e
            · exact X.f k (e.symm.trans hk)
            · have e2 : some w7.heap.size = some k := e.symm.trans hk
              injection e2 with e2
              rw [← e2]
              exact X.k.size
      · rw [if_neg e1, List.append_nil] at es
        replace es := Lib.hid es
        go_wp2_with (first
          | ((with_reducible refine wpl_at 15 ?_; refine wpl_loadp (o := ⟨some 15, _, _, _, _, _⟩) rvoteR rfl (.tmp 14) rfl rfl (hra.out _ M.out.t.o) ly.out ?_))
          | ((with_reducible refine wpl_new (o := ⟨some 6, _, _, _, _, _⟩) rfl rfl rvz_info ?_); intro g6 w6 m6)
          | ((refine wpl_store_row (o := ⟨none, Op.store 51 (.tmp 6) (.tmp 15), _, _, _, _⟩) rvoteR rfl (.tmp 6) (.tmp 15) rfl rfl rfl m6.blk rfl (by simpa using ly.out) (by rw [Array.all_eq_true_iff_forall_mem]; intro u hu; exact one_vc y u (by simpa using hu)) ?_); intro w8 b6 k6
             replace M := Lib.hid (M.out.kept (m6.kept.then1 k6 m6.le))
             have q6 := Vt.f1 b6
             replace b6 := Lib.hid b6
             clear m6 k6))
        go_roundg (l.length - (k + 1))
        case measure => omega
        case rel =>
          refine ⟨k + 1, A', c', by omega, by omega, by go_num, ?_⟩
          rw [es.out]
          exact ⟨rfl, hlc, M⟩
    · obtain rfl : k = l.length := by omega
      have nlt : ¬ ((l.length : Nat) : Int) < (l.length : Nat) := by omega
      rw [List.take_length] at M hlc
      rw [List.take_length]
      have hsl := rfor_le vw l
      have rok : ∀ v ∈ rfor vw l, v.ok := fun v hv => hok.out v (List.mem_filter.1 hv).1
      replace rok := Lib.hid rok
      generalize hz : rfor vw l = Z at *
      clear hz
      have q2 : wr.cell? ⟨g, 1, none⟩ = some (.slice A l.length c) := M.out.t.f1
      have q3 := M.out.t.b.frozen 1
      go_wp2_with fail
      go_end0
      refine ⟨rfl, .slice A' Z.length c', ?_, ?_, M.out.f⟩
      · exact ⟨M.out.t.b.set_ 1 _, M.out.o.setCell (p := ⟨g, 1, none⟩) (M.out.o.blk_ne M.out.t.b (by decide)) _, rok.out, by omega⟩
      · exact (M.out.k.of0 (S := [g])).setCell (.inl (by simp)) _
set_option maxRecDepth 100000 in
set_option maxHeartbeats 800000 in
theorem add_nil (fr vw : Int) (h s : List UInt8) (w : World) : Calls Try.prog 8 #[.pointer none, .int .i64 fr, .int .i64 vw, ab h, ab s] w fun e w' => e = .returned (.bool false) ∧ Kept [] w w' := by
  go_enter Try.func8, Try.ntmps8
  go_wp2_with (first
    | ((with_reducible refine wpl_box (o := ⟨some 8, _, _, _, _, _⟩) (v := ab h) rfl (.tmp 3) rfl rfl ?_); intro g8 w8 m8)
    | ((with_reducible refine wpl_box (o := ⟨some 9, _, _, _, _, _⟩) (v := ab s) rfl (.tmp 4) rfl rfl ?_); intro g9 w9 m9
       have K := Lib.hid (m8.kept.then0 m9.kept)
       clear m8 m9))
  go_ret
  exact ⟨rfl, K.out⟩
end Go.Proofs.Ythffkgnbgncfaaa
