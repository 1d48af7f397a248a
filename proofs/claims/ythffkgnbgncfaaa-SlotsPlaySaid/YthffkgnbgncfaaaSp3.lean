/-
  Slots, the document's answer: shares.
-/
import Derived.Test.YthffkgnbgncfaaaSp2
namespace Go.Proofs.Ythffkgnbgncfaaa
open Go.RowKit Go.Mem Go.Txt

/-- The votes of one replica for one hash in a view. -/
def oneV (vw : Int) (h : List UInt8) (fr : Nat) (l : List Vt) : List Vt := l.filter fun v => decide (v.fr = fr) && (decide (v.vw = vw) && (v.h == h))
/-- The document's shares, of replicas 0 to n - 1. -/
def rsh (l : List Vt) (vw : Int) (h : List UInt8) (n : Nat) : List Vt := (List.range n).flatMap fun fr => oneV vw h fr l
theorem rsh_succ (l : List Vt) (vw : Int) (h : List UInt8) (n : Nat) : rsh l vw h (n + 1) = rsh l vw h n ++ oneV vw h n l := by simp [rsh, List.range_succ]
theorem oneV_le (vw : Int) (h : List UInt8) (fr : Nat) (l : List Vt) : (oneV vw h fr l).length ≤ l.length := List.length_filter_le _ _
theorem rsh_le (l : List Vt) (vw : Int) (h : List UInt8) : ∀ n, (rsh l vw h n).length ≤ n * l.length
  | 0 => by simp [rsh]
  | n + 1 => by have := rsh_le l vw h n; have := oneV_le vw h n l; rw [rsh_succ, List.length_append, Nat.succ_mul]; omega
theorem oneV_step {l : List Vt} {k : Nat} (hk : k < l.length) (vw : Int) (h : List UInt8) (fr : Nat) : oneV vw h fr (l.take (k + 1)) = oneV vw h fr (l.take k) ++ (if decide (l[k].fr = fr) && (decide (l[k].vw = vw) && (l[k].h == h)) then [l[k]] else []) := by
  rw [List.take_succ_eq_append_getElem hk, oneV, List.filter_append]
  congr 1
  cases hb : (decide (l[k].fr = fr) && (decide (l[k].vw = vw) && (l[k].h == h))) with
  | true => rw [List.filter_cons_of_pos (by simpa using hb)]; rfl
  | false => rw [List.filter_cons_of_neg (by simpa using hb)]; rfl
theorem oneR_step (R : List Vt) {l : List Vt} {k : Nat} (hk : k < l.length) (vw : Int) (h : List UInt8) (fr : Nat) : R ++ oneV vw h fr (l.take (k + 1)) = (R ++ oneV vw h fr (l.take k)) ++ (if decide (l[k].fr = fr) && (decide (l[k].vw = vw) && (l[k].h == h)) then [l[k]] else []) := by
  rw [oneV_step hk, List.append_assoc]
/-- What a round knows. -/
structure RsM (w0 : World) (g g5 : Nat) (f : Int) (l : List Vt) (v : Value) (h : List UInt8) (ov : Value) (n : Nat) (xs : List Value) (u : World) : Prop where
  t : Rt u g f l v
  b : Blk u g5 30 (bv h).toArray
  o : Ow u 38 65 ov n xs
  k : Kept [] w0 u
  f : ∀ k, ov.ownBlock = some k → w0.heap.size ≤ k
theorem RsM.kept {w0 : World} {g g5 : Nat} {f : Int} {l : List Vt} {v : Value} {h : List UInt8} {o : Value} {n : Nat} {xs : List Value} {u u' : World} (t : RsM w0 g g5 f l v h o n xs u) (hk : Kept [] u u') : RsM w0 g g5 f l v h o n xs u' :=
  ⟨t.t.kept hk, t.b.kept hk (by simp), t.o.kept0 hk, t.k.then0 hk, t.f⟩
/-- What Shares hands back. -/
abbrev RShsP (w : World) (m : List Vt) (e : Ending) (w' : World) : Prop :=
  ∃ v, e = .returned v ∧ Ow w' 38 65 v m.length (shs m) ∧ Kept [] w w' ∧ ∀ k, v.ownBlock = some k → w.heap.size ≤ k
set_option maxRecDepth 100000 in
set_option maxHeartbeats 3200000 in
theorem rshares_any {g : Nat} {f : Nat} {l : List Vt} {v : Value} {w : World} (t : Rt w g f l v) (hf : f ≤ 1000) (vw : Int) {h : List UInt8} (hh : h.length = 32) :
    Calls Try.prog 15 #[.pointer (some ⟨g, 0, none⟩), .int .i64 vw, ab h] w (RShsP w (rsh l vw h (3 * f + 1))) := by
  obtain ⟨A, c, rfl, hnc⟩ := t.o.shape
  have hok := Lib.hid t.ok
  have hl6 := t.n
  have T := Lib.hid t
  have hh2 := Lib.hid hh
  clear t hh
  go_enter Try.func15, Try.ntmps15
  go_wp2_with (first
    | ((with_reducible refine wpl_box (o := ⟨some 5, _, _, _, _, _⟩) (v := ab h) rfl (.tmp 2) rfl rfl ?_); intro g5 w5 m5
       have M := Lib.hid (show RsM w g g5 f l (.slice A l.length c) h (.slice none 0 0) 0 [] w5 from ⟨T.out.kept m5.kept, m5.blk, Ow.nil _ _ _, m5.kept, by simp [Value.ownBlock]⟩)
       clear m5))
  go_loopg [7, 8] (3 * f + 1) (fun fu o i wk => ∃ (n : Nat) (A' : Option Addr) (c' : Nat), n ≤ 3 * f + 1 ∧ fu + n = 3 * f + 1 ∧ i = .int .i64 (n : Int) ∧ o = .slice A' (rsh l vw h n).length c' ∧ (rsh l vw h n).length ≤ c' ∧ Hid (RsM w g g5 f l (.slice A l.length c) h (.slice A' (rsh l vw h n).length c') (rsh l vw h n).length (shs (rsh l vw h n)) wk))
  case atStart => exact ⟨0, none, 0, by omega, by omega, rfl, rfl, by simp [rsh], M⟩
  case round =>
    clear M
    obtain ⟨n, A', c', hn, hfu, rfl, rfl, hlc, M⟩ := hrel
    have q0 := M.out.t.f0
    have q1 := M.out.t.f1
    by_cases hlt : n < 3 * f + 1
    · have hlti : (n : Int) ≤ 3 * (f : Int) := by omega
      have hrl := rsh_le l vw h n
      have hrl2 : n * l.length ≤ 3001 * 1000000 := Nat.mul_le_mul (by omega) (by omega)
      have hrs := Lib.hid (rsh_succ l vw h n)
      generalize rsh l vw h n = R at *
      go_wp2_with fail
      clear q0 q1
      go_loopg [7, 25] l.length (fun fu o i wk => ∃ (k : Nat) (A' : Option Addr) (c' : Nat), k ≤ l.length ∧ fu + k = l.length ∧ i = .int .i64 (k : Int) ∧ o = .slice A' (R ++ oneV vw h n (l.take k)).length c' ∧ (R ++ oneV vw h n (l.take k)).length ≤ c' ∧ Hid (RsM w g g5 f l (.slice A l.length c) h (.slice A' (R ++ oneV vw h n (l.take k)).length c') (R ++ oneV vw h n (l.take k)).length (shs (R ++ oneV vw h n (l.take k))) wk))
      case atStart => exact ⟨0, A', c', by omega, by omega, rfl, by simp [oneV], by simpa [oneV] using hlc, by simpa [oneV] using M⟩
      case round =>
        clear M hlc
        obtain ⟨k, A', c', hk, hfu, rfl, rfl, hlc, M⟩ := hrel
        by_cases hltk : k < l.length
        · obtain ⟨gb, ob, cb, hv2, _⟩ := vote_at (Rd.of_ow M.out.t.o) hok.out hltk
          obtain rfl : A = some ⟨gb, ob, none⟩ := by cases hv2; rfl
          clear hv2
          have hra := Lib.hid (fun u (o : Ow u 51 98 (.slice (some ⟨gb, ob, none⟩) l.length c) l.length (vcs l)) => vote_rng (Rd.of_ow o) hok.out hltk)
          have es := oneR_step R hltk vw h n
          have yok := Lib.hid (hok.out _ (List.getElem_mem hltk))
          have hltki : (k : Int) < l.length := by omega
          have hon : (oneV vw h n (l.take k)).length ≤ 1000000 := Nat.le_trans (oneV_le _ _ _ _) (by rw [List.length_take]; omega)
          have hsl : (R ++ oneV vw h n (l.take k)).length ≤ 3002 * 1000000 := by rw [List.length_append]; omega
          generalize R ++ oneV vw h n (l.take k) = Z at *
          replace es := Lib.hid es
          generalize l[k] = y at *
          have ly := Lib.hid (Vt.len yok.out)
          have s5 := Lib.hid (sh_built _ yok.out)
          have ys := Lib.hid (shc_len yok.out)
          have yh := Lib.hid yok.out.1
          have ysig := Lib.hid yok.out.2
          by_cases e1 : y.fr = n
          · by_cases e2 : y.vw = vw
            · cases hb : (y.h == h) with
              | true =>
                have e3 := Lib.hid (show R ++ oneV vw h n (l.take (k + 1)) = Z ++ [y] from by rw [es.out, if_pos (by rw [hb, decide_eq_true e1, decide_eq_true e2]; rfl)])
                replace s5 := s5.out
                rw [e1] at s5
                replace s5 := Lib.hid s5
                have E1 := Lib.hid e1
                have E2 := Lib.hid e2
                replace hb := Lib.hid hb
                clear e1 e2 es
                go_wp2_with (first
                  | ((with_reducible refine wpl_at 28 ?_; refine wpl_loadp (o := ⟨some 28, _, _, _, _, _⟩) rvoteR rfl (.tmp 27) rfl rfl (hra.out _ M.out.t.o) ly.out ?_))
                  | ((with_reducible refine wpl_new (o := ⟨some 10, _, _, _, _, _⟩) rfl rfl rvz_info ?_); intro g6 w6 m6)
                  | ((refine wpl_store_row (o := ⟨none, Op.store 51 (.tmp 10) (.tmp 28), _, _, _, _⟩) rvoteR rfl (.tmp 10) (.tmp 28) rfl rfl rfl m6.blk rfl (by simpa using ly.out) (by rw [Array.all_eq_true_iff_forall_mem]; intro u hu; exact one_vc y u (by simpa using hu)) ?_); intro w8 b6 k6
                     replace M := Lib.hid (M.out.kept (m6.kept.then1 k6 m6.le))
                     have q6 := Vt.f0 b6
                     have q7 := Vt.f1 b6
                     rw [E1.out] at q6; rw [E2.out] at q7
                     replace b6 := Lib.hid b6
                     clear m6 k6)
                  | (with_reducible refine wpl_at 41 ?_; refine wpl_loadp (o := ⟨some 41, _, _, _, _, _⟩) hashT.row rfl (.tmp 40) rfl rfl (Vt.hr b6.out) (by simp [yh.out]) ?_)
                  | (with_reducible refine wpl_at 42 ?_; refine wpl_load_row (o := ⟨some 42, _, _, _, _, _⟩) hashT.row rfl (.tmp 5) rfl rfl M.out.b (by simp [hh2.out]) ?_)
                  | (with_reducible refine wpl_at 43 ?_; refine wpl_eql_ab (o := ⟨some 43, _, _, _, _, _⟩) hashT Try.underlying5 (by kernel_rfl) eg32 rfl (.tmp 41) (.tmp 42) rfl rfl rfl yh.out hh2.out hb.out ?_)
                  | (with_reducible refine wpl_at 48 ?_; refine wpl_loadp (o := ⟨some 48, _, _, _, _, _⟩) sigT.row rfl (.tmp 47) rfl rfl (Vt.sr yh.out b6.out) (by simp [ysig.out]) ?_)
                  | (with_reducible refine wpl_at 49 ?_; refine wpl_build2 (o := ⟨some 49, _, _, _, _, _⟩) (v := .int .i64 (n : Int)) (u := ab y.s) rfl 0 1 (.tmp 46) (.tmp 48) rfl rfl rfl s5.out ?_)
                  | ((with_reducible refine wpl_at 50 ?_); (refine wpl_bslice1 (o := ⟨some 50, _, _, _, _, _⟩) (v0 := .agg (shc y).toArray) (cells := (shc y).toArray) rfl sharesT rfl rfl (by decide) rfl (by simpa using ys.out) ?_); intro g7 w7 m7
                     replace M := Lib.hid (M.out.kept m7.kept)
                     have b7 := Lib.hid (show Rd w7 65 (.slice (some ⟨g7, 0, none⟩) 1 1) 1 (shc y) from ⟨_, _, rfl, by rw [ys.out], by omega, fun _ => ⟨g7, 0, rfl, fun j u hu => by rw [m7.blk.cell]; simpa using hu⟩⟩)
                     clear m7)
                  | (at_builtin
                     refine wpl_app (n := Z.length) (m := 1) sharesT rfl (.tmp 45) (.tmp 50) rfl rfl M.out.o rfl b7.out (shc_one y) (by omega) (by omega) ?_
                     intro v' w9 o9 k9 f9
                     obtain ⟨A2, c2, hv', hlc'⟩ := o9.shape
                     subst hv'
                     have o9' := Lib.hid o9
                     have k9' := Lib.hid k9
                     have f9' := Lib.hid f9
                     clear o9 k9 f9))
                go_roundg (l.length - (k + 1))
                case measure => omega
                case rel =>
                  refine ⟨k + 1, A2, c2, by omega, by omega, by go_num, ?_⟩
                  rw [e3.out, List.length_append, show shs (Z ++ [y]) = shs Z ++ shc y from by simp [shs]]
                  refine ⟨rfl, hlc', Lib.hid ?_⟩
                  have X := M.out
                  have gl := T.out.b.lt
                  refine ⟨⟨X.t.b.kept k9'.out (notin_own fun e => ?_), X.t.o.kept k9'.out (fun k hk => notin_own fun e => ?_), X.t.ok, X.t.n⟩, X.b.kept k9'.out (notin_own (X.o.blk_ne X.b (by decide))), o9'.out, X.k.fresh k9'.out fun k hk => X.f k (mem_own hk), fun k hk => ?_⟩
                  · have := X.f _ e; omega
                  · have := T.out.o.lt hk; have := X.f _ e; omega
                  · rcases f9'.out with e | e
                    · exact X.f k (e.symm.trans hk)
                    · have e2 : some w7.heap.size = some k := e.symm.trans hk
                      injection e2 with e2
                      rw [← e2]
                      exact X.k.size
              | false =>
                have e3 := Lib.hid (show R ++ oneV vw h n (l.take (k + 1)) = Z from by rw [es.out, if_neg (by rw [hb]; simp)]; simp)
                have E1 := Lib.hid e1
                have E2 := Lib.hid e2
                replace hb := Lib.hid hb
                clear e1 e2 es
                go_wp2_with (first
                  | ((with_reducible refine wpl_at 28 ?_; refine wpl_loadp (o := ⟨some 28, _, _, _, _, _⟩) rvoteR rfl (.tmp 27) rfl rfl (hra.out _ M.out.t.o) ly.out ?_))
                  | ((with_reducible refine wpl_new (o := ⟨some 10, _, _, _, _, _⟩) rfl rfl rvz_info ?_); intro g6 w6 m6)
                  | ((refine wpl_store_row (o := ⟨none, Op.store 51 (.tmp 10) (.tmp 28), _, _, _, _⟩) rvoteR rfl (.tmp 10) (.tmp 28) rfl rfl rfl m6.blk rfl (by simpa using ly.out) (by rw [Array.all_eq_true_iff_forall_mem]; intro u hu; exact one_vc y u (by simpa using hu)) ?_); intro w8 b6 k6
                     replace M := Lib.hid (M.out.kept (m6.kept.then1 k6 m6.le))
                     have q6 := Vt.f0 b6
                     have q7 := Vt.f1 b6
                     rw [E1.out] at q6; rw [E2.out] at q7
                     replace b6 := Lib.hid b6
                     clear m6 k6)
                  | (with_reducible refine wpl_at 41 ?_; refine wpl_loadp (o := ⟨some 41, _, _, _, _, _⟩) hashT.row rfl (.tmp 40) rfl rfl (Vt.hr b6.out) (by simp [yh.out]) ?_)
                  | (with_reducible refine wpl_at 42 ?_; refine wpl_load_row (o := ⟨some 42, _, _, _, _, _⟩) hashT.row rfl (.tmp 5) rfl rfl M.out.b (by simp [hh2.out]) ?_)
                  | (with_reducible refine wpl_at 43 ?_; refine wpl_eql_ab (o := ⟨some 43, _, _, _, _, _⟩) hashT Try.underlying5 (by kernel_rfl) eg32 rfl (.tmp 41) (.tmp 42) rfl rfl rfl yh.out hh2.out hb.out ?_))
                go_roundg (l.length - (k + 1))
                case measure => omega
                case rel =>
                  refine ⟨k + 1, A', c', by omega, by omega, by go_num, ?_⟩
                  rw [e3.out]
                  exact ⟨rfl, hlc, M⟩
            · have n2 : ¬ y.vw = vw := e2
              clear e2
              have e3 := Lib.hid (show R ++ oneV vw h n (l.take (k + 1)) = Z from by rw [es.out, if_neg (by simp [n2])]; simp)
              have E1 := Lib.hid e1
              clear e1 es
              go_wp2_with (first
                | ((with_reducible refine wpl_at 28 ?_; refine wpl_loadp (o := ⟨some 28, _, _, _, _, _⟩) rvoteR rfl (.tmp 27) rfl rfl (hra.out _ M.out.t.o) ly.out ?_))
                | ((with_reducible refine wpl_new (o := ⟨some 10, _, _, _, _, _⟩) rfl rfl rvz_info ?_); intro g6 w6 m6)
                | ((refine wpl_store_row (o := ⟨none, Op.store 51 (.tmp 10) (.tmp 28), _, _, _, _⟩) rvoteR rfl (.tmp 10) (.tmp 28) rfl rfl rfl m6.blk rfl (by simpa using ly.out) (by rw [Array.all_eq_true_iff_forall_mem]; intro u hu; exact one_vc y u (by simpa using hu)) ?_); intro w8 b6 k6
                   replace M := Lib.hid (M.out.kept (m6.kept.then1 k6 m6.le))
                   have q6 := Vt.f0 b6
                   have q7 := Vt.f1 b6
                   rw [E1.out] at q6
                   replace b6 := Lib.hid b6
                   clear m6 k6))
              go_roundg (l.length - (k + 1))
              case measure => omega
              case rel =>
                refine ⟨k + 1, A', c', by omega, by omega, by go_num, ?_⟩
                rw [e3.out]
                exact ⟨rfl, hlc, M⟩
          · have n1 : ¬ y.fr = n := e1
            clear e1
            have e3 := Lib.hid (show R ++ oneV vw h n (l.take (k + 1)) = Z from by rw [es.out, if_neg (by simp [n1])]; simp)
            clear es
            go_wp2_with (first
              | ((with_reducible refine wpl_at 28 ?_; refine wpl_loadp (o := ⟨some 28, _, _, _, _, _⟩) rvoteR rfl (.tmp 27) rfl rfl (hra.out _ M.out.t.o) ly.out ?_))
              | ((with_reducible refine wpl_new (o := ⟨some 10, _, _, _, _, _⟩) rfl rfl rvz_info ?_); intro g6 w6 m6)
              | ((refine wpl_store_row (o := ⟨none, Op.store 51 (.tmp 10) (.tmp 28), _, _, _, _⟩) rvoteR rfl (.tmp 10) (.tmp 28) rfl rfl rfl m6.blk rfl (by simpa using ly.out) (by rw [Array.all_eq_true_iff_forall_mem]; intro u hu; exact one_vc y u (by simpa using hu)) ?_); intro w8 b6 k6
                 replace M := Lib.hid (M.out.kept (m6.kept.then1 k6 m6.le))
                 have q6 := Vt.f0 b6
                 have q7 := Vt.f1 b6
                 skip
                 replace b6 := Lib.hid b6
                 clear m6 k6))
            go_roundg (l.length - (k + 1))
            case measure => omega
            case rel =>
              refine ⟨k + 1, A', c', by omega, by omega, by go_num, ?_⟩
              rw [e3.out]
              exact ⟨rfl, hlc, M⟩
        · obtain rfl : k = l.length := by omega
          rw [List.take_length, ← hrs.out] at M hlc
          have nlt : ¬ ((l.length : Nat) : Int) < (l.length : Nat) := by omega
          rw [List.take_length, ← hrs.out]
          go_wp2_with fail
          go_roundg (3 * f + 1 - (n + 1))
          case measure => omega
          case rel => exact ⟨n + 1, A', c', by omega, by omega, by go_num, rfl, hlc, M⟩
    · obtain rfl : n = 3 * f + 1 := by omega
      have hlti : ¬ ((3 * f + 1 : Nat) : Int) ≤ 3 * (f : Int) := by omega
      go_wp2_with fail
      go_ret
      exact ⟨_, rfl, M.out.o, M.out.k, M.out.f⟩
end Go.Proofs.Ythffkgnbgncfaaa
