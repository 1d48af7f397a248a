/-
  Slots, the document's answer: what most said.
-/
import Derived.Test.YthffkgnbgncfaaaSp3
namespace Go.Proofs.Ythffkgnbgncfaaa
open Go.RowKit Go.Mem Go.Txt

/-- One more vote looked at. -/
def rstep (l : List Vt) (vw : Int) (N : Nat) (y : Vt) (p : List UInt8 × Nat) : List UInt8 × Nat :=
  if y.vw = vw then if p.2 < (rsh l vw y.h N).length ∨ (rsh l vw y.h N).length = p.2 ∧ lessB y.h p.1 = true then (y.h, (rsh l vw y.h N).length) else p else p
/-- What most said, of the first k. -/
def rbst (l : List Vt) (vw : Int) (N : Nat) : Nat → List UInt8 × Nat
  | 0 => (noughts 32, 0)
  | k + 1 => match l[k]? with | some y => rstep l vw N y (rbst l vw N k) | none => rbst l vw N k
theorem rbst_succ {l : List Vt} {k : Nat} (hk : k < l.length) (vw : Int) (N : Nat) : rbst l vw N (k + 1) = rstep l vw N l[k] (rbst l vw N k) := by
  show (match l[k]? with | some y => rstep l vw N y (rbst l vw N k) | none => rbst l vw N k) = _
  rw [List.getElem?_eq_getElem hk]
theorem rbst_len {l : List Vt} (hok : ∀ v ∈ l, v.ok) (vw : Int) (N : Nat) : ∀ k, k ≤ l.length → (rbst l vw N k).1.length = 32
  | 0, _ => by simp [rbst]
  | k + 1, hk => by
    rw [rbst_succ hk]
    have ih := rbst_len hok vw N k (by omega)
    unfold rstep
    split
    · split
      · exact (hok _ (List.getElem_mem hk)).1
      · exact ih
    · exact ih
/-- What a round knows. -/
structure RbM (w0 : World) (g g4 g6 : Nat) (f : Int) (l : List Vt) (v : Value) (hs : List UInt8) (u : World) : Prop where
  t : Rt u g f l v
  b4 : Blk u g4 30 (bv (noughts 32)).toArray
  b6 : Blk u g6 30 (bv hs).toArray
  k : Kept [] w0 u
  l4 : w0.heap.size ≤ g4
  l6 : w0.heap.size ≤ g6
  ne : g4 ≠ g6
  gl : g < w0.heap.size
section
variable {w0 u u' : World} {g g4 g6 : Nat} {f : Int} {l : List Vt} {v : Value} {hs hs' : List UInt8}
theorem RbM.kept (h : RbM w0 g g4 g6 f l v hs u) (hk : Kept [] u u') : RbM w0 g g4 g6 f l v hs u' := ⟨h.t.kept hk, h.b4.kept hk (by simp), h.b6.kept hk (by simp), h.k.then0 hk, h.l4, h.l6, h.ne, h.gl⟩
theorem RbM.put (h : RbM w0 g g4 g6 f l v hs u) (hb : Blk u' g6 30 (bv hs').toArray) (hk : Kept [g6] u u') : RbM w0 g g4 g6 f l v hs' u' :=
  ⟨⟨h.t.b.kept hk (by have := h.gl; have := h.l6; simp; omega), h.t.o.kept hk (fun k e => by
      have := h.t.o.blk_ne h.b6 (by decide)
      simp only [List.mem_singleton]
      rintro rfl
      exact this e), h.t.ok, h.t.n⟩, h.b4.kept hk (by have := h.ne; simpa using this), hb, h.k.then1 hk h.l6, h.l4, h.l6, h.ne, h.gl⟩
end
set_option maxRecDepth 100000 in
set_option maxHeartbeats 3200000 in
theorem rbest_any {g : Nat} {f : Nat} {l : List Vt} {v : Value} {w : World} (t : Rt w g f l v) (hf : f ≤ 1000) (vw : Int) :
    Calls Try.prog 18 #[.pointer (some ⟨g, 0, none⟩), .int .i64 vw] w fun e w' => e = .returned (.tuple #[ab (rbst l vw (3 * f + 1) l.length).1, .int .i64 ((rbst l vw (3 * f + 1) l.length).2 : Nat)]) ∧ Kept [] w w' := by
  obtain ⟨A, c, rfl, hnc⟩ := t.o.shape
  have hok := Lib.hid t.ok
  have T := Lib.hid t
  have cs := Lib.hid (fun u (t : Rt u g f l (.slice A l.length c)) (h : List UInt8) (hh : h.length = 32) => rshares_any t hf vw hh)
  have hz := Lib.hid hz_info
  have hl6 := t.n
  clear t hf
  go_enter Try.func18, Try.ntmps18
  go_wp2_with (first
    | ((with_reducible refine wpl_new (o := ⟨some 4, _, _, _, _, _⟩) rfl rfl hz.out ?_); intro g4 w4 m4)
    | ((with_reducible refine wpl_new (o := ⟨some 6, _, _, _, _, _⟩) rfl rfl hz.out ?_); intro g6 w6 m6
       have M := Lib.hid (show RbM w g g4 g6 f l (.slice A l.length c) (noughts 32) w6 from ⟨(T.out.kept m4.kept).kept m6.kept, m4.blk.kept m6.kept (by simp), m6.blk, m4.kept.then0 m6.kept, m4.le, Nat.le_trans m4.kept.size m6.le, by have := m4.blk.lt; have := m6.le; omega, T.out.b.lt⟩)
       have q1 := M.out.t.f1
       clear m4 m6))
  clear q1
  go_loopg [7, 16] l.length (fun fu m i wk => ∃ k : Nat, k ≤ l.length ∧ fu + k = l.length ∧ i = .int .i64 (k : Int) ∧ m = .int .i64 ((rbst l vw (3 * f + 1) k).2 : Nat) ∧ Hid (RbM w g g4 g6 f l (.slice A l.length c) (rbst l vw (3 * f + 1) k).1 wk))
  case atStart => exact ⟨0, by omega, by omega, rfl, rfl, M⟩
  case round =>
    clear M
    obtain ⟨k, hk, hfu, rfl, rfl, M⟩ := hrel
    by_cases hlt : k < l.length
    · obtain ⟨gb, ob, cb, hv2, _⟩ := vote_at (Rd.of_ow M.out.t.o) hok.out hlt
      obtain rfl : A = some ⟨gb, ob, none⟩ := by cases hv2; rfl
      clear hv2
      have hra := Lib.hid (fun u (o : Ow u 51 98 (.slice (some ⟨gb, ob, none⟩) l.length c) l.length (vcs l)) => vote_rng (Rd.of_ow o) hok.out hlt)
      have es := Lib.hid (rbst_succ hlt vw (3 * f + 1))
      have pl := Lib.hid (rbst_len hok.out vw (3 * f + 1) k hk)
      have yok := Lib.hid (hok.out _ (List.getElem_mem hlt))
      have hlti : (k : Int) < l.length := by omega
      generalize rbst l vw (3 * f + 1) k = p at *
      obtain ⟨hs, mo⟩ := p
      simp only at pl M
      generalize l[k] = y at *
      have ly := Lib.hid (Vt.len yok.out)
      have yh := Lib.hid yok.out.1
      have ys := Lib.hid (cs.out)
      by_cases e1 : y.vw = vw
      · have c1 := Lib.hid (fun u (t : Rt u g f l (.slice (some ⟨gb, ob, none⟩) l.length c)) => cs.out u t y.h yh.out)
        have e2 := es.out
        unfold rstep at e2
        rw [if_pos e1] at e2
        replace e2 := Lib.hid e2
        clear es
        generalize rsh l vw y.h (3 * f + 1) = R at *
        rcases Nat.lt_trichotomy mo R.length with e3 | e3 | e3
        · have e4 := Lib.hid (show rbst l vw (3 * f + 1) (k + 1) = (y.h, R.length) from by rw [e2.out, if_pos (.inl e3)])
          have e3i : (mo : Int) < (R.length : Nat) := by omega
          have E1 := Lib.hid e1
          clear e1 e2
          go_wp2_with (first
            | ((with_reducible refine wpl_at 19 ?_; refine wpl_loadp (o := ⟨some 19, _, _, _, _, _⟩) rvoteR rfl (.tmp 18) rfl rfl (hra.out _ M.out.t.o) ly.out ?_))
            | ((with_reducible refine wpl_new (o := ⟨some 9, _, _, _, _, _⟩) rfl rfl rvz_info ?_); intro g9 w9 m9)
            | ((refine wpl_store_row (o := ⟨none, Op.store 51 (.tmp 9) (.tmp 19), _, _, _, _⟩) rvoteR rfl (.tmp 9) (.tmp 19) rfl rfl rfl m9.blk rfl (by simpa using ly.out) (by rw [Array.all_eq_true_iff_forall_mem]; intro u hu; exact one_vc y u (by simpa using hu)) ?_); intro w8 b9 k9
               replace M := Lib.hid (M.out.kept (m9.kept.then1 k9 m9.le))
               have q9 := Vt.f1 b9
               rw [E1.out] at q9
               replace b9 := Lib.hid b9
               clear m9 k9)
            | (with_reducible refine wpl_at 27 ?_; refine wpl_loadp (o := ⟨some 27, _, _, _, _, _⟩) hashT.row rfl (.tmp 26) rfl rfl (Vt.hr b9.out) (by simp [yh.out]) ?_)
            | (go_at_call 15; (with_reducible refine (c1.out _ M.out.t).mono ?_); rintro e w10 ⟨v10, rfl, o10, k10, f10⟩
               obtain ⟨A10, c10, rfl, _⟩ := o10.shape
               replace M := Lib.hid (M.out.kept k10)
               replace b9 := Lib.hid (b9.out.kept k10 (by simp))
               clear o10 k10 f10)
            | (with_reducible refine wpl_at 45 ?_; refine wpl_loadp (o := ⟨some 45, _, _, _, _, _⟩) hashT.row rfl (.tmp 44) rfl rfl (Vt.hr b9.out) (by simp [yh.out]) ?_)
            | ((refine wpl_store_row (o := ⟨none, Op.store 30 (.tmp 6) (.tmp 45), _, _, _, _⟩) hashT.row rfl (.tmp 6) (.tmp 45) rfl rfl rfl M.out.b6 (by simp [pl.out]) (by simp [yh.out]) (one_ab _) ?_); intro w7 b7 k7
               replace M := Lib.hid (M.out.put b7 k7)
               clear b7 k7))
          go_roundg (l.length - (k + 1))
          case measure => omega
          case rel =>
            refine ⟨k + 1, by omega, by omega, by go_num, ?_⟩
            rw [e4.out]
            exact ⟨rfl, M⟩
        · have c2 := Lib.hid (fun u => less_any y.h hs yh.out pl.out u)
          cases hb : lessB y.h hs with
          | true =>
            have e4 := Lib.hid (show rbst l vw (3 * f + 1) (k + 1) = (y.h, R.length) from by rw [e2.out, if_pos (.inr ⟨e3.symm, hb⟩)])
            rw [hb] at c2
            subst e3
            have e3i : ((R.length : Nat) : Int) < (R.length : Nat) ↔ False := by simp
            have E1 := Lib.hid e1
            clear e1 e2 hb
            go_wp2_with (first
              | ((with_reducible refine wpl_at 19 ?_; refine wpl_loadp (o := ⟨some 19, _, _, _, _, _⟩) rvoteR rfl (.tmp 18) rfl rfl (hra.out _ M.out.t.o) ly.out ?_))
              | ((with_reducible refine wpl_new (o := ⟨some 9, _, _, _, _, _⟩) rfl rfl rvz_info ?_); intro g9 w9 m9)
              | ((refine wpl_store_row (o := ⟨none, Op.store 51 (.tmp 9) (.tmp 19), _, _, _, _⟩) rvoteR rfl (.tmp 9) (.tmp 19) rfl rfl rfl m9.blk rfl (by simpa using ly.out) (by rw [Array.all_eq_true_iff_forall_mem]; intro u hu; exact one_vc y u (by simpa using hu)) ?_); intro w8 b9 k9
                 replace M := Lib.hid (M.out.kept (m9.kept.then1 k9 m9.le))
                 have q9 := Vt.f1 b9
                 rw [E1.out] at q9
                 replace b9 := Lib.hid b9
                 clear m9 k9)
              | (with_reducible refine wpl_at 27 ?_; refine wpl_loadp (o := ⟨some 27, _, _, _, _, _⟩) hashT.row rfl (.tmp 26) rfl rfl (Vt.hr b9.out) (by simp [yh.out]) ?_)
              | (go_at_call 15; (with_reducible refine (c1.out _ M.out.t).mono ?_); rintro e w10 ⟨v10, rfl, o10, k10, f10⟩
                 obtain ⟨A10, c10, rfl, _⟩ := o10.shape
                 replace M := Lib.hid (M.out.kept k10)
                 replace b9 := Lib.hid (b9.out.kept k10 (by simp))
                 clear o10 k10 f10)
              | (with_reducible refine wpl_at 39 ?_; refine wpl_loadp (o := ⟨some 39, _, _, _, _, _⟩) hashT.row rfl (.tmp 38) rfl rfl (Vt.hr b9.out) (by simp [yh.out]) ?_)
              | (with_reducible refine wpl_at 40 ?_; refine wpl_load_row (o := ⟨some 40, _, _, _, _, _⟩) hashT.row rfl (.tmp 6) rfl rfl M.out.b6 (by simp [pl.out]) ?_)
              | (go_at_call 24; (with_reducible refine (c2.out _).mono ?_); rintro e w11 ⟨rfl, k11⟩
                 replace M := Lib.hid (M.out.kept k11)
                 replace b9 := Lib.hid (b9.out.kept k11 (by simp))
                 clear k11)
              | (with_reducible refine wpl_at 45 ?_; refine wpl_loadp (o := ⟨some 45, _, _, _, _, _⟩) hashT.row rfl (.tmp 44) rfl rfl (Vt.hr b9.out) (by simp [yh.out]) ?_)
              | ((refine wpl_store_row (o := ⟨none, Op.store 30 (.tmp 6) (.tmp 45), _, _, _, _⟩) hashT.row rfl (.tmp 6) (.tmp 45) rfl rfl rfl M.out.b6 (by simp [pl.out]) (by simp [yh.out]) (one_ab _) ?_); intro w7 b7 k7
                 replace M := Lib.hid (M.out.put b7 k7)
                 clear b7 k7))
            go_roundg (l.length - (k + 1))
            case measure => omega
            case rel =>
              refine ⟨k + 1, by omega, by omega, by go_num, ?_⟩
              rw [e4.out]
              exact ⟨rfl, M⟩
          | false =>
            have e4 := Lib.hid (show rbst l vw (3 * f + 1) (k + 1) = (hs, mo) from by rw [e2.out, if_neg (by rw [hb]; simp; omega)])
            rw [hb] at c2
            subst e3
            have E1 := Lib.hid e1
            clear e1 e2 hb
            go_wp2_with (first
              | ((with_reducible refine wpl_at 19 ?_; refine wpl_loadp (o := ⟨some 19, _, _, _, _, _⟩) rvoteR rfl (.tmp 18) rfl rfl (hra.out _ M.out.t.o) ly.out ?_))
              | ((with_reducible refine wpl_new (o := ⟨some 9, _, _, _, _, _⟩) rfl rfl rvz_info ?_); intro g9 w9 m9)
              | ((refine wpl_store_row (o := ⟨none, Op.store 51 (.tmp 9) (.tmp 19), _, _, _, _⟩) rvoteR rfl (.tmp 9) (.tmp 19) rfl rfl rfl m9.blk rfl (by simpa using ly.out) (by rw [Array.all_eq_true_iff_forall_mem]; intro u hu; exact one_vc y u (by simpa using hu)) ?_); intro w8 b9 k9
                 replace M := Lib.hid (M.out.kept (m9.kept.then1 k9 m9.le))
                 have q9 := Vt.f1 b9
                 rw [E1.out] at q9
                 replace b9 := Lib.hid b9
                 clear m9 k9)
              | (with_reducible refine wpl_at 27 ?_; refine wpl_loadp (o := ⟨some 27, _, _, _, _, _⟩) hashT.row rfl (.tmp 26) rfl rfl (Vt.hr b9.out) (by simp [yh.out]) ?_)
              | (go_at_call 15; (with_reducible refine (c1.out _ M.out.t).mono ?_); rintro e w10 ⟨v10, rfl, o10, k10, f10⟩
                 obtain ⟨A10, c10, rfl, _⟩ := o10.shape
                 replace M := Lib.hid (M.out.kept k10)
                 replace b9 := Lib.hid (b9.out.kept k10 (by simp))
                 clear o10 k10 f10)
              | (with_reducible refine wpl_at 39 ?_; refine wpl_loadp (o := ⟨some 39, _, _, _, _, _⟩) hashT.row rfl (.tmp 38) rfl rfl (Vt.hr b9.out) (by simp [yh.out]) ?_)
              | (with_reducible refine wpl_at 40 ?_; refine wpl_load_row (o := ⟨some 40, _, _, _, _, _⟩) hashT.row rfl (.tmp 6) rfl rfl M.out.b6 (by simp [pl.out]) ?_)
              | (go_at_call 24; (with_reducible refine (c2.out _).mono ?_); rintro e w11 ⟨rfl, k11⟩
                 replace M := Lib.hid (M.out.kept k11)
                 replace b9 := Lib.hid (b9.out.kept k11 (by simp))
                 clear k11))
            go_roundg (l.length - (k + 1))
            case measure => omega
            case rel =>
              refine ⟨k + 1, by omega, by omega, by go_num, ?_⟩
              rw [e4.out]
              exact ⟨rfl, M⟩
        · have e4 := Lib.hid (show rbst l vw (3 * f + 1) (k + 1) = (hs, mo) from by rw [e2.out, if_neg (by simp only; omega)])
          have e3i : ¬ (mo : Int) < (R.length : Nat) := by omega
          have e3j : ((R.length : Nat) : Int) ≠ mo := by omega
          have e3k : ¬ mo < R.length := by omega
          have e3l : R.length ≠ mo := by omega
          have E1 := Lib.hid e1
          clear e1 e2
          go_wp2_with (first
            | ((with_reducible refine wpl_at 19 ?_; refine wpl_loadp (o := ⟨some 19, _, _, _, _, _⟩) rvoteR rfl (.tmp 18) rfl rfl (hra.out _ M.out.t.o) ly.out ?_))
            | ((with_reducible refine wpl_new (o := ⟨some 9, _, _, _, _, _⟩) rfl rfl rvz_info ?_); intro g9 w9 m9)
            | ((refine wpl_store_row (o := ⟨none, Op.store 51 (.tmp 9) (.tmp 19), _, _, _, _⟩) rvoteR rfl (.tmp 9) (.tmp 19) rfl rfl rfl m9.blk rfl (by simpa using ly.out) (by rw [Array.all_eq_true_iff_forall_mem]; intro u hu; exact one_vc y u (by simpa using hu)) ?_); intro w8 b9 k9
               replace M := Lib.hid (M.out.kept (m9.kept.then1 k9 m9.le))
               have q9 := Vt.f1 b9
               rw [E1.out] at q9
               replace b9 := Lib.hid b9
               clear m9 k9)
            | (with_reducible refine wpl_at 27 ?_; refine wpl_loadp (o := ⟨some 27, _, _, _, _, _⟩) hashT.row rfl (.tmp 26) rfl rfl (Vt.hr b9.out) (by simp [yh.out]) ?_)
            | (go_at_call 15; (with_reducible refine (c1.out _ M.out.t).mono ?_); rintro e w10 ⟨v10, rfl, o10, k10, f10⟩
               obtain ⟨A10, c10, rfl, _⟩ := o10.shape
               replace M := Lib.hid (M.out.kept k10)
               replace b9 := Lib.hid (b9.out.kept k10 (by simp))
               clear o10 k10 f10))
          go_roundg (l.length - (k + 1))
          case measure => omega
          case rel =>
            refine ⟨k + 1, by omega, by omega, by go_num, ?_⟩
            rw [e4.out]
            exact ⟨rfl, M⟩
      · have e4 := Lib.hid (show rbst l vw (3 * f + 1) (k + 1) = (hs, mo) from by rw [es.out]; unfold rstep; rw [if_neg e1])
        have n1 : ¬ y.vw = vw := e1
        clear e1 es
        go_wp2_with (first
          | ((with_reducible refine wpl_at 19 ?_; refine wpl_loadp (o := ⟨some 19, _, _, _, _, _⟩) rvoteR rfl (.tmp 18) rfl rfl (hra.out _ M.out.t.o) ly.out ?_))
          | ((with_reducible refine wpl_new (o := ⟨some 9, _, _, _, _, _⟩) rfl rfl rvz_info ?_); intro g9 w9 m9)
          | ((refine wpl_store_row (o := ⟨none, Op.store 51 (.tmp 9) (.tmp 19), _, _, _, _⟩) rvoteR rfl (.tmp 9) (.tmp 19) rfl rfl rfl m9.blk rfl (by simpa using ly.out) (by rw [Array.all_eq_true_iff_forall_mem]; intro u hu; exact one_vc y u (by simpa using hu)) ?_); intro w8 b9 k9
             replace M := Lib.hid (M.out.kept (m9.kept.then1 k9 m9.le))
             have q9 := Vt.f1 b9
             skip
             replace b9 := Lib.hid b9
             clear m9 k9))
        go_roundg (l.length - (k + 1))
        case measure => omega
        case rel =>
          refine ⟨k + 1, by omega, by omega, by go_num, ?_⟩
          rw [e4.out]
          exact ⟨rfl, M⟩
    · obtain rfl : k = l.length := by omega
      have pl := Lib.hid (rbst_len hok.out vw (3 * f + 1) l.length hk)
      generalize hp : rbst l vw (3 * f + 1) l.length = p at *
      have hp2 := Lib.hid hp
      clear hp
      have nlt : ¬ ((l.length : Nat) : Int) < (l.length : Nat) := by omega
      go_wp2_with (first
        | (with_reducible refine wpl_load_row (o := ⟨some 48, _, _, _, _, _⟩) hashT.row rfl (.tmp 6) rfl rfl M.out.b6 (by simp [pl.out]) ?_)
        | ((refine wpl_store_row (o := ⟨none, Op.store 30 (.tmp 4) (.tmp 48), _, _, _, _⟩) hashT.row rfl (.tmp 4) (.tmp 48) rfl rfl rfl M.out.b4 rfl (by simp [pl.out]) (one_ab _) ?_); intro w7 b7 k7
           have b7' := Lib.hid b7
           have k7' := Lib.hid (M.out.k.then1 k7 M.out.l4)
           clear b7 k7))
      refine ret_row2 hashT.row rfl rfl b7'.out (by simp [pl.out]) rfl ⟨by rw [hp2.out]; rfl, k7'.out⟩
end Go.Proofs.Ythffkgnbgncfaaa
