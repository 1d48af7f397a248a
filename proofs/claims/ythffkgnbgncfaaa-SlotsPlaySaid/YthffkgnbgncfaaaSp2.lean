/-
  Slots, the document's answer: a vote that comes.
-/
import Derived.Test.YthffkgnbgncfaaaSp1
namespace Go.Proofs.Ythffkgnbgncfaaa
open Go.RowKit Go.Mem Go.Txt

theorem rvotesT : SliceT Try.prog 43 51 98 112 vz := ⟨Try.underlying43, by kernel_rfl, rfl, by omega⟩
theorem rvoteR : RowT Try.prog 51 98 := ⟨⟨_, Try.underlying51, rfl⟩, by kernel_rfl⟩
theorem rvz_info : (Try.prog.info? 51).map (·.zero) = some (some vz) := by kernel_rfl
theorem flatRV (w : World) : (isAgg 43).run Try.prog w = .ok false w := by kernel_rfl
/-- The document's tally, in memory. -/
structure Rt (u : World) (g : Nat) (f : Int) (l : List Vt) (v : Value) : Prop where
  b : Blk u g 45 #[.int .i64 f, v]
  o : Ow u 51 98 v l.length (vcs l)
  ok : ∀ v ∈ l, v.ok
  n : l.length < 1000000
section
variable {u u' : World} {g : Nat} {f : Int} {l : List Vt} {v : Value}
theorem Rt.kept (h : Rt u g f l v) (hk : Kept [] u u') : Rt u' g f l v := ⟨h.b.kept hk (by simp), h.o.kept0 hk, h.ok, h.n⟩
theorem Rt.f0 (h : Rt u g f l v) : u.cell? ⟨g, 0, none⟩ = some (.int .i64 f) := by rw [h.b.cell]; rfl
theorem Rt.f1 (h : Rt u g f l v) : u.cell? ⟨g, 1, none⟩ = some v := by rw [h.b.cell]; rfl
end
theorem hits_eq' (l : List Vt) (x : Vt) : hits l x = l.any fun v => decide (v.fr = x.fr) && decide (v.vw = x.vw) := by
  unfold hits
  congr 1
  funext v
  rw [← Bool.decide_and]
  exact decide_eq_decide.2 (vcmp_eq.trans And.comm)
theorem hits_step {l : List Vt} {k : Nat} (hk : k < l.length) (x : Vt) : hits (l.take (k + 1)) x = (hits (l.take k) x || decide (l[k].fr = x.fr) && decide (l[k].vw = x.vw)) := by
  rw [hits_eq', hits_eq', List.take_succ_eq_append_getElem hk, List.any_append]
  simp
theorem hits_at {l : List Vt} {k : Nat} (hk : k < l.length) (x : Vt) (h1 : l[k].fr = x.fr) (h2 : l[k].vw = x.vw) : hits l x = true := by
  unfold hits
  exact List.any_eq_true.2 ⟨_, List.getElem_mem hk, by simp [vcmp_eq, h1, h2]⟩
/-- What the rounds of Add know. -/
structure RaM (w0 : World) (g g3 : Nat) (f : Int) (l : List Vt) (v : Value) (x : Vt) (u : World) : Prop where
  t : Rt u g f l v
  x : Blk u g3 51 x.c.toArray
  k : Kept [] w0 u
  n : w0.heap.size ≤ g3
theorem RaM.kept {w0 u u' : World} {g g3 : Nat} {f : Int} {l : List Vt} {v : Value} {x : Vt} (h : RaM w0 g g3 f l v x u) (hk : Kept [] u u') : RaM w0 g g3 f l v x u' := ⟨h.t.kept hk, h.x.kept hk (by simp), h.k.then0 hk, h.n⟩
/-- What Add hands back. -/
abbrev RAddP (w : World) (g : Nat) (f : Int) (l : List Vt) (v : Value) (x : Vt) (e : Ending) (w' : World) : Prop :=
  e = .returned (.bool (okv f l x)) ∧ ∃ v', Rt w' g f (if okv f l x then l ++ [x] else l) v' ∧ Kept (g :: v.ownBlock.toList) w w' ∧ (v'.ownBlock = v.ownBlock ∨ ∃ k, v'.ownBlock = some k ∧ w.heap.size ≤ k)
theorem radd_no {w w' : World} {g g3 : Nat} {f : Int} {l : List Vt} {v : Value} {x : Vt} (h : RaM w g g3 f l v x w') (e : okv f l x = false) : RAddP w g f l v x (.returned (.bool false)) w' :=
  ⟨by rw [e], v, by rw [e]; exact h.t, h.k.of0, .inl rfl⟩
/-- What stands while a vote is put behind. -/
structure RaS (g g3 : Nat) (f : Int) (v : Value) (x : Vt) (u : World) : Prop where
  b : Blk u g 45 #[.int .i64 f, v]
  x : Blk u g3 51 x.c.toArray
theorem RaS.kept {g g3 : Nat} {f : Int} {v : Value} {x : Vt} {S : List Nat} {u u' : World} (h : RaS g g3 f v x u) (hk : Kept S u u') (h1 : g ∉ S) (h3 : g3 ∉ S) : RaS g g3 f v x u' := ⟨h.b.kept hk h1, h.x.kept hk h3⟩
set_option maxRecDepth 100000 in
set_option maxHeartbeats 3200000 in
theorem radd_any {g : Nat} {f : Int} {l : List Vt} {v : Value} {w : World} (t : Rt w g f l v) (hf : 0 ≤ f ∧ f ≤ 1000000) {x : Vt} (hx : x.ok) (hn : l.length + 1 < 1000000) :
    Calls Try.prog 14 #[.pointer (some ⟨g, 0, none⟩), .agg x.c.toArray] w (RAddP w g f l v x) := by
  have T := Lib.hid t
  obtain ⟨A, c, rfl, hnc⟩ := t.o.shape
  have hok := Lib.hid t.ok
  clear t
  have lx := Lib.hid (Vt.len hx)
  have HX := Lib.hid hx
  obtain ⟨hf1, hf2⟩ := hf
  clear hx
  have no := Lib.hid (fun g3 w' (h : RaM w g g3 f l (.slice A l.length c) x w') e => radd_no h e)
  go_enter Try.func14, Try.ntmps14
  go_wp2_with (first
    | ((with_reducible refine wpl_box (o := ⟨some 3, _, _, _, _, _⟩) (v := x.v) rfl (.tmp 1) rfl rfl ?_); intro g3 w3 m3
       have M := Lib.hid (show RaM w g g3 f l (.slice A l.length c) x w3.drew from RaM.kept ⟨T.out.kept m3.kept, m3.blk, m3.kept, m3.le⟩ (Kept.refl [] _).drew)
       clear m3))
  by_cases h1 : x.fr < 0
  · have e : okv f l x = false := by unfold okv; rw [decide_eq_false (by omega)]; rfl
    replace e := Lib.hid e
    refine Txt.wp_textG [1, 5, 9] (RaM w g g3 f l (.slice A l.length c) x) [[_, _, _, _, _, _, _, _, _, _, _, _, _]] (by kernel_rfl) (by kernel_rfl) rfl M.out (Txt.segs_cons ?_)
    have q1 := Vt.f0 M.out.x
    go_wp2_with fail
    refine ⟨rfl, M.out, Txt.segs_nil ⟨⟨by kernel_rfl, ?_⟩, ?_⟩⟩
    · intro j hj o ho hw
      have hj2 : j = 1 ∨ j = 5 ∨ j = 9 := by simpa using hj
      rcases hj2 with rfl | rfl | rfl <;> cases ho
      · exact ⟨_, rfl, fun u hu => exec_cell (.tmp 7) rfl flatI rfl (Vt.f0 hu.x)⟩
      · exact Bool.noConfusion (Eq.trans (by kernel_rfl) hw : false = true)
      · exact Bool.noConfusion (Eq.trans (by kernel_rfl) hw : false = true)
    go_wp2_with fail
    go_ret
    exact no.out _ _ M.out e.out
  by_cases h2 : 3 * f < x.fr
  · have e : okv f l x = false := by unfold okv; rw [decide_eq_false (by omega : ¬ x.fr ≤ 3 * f)]; simp
    replace e := Lib.hid e
    refine Txt.wp_textG [1, 5, 9] (RaM w g g3 f l (.slice A l.length c) x) [[_, _, _, _, _, _, _, _, _, _, _, _, _]] (by kernel_rfl) (by kernel_rfl) rfl M.out (Txt.segs_cons ?_)
    have q1 := Vt.f0 M.out.x
    have q2 := M.out.t.f0
    go_wp2_with fail
    refine ⟨rfl, M.out, Txt.segs_nil ⟨⟨by kernel_rfl, ?_⟩, ?_⟩⟩
    · intro j hj o ho hw
      have hj2 : j = 1 ∨ j = 5 ∨ j = 9 := by simpa using hj
      rcases hj2 with rfl | rfl | rfl <;> cases ho
      · exact ⟨_, rfl, fun u hu => exec_cell (.tmp 7) rfl flatI rfl (Vt.f0 hu.x)⟩
      · exact ⟨_, rfl, fun u hu => exec_cell (.tmp 11) rfl flatI rfl (Vt.f0 hu.x)⟩
      · exact ⟨_, rfl, fun u hu => exec_cell (.tmp 15) rfl flatI rfl hu.t.f0⟩
    go_wp2_with fail
    go_ret
    exact no.out _ _ M.out e.out
  refine Txt.wp_textG [1, 5, 9] (RaM w g g3 f l (.slice A l.length c) x) [[_, _, _, _, _, _, _, _, _, _, _, _, _]] (by kernel_rfl) (by kernel_rfl) rfl M.out (Txt.segs_cons ?_)
  have q1 := Vt.f0 M.out.x
  have q2 := M.out.t.f0
  go_wp2_with fail
  refine ⟨rfl, M.out, Txt.segs_nil ⟨⟨by kernel_rfl, ?_⟩, ?_⟩⟩
  · intro j hj o ho hw
    have hj2 : j = 1 ∨ j = 5 ∨ j = 9 := by simpa using hj
    rcases hj2 with rfl | rfl | rfl <;> cases ho
    · exact ⟨_, rfl, fun u hu => exec_cell (.tmp 7) rfl flatI rfl (Vt.f0 hu.x)⟩
    · exact ⟨_, rfl, fun u hu => exec_cell (.tmp 11) rfl flatI rfl (Vt.f0 hu.x)⟩
    · exact ⟨_, rfl, fun u hu => exec_cell (.tmp 15) rfl flatI rfl hu.t.f0⟩
  have q3 := M.out.t.f1
  go_wp2_with fail
  clear q1 q2 q3
  have H1 := Lib.hid h1
  have H2 := Lib.hid h2
  clear h1 h2
  go_loopg [25] l.length (fun fu i wk => ∃ k : Nat, k ≤ l.length ∧ fu + k = l.length ∧ i = .int .i64 (k : Int) ∧ hits (l.take k) x = false ∧ Hid (RaM w g g3 f l (.slice A l.length c) x wk))
  case atStart => exact ⟨0, by omega, by omega, rfl, rfl, M⟩
  case round =>
    clear M
    obtain ⟨k, hk, hfu, rfl, hh, M⟩ := hrel
    by_cases hlt : k < l.length
    · obtain ⟨gb, ob, cb, hv2, _⟩ := vote_at (Rd.of_ow M.out.t.o) hok.out hlt
      obtain rfl : A = some ⟨gb, ob, none⟩ := by cases hv2; rfl
      clear hv2
      have hra := Lib.hid (fun u (h : RaM w g g3 f l (.slice (some ⟨gb, ob, none⟩) l.length c) x u) => vote_rng (Rd.of_ow h.t.o) hok.out hlt)
      have es := Lib.hid (hits_step hlt x)
      have ly := Lib.hid (Vt.len (hok.out _ (List.getElem_mem hlt)))
      have ha := Lib.hid (hits_at hlt x)
      have hlti : (k : Int) < l.length := by omega
      generalize l[k] = y at *
      by_cases e1 : y.fr = x.fr
      · by_cases e2 : y.vw = x.vw
        · have e : okv f l x = false := by unfold okv; rw [ha.out e1 e2]; simp
          replace e := Lib.hid e
          clear ha es hh
          have E1 := Lib.hid e1
          have E2 := Lib.hid e2
          clear e1 e2
          go_wp2_with (first
            | ((with_reducible refine wpl_at 28 ?_; refine wpl_loadp (o := ⟨some 28, _, _, _, _, _⟩) rvoteR rfl (.tmp 27) rfl rfl (hra.out _ M.out) ly.out ?_))
            | ((with_reducible refine wpl_new (o := ⟨some 6, _, _, _, _, _⟩) rfl rfl rvz_info ?_); intro g6 w6 m6)
            | ((refine wpl_store_row (o := ⟨none, Op.store 51 (.tmp 6) (.tmp 28), _, _, _, _⟩) rvoteR rfl (.tmp 6) (.tmp 28) rfl rfl rfl m6.blk rfl (by simpa using ly.out) (by rw [Array.all_eq_true_iff_forall_mem]; intro u hu; exact one_vc y u (by simpa using hu)) ?_); intro w8 b6 k6
               replace M := Lib.hid (M.out.kept (m6.kept.then1 k6 m6.le))
               have q6 := Vt.f0 b6
               have q7 := Vt.f1 b6
               have q8 := Vt.f0 M.out.x
               have q9 := Vt.f1 M.out.x
               rw [E1.out] at q6; rw [E2.out] at q7
               clear m6 k6 b6))
          go_ret
          exact no.out _ _ M.out e.out
        · have n2 : ¬ y.vw = x.vw := e2
          clear e2 ha
          go_wp2_with (first
            | ((with_reducible refine wpl_at 28 ?_; refine wpl_loadp (o := ⟨some 28, _, _, _, _, _⟩) rvoteR rfl (.tmp 27) rfl rfl (hra.out _ M.out) ly.out ?_))
            | ((with_reducible refine wpl_new (o := ⟨some 6, _, _, _, _, _⟩) rfl rfl rvz_info ?_); intro g6 w6 m6)
            | ((refine wpl_store_row (o := ⟨none, Op.store 51 (.tmp 6) (.tmp 28), _, _, _, _⟩) rvoteR rfl (.tmp 6) (.tmp 28) rfl rfl rfl m6.blk rfl (by simpa using ly.out) (by rw [Array.all_eq_true_iff_forall_mem]; intro u hu; exact one_vc y u (by simpa using hu)) ?_); intro w8 b6 k6
               replace M := Lib.hid (M.out.kept (m6.kept.then1 k6 m6.le))
               have q6 := Vt.f0 b6
               have q7 := Vt.f1 b6
               have q8 := Vt.f0 M.out.x
               have q9 := Vt.f1 M.out.x
               rw [e1] at q6
               clear m6 k6 b6))
          go_roundg (l.length - (k + 1))
          case measure => omega
          case rel => exact ⟨k + 1, by omega, by omega, by go_num, by rw [es.out]; simp [hh, n2], M⟩
      · have n1 : ¬ y.fr = x.fr := e1
        clear e1 ha
        go_wp2_with (first
          | ((with_reducible refine wpl_at 28 ?_; refine wpl_loadp (o := ⟨some 28, _, _, _, _, _⟩) rvoteR rfl (.tmp 27) rfl rfl (hra.out _ M.out) ly.out ?_))
          | ((with_reducible refine wpl_new (o := ⟨some 6, _, _, _, _, _⟩) rfl rfl rvz_info ?_); intro g6 w6 m6)
          | ((refine wpl_store_row (o := ⟨none, Op.store 51 (.tmp 6) (.tmp 28), _, _, _, _⟩) rvoteR rfl (.tmp 6) (.tmp 28) rfl rfl rfl m6.blk rfl (by simpa using ly.out) (by rw [Array.all_eq_true_iff_forall_mem]; intro u hu; exact one_vc y u (by simpa using hu)) ?_); intro w8 b6 k6
             replace M := Lib.hid (M.out.kept (m6.kept.then1 k6 m6.le))
             have q6 := Vt.f0 b6
             have q7 := Vt.f1 b6
             have q8 := Vt.f0 M.out.x
             have q9 := Vt.f1 M.out.x
             clear q7 q9
             clear m6 k6 b6))
        go_roundg (l.length - (k + 1))
        case measure => omega
        case rel => exact ⟨k + 1, by omega, by omega, by go_num, by rw [es.out]; simp [hh, n1], M⟩
    · obtain rfl : k = l.length := by omega
      rw [List.take_length] at hh
      have nlt : ¬ ((l.length : Nat) : Int) < (l.length : Nat) := by omega
      have e : okv f l x = true := by unfold okv; rw [hh, decide_eq_true (by have := H1.out; omega), decide_eq_true (by have := H2.out; omega)]; rfl
      replace e := Lib.hid e
      clear hh
      have S0 := M.out.t.b.lt
      go_wp2_with fail
      clear nlt
      replace M := Lib.hid (M.out.kept (Kept.refl [] _).drew)
      have hgo : (Value.slice A l.length c).ownBlock ≠ some g := M.out.t.o.blk_ne M.out.t.b (by decide)
      have hgo3 : (Value.slice A l.length c).ownBlock ≠ some g3 := fun e => by have := T.out.o.lt e; have := M.out.n; omega
      have hg3 : g ≠ g3 := fun e => by have := T.out.b.lt; have := M.out.n; omega
      replace hgo := Lib.hid hgo
      replace hgo3 := Lib.hid hgo3
      replace hg3 := Lib.hid hg3
      clear S0
      have hl6 := M.out.t.n
      refine Txt.wp_textL [4, 5] (RaS g g3 f (.slice A l.length c) x) [_, _, _, _, _, _, _, _, _, _] _ rfl [[_, _, _, _, _, _, _], [_], [_, _]] (by kernel_rfl) (by kernel_rfl) (by kernel_rfl) rfl ⟨M.out.t.b, M.out.x⟩ (Txt.segs_cons ?_)
      have q1 := M.out.t.f1
      go_wp2_with (first
        | (with_reducible refine wpl_load_row (o := ⟨some 47, _, _, _, _, _⟩) rvoteR rfl (.tmp 3) rfl rfl M.out.x (by simpa using lx.out) ?_)
        | ((refine wpl_bslice1 (o := ⟨some 48, _, _, _, _, _⟩) (v0 := x.v) (cells := x.c.toArray) rfl rvotesT rfl rfl (by decide) rfl (by simpa using lx.out) ?_); intro g5 w5 m5
           have b5 := Lib.hid (show Rd w5 98 (.slice (some ⟨g5, 0, none⟩) 1 1) 1 x.c from ⟨_, _, rfl, by rw [lx.out], by omega, fun _ => ⟨g5, 0, rfl, fun j u hu => by rw [m5.blk.cell]; simpa using hu⟩⟩)
           replace M := Lib.hid (M.out.kept m5.kept)
           clear m5 q1))
      refine ⟨rfl, ⟨M.out.t.b, M.out.x⟩, Txt.segs_cons ?_⟩
      go_wp2_with (first
        | (at_builtin
           refine wpl_app (n := l.length) (m := 1) rvotesT rfl (.tmp 46) (.tmp 48) rfl rfl M.out.t.o rfl b5.out (one_vc x) (by omega) (by omega) ?_
           intro v' w6 o6 k6 f6
           obtain ⟨A', c', hv', hlc'⟩ := o6.shape
           subst hv'
           have O6 := Lib.hid o6
           have K6 := Lib.hid k6
           have F6 := Lib.hid f6
           have M6 := Lib.hid (show RaS g g3 f (.slice A l.length c) x w6 from RaS.kept ⟨M.out.t.b, M.out.x⟩ k6 (notin_own hgo.out) (notin_own hgo3.out))
           clear o6 k6 f6))
      refine ⟨rfl, M6.out, Txt.segs_cons ?_⟩
      go_wp2_with fail
      refine ⟨rfl, M6.out, Txt.segs_nil ⟨⟨by kernel_rfl, ?_⟩, ?_⟩⟩
      · intro j hj o ho hw
        have hj2 : j = 4 ∨ j = 5 := by simpa using hj
        rcases hj2 with rfl | rfl <;> cases ho
        · exact ⟨_, rfl, fun u hu => exec_cell (.tmp 45) rfl flatRV rfl (by rw [hu.b.cell]; rfl)⟩
        · exact ⟨_, rfl, fun u hu => exec_load rvoteR (.tmp 3) rfl rfl hu.x (by simpa using lx.out)⟩
      have q2 : w6.cell? ⟨g, 1, none⟩ = some (.slice A l.length c) := by rw [M6.out.b.cell]; rfl
      have q3 := M6.out.b.frozen 1
      go_wp2_with fail
      go_ret
      have O7 : Ow (w6.setCell ⟨g, 1, none⟩ (.slice A' (l.length + 1) c')) 51 98 (.slice A' (l.length + 1) c') (l ++ [x]).length (vcs (l ++ [x])) := by
        rw [List.length_append, show vcs (l ++ [x]) = vcs l ++ x.c from by simp [vcs]]
        exact O6.out.setCell (p := ⟨g, 1, none⟩) (O6.out.blk_ne M6.out.b (by decide)) _
      refine ⟨by rw [e.out]; rfl, .slice A' (l.length + 1) c', ?_, ?_, ?_⟩
      · rw [e.out]
        refine ⟨M6.out.b.set_ 1 _, O7, fun u hu => ?_, by rw [if_pos rfl, List.length_append]; exact hn⟩
        rcases List.mem_append.1 hu with hu | hu
        · exact hok.out u hu
        · rw [List.mem_singleton.1 hu]; exact HX.out
      · exact ((M.out.k.of0 (S := g :: (Value.slice A l.length c).ownBlock.toList)).trans' (K6.out.more (by intro k _ hk; exact List.mem_cons_of_mem _ hk))).setCell (.inl (by simp)) _
      · rcases F6.out with h | h
        · exact .inl h
        · exact .inr ⟨_, h, M.out.k.size⟩
end Go.Proofs.Ythffkgnbgncfaaa
