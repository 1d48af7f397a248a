/-
  Slots: what a replica said; views forgotten.
-/
import Derived.Test.YthffkgnbgncfaaaSt12
namespace Go.Proofs.Ythffkgnbgncfaaa
open Go.RowKit Go.Mem Go.Txt

theorem hz_info : (Try.prog.info? 30).map (·.zero) = some (some (ab (noughts 32))) := by kernel_rfl
theorem hz_built : Try.prog.built 30 [] = some (bv (noughts 32)).toArray := by kernel_rfl
/-- What a replica said. -/
def sd (m : List Vt) (fr : Int) : List UInt8 × Bool := match m.find? fun v => v.fr == fr with | some v => (v.h, true) | none => (noughts 32, false)
/-- What a round knows. -/
structure SaM (w0 : World) (g6 : Nat) (B : Option Addr) (d : Nat) (m : List Vt) (u : World) : Prop where
  b : Blk u g6 30 (bv (noughts 32)).toArray
  r : Rd u 98 (.slice B m.length d) m.length (vcs m)
  k : Kept [] w0 u
  l : w0.heap.size ≤ g6
theorem SaM.kept {w0 : World} {g6 : Nat} {B : Option Addr} {d : Nat} {m : List Vt} {u u' : World} (t : SaM w0 g6 B d m u) (hk : Kept [] u u') : SaM w0 g6 B d m u' := ⟨t.b.kept hk (by simp), t.r.kept0 hk, t.k.then0 hk, t.l⟩
theorem SaM.then1 {w0 : World} {g6 : Nat} {B : Option Addr} {d : Nat} {m : List Vt} {u u' u2 : World} {g9 : Nat} {bt : TypeId} {cs : Array Value} (t : SaM w0 g6 B d m u) (hm : Made u u' g9 bt cs) (hk : Kept [g9] u' u2) : SaM w0 g6 B d m u2 :=
  ⟨(t.b.kept hm.kept (by simp)).kept hk (by have := t.b.lt; have := hm.le; simp; omega),
    (t.r.kept0 hm.kept).kept hk (t.r.old (by omega) (by simpa using hm.le)),
    (t.k.then0 hm.kept).then1 hk (Nat.le_trans t.k.size hm.le), t.l⟩
theorem find_take {m : List Vt} {k : Nat} (hk : k < m.length) (fr : Int) (h : (m.take k).find? (fun v => v.fr == fr) = none) : (m.take (k + 1)).find? (fun v => v.fr == fr) = if m[k].fr == fr then some m[k] else none := by
  rw [List.take_succ_eq_append_getElem hk, List.find?_append, h, Option.none_or]
  cases hb : (m[k].fr == fr) <;> simp [hb]
set_option maxRecDepth 100000 in
set_option maxHeartbeats 3200000 in
theorem said_any {tv : Value} {vw : Int} {m : List Vt} {w : World} (F : Ofs w tv vw m) (fr : Int) :
    Calls Try.prog 17 #[tv, .int .i64 fr, .int .i64 vw] w fun e w' => e = .returned (.tuple #[ab (sd m fr).1, .bool (sd m fr).2]) ∧ Kept [] w w' := by
  have hn := F.n
  have F2 := Lib.hid F
  clear F
  go_enter Try.func17, Try.ntmps17
  go_wp2_with (first
    | ((with_reducible refine wpl_new (o := ⟨some 6, _, _, _, _, _⟩) rfl rfl hz_info ?_); intro g6 w6 m6
       obtain ⟨B, d, hr, _, hc⟩ := F2.out.c w6 m6.kept
       replace hr := Lib.hid hr
       replace hc := Lib.hid hc
       have b6 := Lib.hid (show Blk w6 g6 30 (bv (noughts 32)).toArray from m6.blk)
       have l6 := Lib.hid m6.le
       have K := Lib.hid m6.kept
       clear m6)
    | (go_at_call 21; (with_reducible refine (hc.out).mono ?_); rintro e v ⟨rfl, kk⟩
       have t := Lib.hid (show SaM w g6 B d m v from ⟨b6.out.kept kk (by simp), hr.out.kept0 kk, K.out.then0 kk, l6.out⟩)
       clear kk hr hc b6 K l6))
  go_loopg [14] m.length (fun f i wk => ∃ (k : Nat), k ≤ m.length ∧ f + k = m.length ∧ i = .int .i64 (k : Int) ∧ Hid ((m.take k).find? (fun v => v.fr == fr) = none) ∧ Hid (SaM w g6 B d m wk))
  case atStart => exact ⟨0, by omega, by omega, rfl, Lib.hid (by simp), t⟩
  case round =>
    clear t
    obtain ⟨k, hk, hf, rfl, hno, t⟩ := hrel
    by_cases hlt : k < m.length
    · obtain ⟨gb, ob, cb, hv2, _⟩ := vote_at t.out.r F2.out.ok hlt
      have hB : B = some ⟨gb, ob, none⟩ := by cases hv2; rfl
      subst hB
      clear hv2
      have yok := F2.out.ok _ (List.getElem_mem hlt)
      have hra := Lib.hid (fun (W : World) (r : Rd W 98 (.slice (some ⟨gb, ob, none⟩) m.length d) m.length (vcs m)) => vote_rng r F2.out.ok hlt)
      have est := Lib.hid (find_take hlt fr hno.out)
      have ly := Lib.hid (Vt.len yok)
      obtain ⟨yh, ysig⟩ := yok
      replace yh := Lib.hid yh
      replace ysig := Lib.hid ysig
      have hsd : (m.take (k + 1)).find? (fun v => v.fr == fr) = some m[k] → sd m fr = (m[k].h, true) := by
        intro h
        have : m.find? (fun v => v.fr == fr) = some m[k] := by
          conv => lhs; rw [← List.take_append_drop (k + 1) m, List.find?_append, h]
          rfl
        unfold sd
        rw [this]
      replace hsd := Lib.hid hsd
      generalize m[k] = y at *
      by_cases hb : y.fr = fr
      · have e2 := hsd.out (by rw [est.out, if_pos (by simpa using hb)])
        replace e2 := Lib.hid e2
        clear est hsd
        go_wp2_with (first
          | ((with_reducible refine wpl_idxs (o := ⟨some 16, _, _, _, _, _⟩) (i := k) votesT rfl (.tmp 12) (.tmp 14) rfl rfl rfl hlt ?_))
          | ((with_reducible refine wpl_loadp (o := ⟨some 17, _, _, _, _, _⟩) voteR rfl (.tmp 16) rfl rfl (hra.out _ t.out.r) ly.out ?_))
          | ((with_reducible refine wpl_new (o := ⟨some 9, _, _, _, _, _⟩) rfl rfl vz_info ?_); intro g9 w9 m9
             have tt := Lib.hid (fun u2 (hk : Kept [g9] w9 u2) => t.out.then1 m9 hk)
             clear t)
          | ((refine wpl_store_row (o := ⟨none, Op.store 63 (.tmp 9) (.tmp 17), _, _, _, _⟩) voteR rfl (.tmp 9) (.tmp 17) rfl rfl rfl m9.blk rfl (by simpa using ly.out) (by rw [Array.all_eq_true_iff_forall_mem]; intro u hu; exact one_vc y u (by simpa using hu)) ?_); intro w8 b9 k9
             have t := Lib.hid (tt.out w8 k9)
             replace b9 := Lib.hid b9
             have q9 := Vt.f0 b9.out
             clear k9 m9 tt)
          | ((with_reducible refine wpl_loadp (o := ⟨some 23, _, _, _, _, _⟩) hashT.row rfl (.tmp 22) rfl rfl (Vt.hr b9.out) (by simp [yh.out]) ?_))
          | ((refine wpl_store_row (o := ⟨none, Op.store 30 (.tmp 6) (.tmp 23), _, _, _, _⟩) hashT.row rfl (.tmp 6) (.tmp 23) rfl rfl rfl t.out.b (by simp) (by simp [yh.out]) (one_ab _) ?_); intro w7 b7 k7
             have b7' := Lib.hid b7
             have k7' := Lib.hid (t.out.k.then1 k7 t.out.l)
             clear b7 k7))
        refine ret_row2 hashT.row rfl rfl b7'.out (by simp [yh.out]) rfl ⟨?_, k7'.out⟩
        rw [e2.out]
        rfl
      · have e2 : (m.take (k + 1)).find? (fun v => v.fr == fr) = none := by rw [est.out, if_neg (by simpa using hb)]
        replace e2 := Lib.hid e2
        clear est hsd
        go_wp2_with (first
          | ((with_reducible refine wpl_idxs (o := ⟨some 16, _, _, _, _, _⟩) (i := k) votesT rfl (.tmp 12) (.tmp 14) rfl rfl rfl hlt ?_))
          | ((with_reducible refine wpl_loadp (o := ⟨some 17, _, _, _, _, _⟩) voteR rfl (.tmp 16) rfl rfl (hra.out _ t.out.r) ly.out ?_))
          | ((with_reducible refine wpl_new (o := ⟨some 9, _, _, _, _, _⟩) rfl rfl vz_info ?_); intro g9 w9 m9
             have tt := Lib.hid (fun u2 (hk : Kept [g9] w9 u2) => t.out.then1 m9 hk)
             clear t)
          | ((refine wpl_store_row (o := ⟨none, Op.store 63 (.tmp 9) (.tmp 17), _, _, _, _⟩) voteR rfl (.tmp 9) (.tmp 17) rfl rfl rfl m9.blk rfl (by simpa using ly.out) (by rw [Array.all_eq_true_iff_forall_mem]; intro u hu; exact one_vc y u (by simpa using hu)) ?_); intro w8 b9 k9
             have t := Lib.hid (tt.out w8 k9)
             replace b9 := Lib.hid b9
             have q9 := Vt.f0 b9.out
             clear k9 m9 tt))
        go_roundg (m.length - (k + 1))
        case measure => omega
        case rel => exact ⟨k + 1, by omega, by omega, by go_num, e2, t⟩
    · have hkm : k = m.length := by omega
      subst hkm
      have e2 : sd m fr = (noughts 32, false) := by
        have := hno.out
        rw [List.take_length] at this
        unfold sd
        rw [this]
      replace e2 := Lib.hid e2
      go_wp2_with (first
        | ((with_reducible refine wpl_build0 (o := ⟨some 25, _, _, _, _, _⟩) rfl rfl hz_built ?_))
        | ((refine wpl_store_row (o := ⟨none, Op.store 30 (.tmp 6) (.tmp 25), _, _, _, _⟩) hashT.row rfl (.tmp 6) (.tmp 25) rfl rfl rfl t.out.b (by simp) (by simp) (one_ab _) ?_); intro w7 b7 k7
           have b7' := Lib.hid b7
           have k7' := Lib.hid (t.out.k.then1 k7 t.out.l)
           clear b7 k7))
      refine ret_row2 hashT.row rfl rfl b7'.out (by simp) rfl ⟨?_, k7'.out⟩
      rw [e2.out]
      rfl
/-- Views below are forgotten. -/
abbrev ForP (w : World) (g : Nat) (f : Int) (l : List Vt) (v : Value) (e : Ending) (w' : World) : Prop :=
  e = .returned (.tuple #[]) ∧ ∃ v', Tl w' g f l v' ∧ Kept (g :: v.ownBlock.toList) w w' ∧ v'.ownBlock = v.ownBlock
set_option maxRecDepth 100000 in
set_option maxHeartbeats 800000 in
theorem forget_nil (vw : Int) (w : World) : Calls Try.prog 12 #[.pointer none, .int .i64 vw] w fun e w' => e = .returned (.tuple #[]) ∧ Kept [] w w' := by
  have K := Lib.hid (Kept.refl [] w)
  go_enter Try.func12, Try.ntmps12
  go_wp2_with fail
  go_end0
  exact ⟨rfl, K.out⟩
set_option maxRecDepth 100000 in
set_option maxHeartbeats 800000 in
theorem forget_any {g : Nat} {f : Int} {l : List Vt} {v : Value} {w : World} (t : Tl w g f l v) (hi : inR f l) (vw : Int) :
    Calls Try.prog 12 #[.pointer (some ⟨g, 0, none⟩), .int .i64 vw] w (ForP w g f (l.filter fun v => decide (vw ≤ v.vw)) v) := by
  rw [← drop_vw vw t.srt, ← cnt_lo hi vw]
  have hgo : v.ownBlock ≠ some g := t.o.blk_ne t.b (by decide)
  have hcl := cnt_le l (key (-1) vw)
  have cf := Lib.hid (fun u (t : Tl u g f l v) => find_any t (-1) vw)
  generalize cnt l (key (-1) vw) = j at *
  generalize hits l (key (-1) vw) = z at *
  have cd := Lib.hid (fun u (ho : Ow u 63 98 v l.length (vcs l)) => delete_any t.ok t.n hcl ho)
  have fin : ∀ w' v', Blk w' g 58 #[.int .i64 f, v'] → Ow w' 63 98 v' (l.length - j) (vcs (l.drop j)) → Kept (g :: v.ownBlock.toList) w w' → v'.ownBlock = v.ownBlock → ForP w g f (l.drop j) v (.returned (.tuple #[])) w' := fun w' v' hb ho hk hv =>
    ⟨rfl, v', ⟨hb, by rw [List.length_drop]; exact ho, fun u hu => t.ok u (List.mem_of_mem_drop hu), t.srt.sublist (List.drop_sublist _ _), by rw [List.length_drop]; have := t.n; omega⟩, hk, hv⟩
  replace fin := Lib.hid fin
  obtain ⟨A, c, rfl, hnc⟩ := t.o.shape
  have t2 := Lib.hid t
  replace hgo := Lib.hid hgo
  have K := Lib.hid (Kept.refl [] w)
  clear t hi
  go_enter Try.func12, Try.ntmps12
  go_wp2_with (first
    | (go_at_call 19; (with_reducible refine (cf.out _ (t2.out.kept K.out)).mono ?_); rintro e v ⟨rfl, kk⟩; replace K := Lib.hid (K.out.then0 kk); have q1 := (t2.out.kept K.out).f1; clear kk)
    | (go_at_call 23; (with_reducible refine (cd.out _ (t2.out.o.kept0 K.out)).mono ?_); rintro e w6 ⟨v', rfl, o6, k6, v6⟩
       have b6 := Lib.hid ((t2.out.b.kept K.out (by simp)).kept k6 (notin_own hgo.out))
       have K6 := Lib.hid k6
       have O6 := Lib.hid o6
       have V6 := Lib.hid v6
       obtain ⟨A', c', hv', hnc'⟩ := o6.shape
       subst hv'
       clear o6 k6 v6 q1
       have q2 : w6.cell? ⟨g, 1, none⟩ = some (.slice A l.length c) := by rw [b6.out.cell]; rfl
       have q3 := b6.out.frozen 1))
  go_end0
  exact fin.out _ _ (b6.out.set_ 1 _) (O6.out.setCell (p := ⟨g, 1, none⟩) (O6.out.blk_ne b6.out (by decide)) _) ((((K.out.of0 (S := g :: (Value.slice A l.length c).ownBlock.toList)).trans' (K6.out.more (by intro k _ hk; exact List.mem_cons_of_mem _ hk))).setCell (.inl (by simp)) _)) V6.out
end Go.Proofs.Ythffkgnbgncfaaa
