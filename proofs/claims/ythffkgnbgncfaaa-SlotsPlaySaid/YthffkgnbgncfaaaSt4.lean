/-
  Slots: where a vote stands, or would stand.
-/
import Derived.Test.YthffkgnbgncfaaaSt3
namespace Go.Proofs.Ythffkgnbgncfaaa
open Go.RowKit Go.Mem Go.Txt

/-- What lies in memory. -/
structure BsM (w0 : World) (v : Value) (g : Nat) (l : List Vt) (x : Vt) (u : World) : Prop where
  a : Rd u 98 v l.length (vcs l)
  b : Blk u g 63 x.c.toArray
  k : Kept [] w0 u
theorem BsM.kept {w0 : World} {v : Value} {g : Nat} {l : List Vt} {x : Vt} {u u' : World} (h : BsM w0 v g l x u) (hk : Kept [] u u') : BsM w0 v g l x u' := ⟨h.a.kept0 hk, h.b.kept hk (by simp), h.k.then0 hk⟩
set_option maxRecDepth 100000 in
set_option maxHeartbeats 3200000 in
theorem bsf_any {l : List Vt} (hok : ∀ v ∈ l, v.ok) (hs : Srt l) {x : Vt} (hx : x.ok) (hn : l.length < 4611686018427387904) {v : Value} {w : World} (hr : Rd w 98 v l.length (vcs l)) :
    Calls Try.prog 25 #[v, x.v, .func (.func 26) #[] #[]] w fun e w' => e = .returned (.tuple #[.int .i64 (cnt l x : Nat), .bool (hits l x)]) ∧ Kept [] w w' := by
  have cc := Lib.hid (fun y => vcmp_any y x)
  have hxl := Vt.len hx
  replace hok := Lib.hid hok
  replace hs := Lib.hid hs
  replace hr := Lib.hid hr
  clear hx
  obtain ⟨A, c, hv, _, hnc, _⟩ := hr.out
  replace hnc := Lib.hid hnc
  have hv0 := Lib.hid hv
  subst hv
  go_enter Try.func25, Try.ntmps25
  go_wp2_with ((with_reducible refine wpl_box (o := ⟨some 4, _, _, _, _, _⟩) (v := x.v) rfl (.tmp 1) rfl rfl ?_); intro g2 w2 m2)
  have t := Lib.hid (show BsM w (.slice A l.length c) g2 l x w2 from ⟨hr.out.kept0 m2.kept, m2.blk, m2.kept⟩)
  clear m2 hr
  go_loopg [9, 10] l.length (fun f i j wk => ∃ lo hi : Nat, i = .int .i64 (lo : Int) ∧ j = .int .i64 (hi : Int) ∧ lo ≤ hi ∧ hi ≤ l.length ∧ hi - lo ≤ f ∧ Hid (BsM w (.slice A l.length c) g2 l x wk) ∧ Hid (∀ u (_ : u < lo) (h : u < l.length), vcmp l[u] x < 0) ∧ Hid (∀ u (_ : hi ≤ u) (h : u < l.length), ¬ vcmp l[u] x < 0))
  case atStart => exact ⟨0, l.length, rfl, rfl, by omega, by omega, by omega, t, Lib.hid fun u h => absurd h (by omega), Lib.hid fun u h1 h2 => absurd h2 (by omega)⟩
  case round =>
    clear t
    obtain ⟨lo, hi, rfl, rfl, h1, h2, h3, t, hl, hh⟩ := hrel
    by_cases hlt : lo < hi
    · have hm : (lo + hi) / 2 < l.length := by omega
      generalize hM : (lo + hi) / 2 = M at hm
      have eM : ((lo : Int) + (hi : Int)) / 2 = (M : Int) := by omega
      obtain ⟨gb, ob, cb, hv2, _⟩ := vote_at t.out.a hok.out hm
      have hA : A = some ⟨gb, ob, none⟩ ∧ c = cb := by cases hv2; exact ⟨rfl, rfl⟩
      obtain ⟨rfl, rfl⟩ := hA
      clear hv2
      have el := Lib.hid (Vt.len (hok.out _ (List.getElem_mem hm)))
      replace hM := Lib.hid hM
      have hb1 : lo < M + 1 := by have := hM.out; omega
      have hb2 : M < hi := by have := hM.out; omega
      have hb3 : (lo : Int) + hi < 9223372036854775807 := by omega
      have hsrt := Lib.hid (fun (u : Nat) (h1 : u ≤ M) (h2 : vcmp l[M] x < 0) => srt_lt hs.out h1 hm h2)
      have hsrt2 := Lib.hid (fun (u : Nat) (h1 : M ≤ u) (hu : u < l.length) (h2 : ¬ vcmp l[M] x < 0) => (fun h3 => h2 (srt_lt hs.out h1 hu h3) : ¬ vcmp l[u] x < 0))
      have hra := Lib.hid (fun W (h : BsM w (.slice (some ⟨gb, ob, none⟩) l.length c) g2 l x W) => vote_rng h.a hok.out hm)
      generalize l[M] = y at *
      by_cases hc : vcmp y x < 0
      · go_wp2_with fail
        refine Txt.wp_text (by kernel_rfl) (by kernel_rfl) ?_
        replace t := Lib.hid (t.out.kept (Kept.refl [] _).drew)
        go_wp2_with (first
          | ((with_reducible refine wpl_idxs (o := ⟨some 27, _, _, _, _, _⟩) (i := M) votesT rfl (.tmp 25) (.tmp 26) rfl rfl rfl hm ?_))
          | ((with_reducible refine wpl_loadp (o := ⟨some 28, _, _, _, _, _⟩) voteR rfl (.tmp 27) rfl rfl (hra.out _ t.out) el.out ?_))
          | ((with_reducible refine wpl_load_row (o := ⟨some 29, _, _, _, _, _⟩) voteR rfl (.tmp 4) rfl rfl t.out.b (by simpa using hxl) ?_))
          | (go_at_call 26; (refine (cc.out y _).mono ?_); rintro e v ⟨rfl, kk⟩; have t := Lib.hid (t.out.kept kk); clear kk))
        refine ⟨rfl, by kernel_rfl, ?_⟩
        go_wp2_with fail
        go_roundg (hi - (M + 1))
        case measure => omega
        case rel => exact ⟨M + 1, hi, by go_num, rfl, by omega, h2, by omega, t, Lib.hid fun u h1 h2 => hsrt.out u (by omega) hc, hh⟩
      · have c2 := Lib.hid (show ∀ W, Calls Try.prog 26 #[y.v, x.v] W fun e w' => e = .returned (.int .i64 (vcmp y x)) ∧ Kept [] W w' from cc.out y)
        have hc2 := Lib.hid hc
        clear hc cc
        generalize vcmp y x = q at *
        obtain ⟨q, rfl⟩ : ∃ k : Nat, q = k := ⟨q.toNat, by have := hc2.out; omega⟩
        go_wp2_with fail
        refine Txt.wp_text (by kernel_rfl) (by kernel_rfl) ?_
        replace t := Lib.hid (t.out.kept (Kept.refl [] _).drew)
        go_wp2_with (first
          | ((with_reducible refine wpl_idxs (o := ⟨some 27, _, _, _, _, _⟩) (i := M) votesT rfl (.tmp 25) (.tmp 26) rfl rfl rfl hm ?_))
          | ((with_reducible refine wpl_loadp (o := ⟨some 28, _, _, _, _, _⟩) voteR rfl (.tmp 27) rfl rfl (hra.out _ t.out) el.out ?_))
          | ((with_reducible refine wpl_load_row (o := ⟨some 29, _, _, _, _, _⟩) voteR rfl (.tmp 4) rfl rfl t.out.b (by simpa using hxl) ?_))
          | (go_at_call 26; (refine (c2.out _).mono ?_); rintro e v ⟨rfl, kk⟩; have t := Lib.hid (t.out.kept kk); clear kk))
        refine ⟨rfl, by kernel_rfl, ?_⟩
        have hq : decide ((q : Int) < 0) = false := by simp
        simp only [hq]
        go_wp2_with fail
        go_roundg (M - lo)
        case measure => omega
        case rel => exact ⟨lo, M, rfl, rfl, by omega, by omega, by omega, t, hl, Lib.hid fun u h1 hu => Int.not_lt.1 (hsrt2.out u h1 hu hc2.out)⟩
    · obtain rfl : hi = lo := by omega
      have ec : cnt l x = hi := cnt_eq x l hi h2 hl.out hh.out
      by_cases hlen : hi < l.length
      · have eh := hits_eq hs.out (x := x) (by omega) (fun u hu h => hl.out u (by omega) h)
        obtain ⟨gb, ob, cb, hv2, _⟩ := vote_at t.out.a hok.out hlen
        have hA : A = some ⟨gb, ob, none⟩ ∧ c = cb := by cases hv2; exact ⟨rfl, rfl⟩
        obtain ⟨rfl, rfl⟩ := hA
        clear hv2
        have el := Lib.hid (Vt.len (hok.out _ (List.getElem_mem hlen)))
        have hra := Lib.hid (fun W (h : BsM w (.slice (some ⟨gb, ob, none⟩) l.length c) g2 l x W) => vote_rng h.a hok.out hlen)
        have eh2 : hits l x = decide (vcmp l[hi] x = 0) := by rw [eh]; simp only [ec]
        replace eh2 := Lib.hid eh2
        replace ec := Lib.hid ec
        clear eh
        generalize l[hi] = y at *
        generalize hz : decide (vcmp y x = 0) = zb at *
        have hz2 := Lib.hid hz
        clear hz
        go_wp2_with fail
        refine Txt.wp_text (by kernel_rfl) (by kernel_rfl) ?_
        replace t := Lib.hid (t.out.kept (Kept.refl [] _).drew)
        go_wp2_with (first
          | ((with_reducible refine wpl_idxs (o := ⟨some 43, _, _, _, _, _⟩) (i := hi) votesT rfl (.tmp 41) (.tmp 42) rfl rfl rfl hlen ?_))
          | ((with_reducible refine wpl_loadp (o := ⟨some 44, _, _, _, _, _⟩) voteR rfl (.tmp 43) rfl rfl (hra.out _ t.out) el.out ?_))
          | ((with_reducible refine wpl_load_row (o := ⟨some 45, _, _, _, _, _⟩) voteR rfl (.tmp 4) rfl rfl t.out.b (by simpa using hxl) ?_))
          | (go_at_call 26; (refine (cc.out y _).mono ?_); rintro e v ⟨rfl, kk⟩; have t := Lib.hid (t.out.kept kk); clear kk))
        refine ⟨rfl, by kernel_rfl, ?_⟩
        go_wp2_with fail
        go_ret2
        refine ⟨?_, t.out.k⟩
        rw [ec.out, eh2.out, ← hz2.out]
        rfl
      · have eh := Lib.hid (hits_nil (l := l) (x := x) (by omega))
        replace ec := Lib.hid ec
        go_wp2_with fail
        refine Txt.wp_text (by kernel_rfl) (by kernel_rfl) ?_
        replace t := Lib.hid (t.out.kept (Kept.refl [] _).drew)
        go_wp2_with fail
        refine ⟨rfl, by kernel_rfl, ?_⟩
        go_wp2_with fail
        go_ret2
        refine ⟨?_, t.out.k⟩
        rw [ec.out, eh.out]
        rfl
end Go.Proofs.Ythffkgnbgncfaaa
