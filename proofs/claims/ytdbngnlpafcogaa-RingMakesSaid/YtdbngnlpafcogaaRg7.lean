/-
  The ring's laws: what must be answered ahead of everything else.
-/
import Derived.Test.YtdbngnlpafcogaaRg6
import Derived.Test.YtdbngnlpafcogaaKr7
namespace Go.Proofs.Ytdbngnlpafcogaa
open Go.RowKit Go.Mem Go.Txt

theorem faults_any {w : World} {r b : Nat} {kv : Value} {keys : List (List UInt8)} {D : DU} (h : Rg w r kv keys b D) :
    Calls Try.prog 20 #[.pointer (some ⟨r, 0, none⟩)] w fun e w' => e = .returned (.int .i64 ((keys.length / 3 : Nat) : Int)) ∧ w' = w := by
  have cs := Lib.hid (size_any h)
  have e3 : ((keys.length : Int).tdiv 3) = ((keys.length / 3 : Nat) : Int) := by rw [Int.tdiv_eq_ediv_of_nonneg (by omega)]; omega
  have hw : keys.length ≤ 7 := h.few
  clear h
  go_enter Try.func20, Try.ntmps20
  go_wp2_with (go_at_call 19; (with_reducible refine cs.out.mono ?_); rintro e v ⟨rfl, rfl⟩)
  go_ret
  refine ⟨?_, rfl⟩
  simp
theorem quorum_any {w : World} {r b : Nat} {kv : Value} {keys : List (List UInt8)} {D : DU} (h : Rg w r kv keys b D) :
    Calls Try.prog 21 #[.pointer (some ⟨r, 0, none⟩)] w fun e w' => e = .returned (.int .i64 ((2 * (keys.length / 3) + 1 : Nat) : Int)) ∧ w' = w := by
  have cs := Lib.hid (faults_any h)
  obtain ⟨f, hf⟩ : ∃ f, f = keys.length / 3 := ⟨_, rfl⟩
  have hw : f ≤ 7 := by have := h.few; omega
  rw [← hf] at cs ⊢
  clear h hf
  go_enter Try.func21, Try.ntmps21
  go_wp2_with (go_at_call 20; (with_reducible refine cs.out.mono ?_); rintro e v ⟨rfl, rfl⟩)
  go_ret
  refine ⟨?_, rfl⟩
  simp
theorem size_1 {w : World} {r b : Nat} {kv : Value} {K : List UInt8} {D : DU} (h : Rg w r kv [K] b D) : Calls Try.prog 19 #[.pointer (some ⟨r, 0, none⟩)] w fun e w' => e = .returned (.int .i64 1) ∧ w' = w := size_any h
theorem quorum_1 {w : World} {r b : Nat} {kv : Value} {K : List UInt8} {D : DU} (h : Rg w r kv [K] b D) : Calls Try.prog 21 #[.pointer (some ⟨r, 0, none⟩)] w fun e w' => e = .returned (.int .i64 1) ∧ w' = w := by
  have := quorum_any h
  have e : ((2 * ([K].length / 3) + 1 : Nat) : Int) = 1 := by rw [List.length_singleton]; rfl
  rwa [e] at this
theorem lit_b {w : World} {g : Nat} {a : UInt8} {cs : Array Value} {fr : Nat × Nat} (hg : g = w.heap.size) (hc : cs = (bv [a]).toArray) : isRd [a] (.slice (some ⟨g, 0, none⟩) 1 1) (w.alloc (.cells cs 5 fr)) := by
  subst hg hc
  exact Rd.alloc_at rfl rfl (by simp) (by simp)
theorem Pm.keptM {w0 u u' : World} {L : List (Nat × TypeId × Array Value)} {b n : Nat} {D : DU} (h : Pm w0 L u) (m : oM u b n D) (k : Kept [b] u u') (hb : w0.heap.size ≤ b) : Pm w0 L u' :=
  ⟨fun p hp => (h.s p hp).kept k (by simpa using Blk.ne_map (h.s p hp) m), h.k.then1 k hb⟩
theorem rnew_two (A : Option Addr) (c : Nat) (w : World) : Calls Try.prog 12 #[.slice A 2 c] w fun e w' => e = .returned (.tuple #[.pointer none, .int .i64 2]) ∧ Kept [] w w' := by
  go_enter Try.func12, Try.ntmps12
  go_wp2_with fail
  go_ret2
  exact ⟨rfl, Kept.refl _ _⟩
abbrev OpC (K S body : List UInt8) (tag : Int) (ok : Bool) : Prop := ∀ u r b kv D v, Rg u r kv [K] b D → isRd body v u → Calls Try.prog 15 #[.pointer (some ⟨r, 0, none⟩), .int .i64 0, .int .u8 tag, v, ab S] u fun e w' => e = .returned (.bool ok) ∧ ∃ D', Rg w' r kv [K] b D' ∧ Kept [b] u w'
theorem open_c {K S body : List UInt8} {ok : Bool} (tag : UInt8) (z : Int) (hz : (tag.toNat : Int) = z) (hs : S.length = 64) (hl : body.length ≤ 140737488351232) (hok : okV K S (whatB tag body) = ok) : OpC K S body z ok := by
  subst hz
  intro u r b kv D v h hv
  have := open_any (i := 0) tag (SG := S) body h (by simp) hs v hv hl
  rw [show ([K] : List (List UInt8)).getD 0 [] = K from rfl, hok] at this
  exact this
abbrev SeC (l S body : List UInt8) (tag : Int) : Prop := ∀ u v, isRd body v u → Calls Try.prog 17 #[ab l, .int .u8 tag, v] u fun e w' => e = .returned (ab S) ∧ Kept [] u w'
theorem seal_c {l body : List UInt8} (tag : UInt8) (z : Int) (hz : (tag.toNat : Int) = z) (hl : l.length = 32) (hb : body.length ≤ 140737488351232) : SeC l (signB l (whatB tag body)) body z := by
  subst hz
  intro u v hv
  exact seal_any tag hl v body u hv hb
theorem one_row {w : World} {g : Nat} {t : TypeId} {K : List UInt8} (hb : Blk w g t (bv K).toArray) (hK : K.length = 32) : Rd w 32 (.slice (some ⟨g, 0, none⟩) 1 1) [K].length ([K].flatMap bv) :=
  ⟨_, _, rfl, by simp [hK], by simp, fun _ => ⟨g, 0, rfl, fun j u hu => by rw [hb.cell, Nat.zero_add]; simpa using hu⟩⟩
theorem rnew_one {K : List UInt8} (hK : K.length = 32) (u : World) (v : Value) (hr : Rd u 32 v [K].length ([K].flatMap bv)) : Calls Try.prog 12 #[v] u fun e w' => ∃ r b kv, e = .returned (.tuple #[.pointer (some ⟨r, 0, none⟩), .int .i64 0]) ∧ Rg w' r kv [K] b (.map []) ∧ Kept [] u w' ∧ u.heap.size ≤ b := by
  refine (rnew_any v [K] u hr (by simpa using hK) (by simp) rfl (by simp)).mono ?_
  rintro e w' (⟨h, _⟩ | ⟨_, h⟩)
  · exact absurd (by simp) h
  · obtain ⟨r, b, kv, e1, e2, e3, e4, _⟩ := h
    exact ⟨r, b, kv, e1, e2, e3, e4⟩
set_option maxRecDepth 100000 in
set_option maxHeartbeats 3200000 in
theorem first_walk {l K S : List UInt8} (hl : l.length = 32) (hK : K.length = 32) (hS : S.length = 64) (l3 : Value.agg #[.int .u8 3, .int .u8 0, .int .u8 0, .int .u8 0, .int .u8 0, .int .u8 0, .int .u8 0, .int .u8 0, .int .u8 0, .int .u8 0, .int .u8 0, .int .u8 0, .int .u8 0, .int .u8 0, .int .u8 0, .int .u8 0, .int .u8 0, .int .u8 0, .int .u8 0, .int .u8 0, .int .u8 0, .int .u8 0, .int .u8 0, .int .u8 0, .int .u8 0, .int .u8 0, .int .u8 0, .int .u8 0, .int .u8 0, .int .u8 0, .int .u8 0, .int .u8 0] = ab l)
    (cp : ∀ u, Calls Try.prog 11 #[ab l] u fun e w' => e = .returned (ab K) ∧ Kept [] u w') (cs : SeC l S [97] 3) (o1 : OpC K S [97] 3 true) (o2 : OpC K S [97] 4 false) (w : World) :
    Calls Try.prog 10 #[] w fun e w' => e = .returned (.bool true) ∧ Kept [] w w' := by
  have cn := Lib.hid (rnew_one hK)
  replace hl := Lib.hid hl
  replace hK := Lib.hid hK
  replace hS := Lib.hid hS
  replace cp := Lib.hid cp
  replace cs := Lib.hid cs
  replace o1 := Lib.hid o1
  replace o2 := Lib.hid o2
  have t := Lib.hid (Pm.none w)
  go_enter Try.func10, Try.ntmps10
  go_wp2_with (first
    | ((with_reducible refine wpl_at 1 ?_); (refine wpl_new (o := ⟨some 1, _, _, _, _, _⟩) rfl rfl zeroB ?_); intro g1 w1 m1
       refine wpl_store_row (cs := (bv l).toArray) (o := ⟨none, Op.store 26 (.tmp 1) (.tmp 7), _, _, _, _⟩) arrB.row rfl (.tmp 1) (.tmp 7) rfl rfl rfl m1.blk (by rfl) (by simpa using hl.out) (one_ab _) ?_
       intro wb1 b1 k1
       replace t := Lib.hid (t.out.put m1 b1 k1)
       clear m1 b1 k1)
    | ((with_reducible refine wpl_at 9 ?_); refine wpl_load_row (cs := (bv l).toArray) (o := ⟨some 9, _, _, _, _, _⟩) arrB.row rfl (.tmp 1) rfl rfl (t.out.s (g1, 26, (bv l).toArray) (by simp)) (by simpa using hl.out) ?_)
    | (go_at_call 11; (with_reducible refine (cp.out _).mono ?_); rintro e v ⟨rfl, kk⟩; replace t := Lib.hid (t.out.kept kk); clear kk)
    | ((with_reducible refine wpl_at 11 ?_); (refine wpl_bslice1 (o := ⟨some 11, _, _, _, _, _⟩) (v0 := ab K) (cells := (bv K).toArray) rfl keysT rfl rfl (by decide) rfl (by simpa using hK.out) ?_); intro g11 w11 m11
       have R11 := Lib.hid (one_row m11.blk hK.out)
       replace t := Lib.hid (t.out.kept m11.kept)
       clear m11)
    | (go_at_call 12; (with_reducible refine (cn.out _ _ R11.out).mono ?_); rintro e v12 ⟨r, b, kv, rfl, h12, k12, l12⟩
       have HB := Lib.hid (Nat.le_trans t.out.k.size l12)
       replace t := Lib.hid (t.out.kept k12)
       have H := Lib.hid h12
       clear h12 k12 l12 R11)
    | (go_at_call 12; (with_reducible refine (rnew_two _ _ _).mono ?_); rintro e v19 ⟨rfl, kk⟩
       replace t := Lib.hid (t.out.kept (((Kept.refl [] _).alloc _).then0 kk))
       replace H := Lib.hid (H.out.kept (((Kept.refl [] _).alloc _).then0 kk))
       clear kk)
    | ((with_reducible refine wpl_at 22 ?_); refine wpl_load_row (cs := (bv l).toArray) (o := ⟨some 22, _, _, _, _, _⟩) arrB.row rfl (.tmp 1) rfl rfl (t.out.s (g1, 26, (bv l).toArray) (by simp)) (by simpa using hl.out) ?_)
    | (go_at_call 17; (with_reducible refine (cs.out _ _ (lit_b (a := 97) (cs := #[.int .u8 97]) rfl rfl)).mono ?_); rintro e v25 ⟨rfl, kk⟩
       replace t := Lib.hid (t.out.kept (((Kept.refl [] _).alloc _).then0 kk))
       replace H := Lib.hid (H.out.kept (((Kept.refl [] _).alloc _).then0 kk))
       clear kk)
    | ((with_reducible refine wpl_at 6 ?_); (refine wpl_new (o := ⟨some 6, _, _, _, _, _⟩) rfl rfl zero64 ?_); intro g6 w6 m6
       refine wpl_store_row (cs := (bv S).toArray) (o := ⟨none, Op.store 24 (.tmp 6) (.tmp 25), _, _, _, _⟩) Q.sigR rfl (.tmp 6) (.tmp 25) rfl rfl rfl m6.blk (by rfl) (by simpa using hS.out) (one_ab _) ?_
       intro wb6 b6 k6
       replace t := Lib.hid (t.out.put m6 b6 k6)
       replace H := Lib.hid (H.out.kept (m6.kept.then1 k6 m6.le))
       clear m6 b6 k6)
    | (go_at_call 19; (with_reducible refine (size_1 H.out).mono ?_); rintro e v34 ⟨rfl, rfl⟩)
    | (go_at_call 21; (with_reducible refine (quorum_1 H.out).mono ?_); rintro e v39 ⟨rfl, rfl⟩)
    | ((with_reducible refine wpl_at 46 ?_); refine wpl_load_row (cs := (bv S).toArray) (o := ⟨some 46, _, _, _, _, _⟩) Q.sigR rfl (.tmp 6) rfl rfl ((t.out.s (g6, 24, (bv S).toArray) (by simp)).alloc _) (by simpa using hS.out) ?_)
    | ((with_reducible refine wpl_at 53 ?_); refine wpl_load_row (cs := (bv S).toArray) (o := ⟨some 53, _, _, _, _, _⟩) Q.sigR rfl (.tmp 6) rfl rfl ((t.out.s (g6, 24, (bv S).toArray) (by simp)).alloc _) (by simpa using hS.out) ?_)
    | (go_at_call 15; (with_reducible refine (o1.out _ _ _ _ _ _ (H.out.kept ((Kept.refl [] _).alloc _)) (lit_b (a := 97) (cs := #[.int .u8 97]) rfl rfl)).mono ?_); rintro e v47 ⟨rfl, D', h', k'⟩
       obtain ⟨n0, m0⟩ := (H.out.kept ((Kept.refl [] _).alloc _)).map
       replace t := Lib.hid ((t.out.kept ((Kept.refl [] _).alloc _)).keptM m0 k' HB.out)
       replace H := Lib.hid h'
       clear h' k' m0)
    | (go_at_call 15; (with_reducible refine (o2.out _ _ _ _ _ _ (H.out.kept ((Kept.refl [] _).alloc _)) (lit_b (a := 97) (cs := #[.int .u8 97]) rfl rfl)).mono ?_); rintro e v54 ⟨rfl, D', h', k'⟩
       obtain ⟨n0, m0⟩ := (H.out.kept ((Kept.refl [] _).alloc _)).map
       replace t := Lib.hid ((t.out.kept ((Kept.refl [] _).alloc _)).keptM m0 k' HB.out)
       replace H := Lib.hid h'
       clear h' k' m0))
  go_ret
  exact ⟨rfl, t.out.k⟩
/-- The first lines. -/
theorem lit3_v : Value.agg #[.int .u8 3, .int .u8 0, .int .u8 0, .int .u8 0, .int .u8 0, .int .u8 0, .int .u8 0, .int .u8 0, .int .u8 0, .int .u8 0, .int .u8 0, .int .u8 0, .int .u8 0, .int .u8 0, .int .u8 0, .int .u8 0, .int .u8 0, .int .u8 0, .int .u8 0, .int .u8 0, .int .u8 0, .int .u8 0, .int .u8 0, .int .u8 0, .int .u8 0, .int .u8 0, .int .u8 0, .int .u8 0, .int .u8 0, .int .u8 0, .int .u8 0, .int .u8 0] = ab (le 3 32) := by kernel_rfl
theorem first_any (w : World) : Calls Try.prog 10 #[] w fun e w' => e = .returned (.bool true) ∧ Kept [] w w' := by
  have hl := le_len 3 32
  have hK := encS_len (numS (le 3 32))
  have hS := sig_len (le 3 32) (whatB 3 [97])
  exact first_walk hl hK hS lit3_v (fun u => public_any _ hl u) (seal_c 3 3 rfl hl (by decide)) (open_c 3 3 rfl hS (by decide) (sign_ok _ _)) (open_c 4 4 rfl hS (by decide) (kr_no kr7)) w
end Go.Proofs.Ytdbngnlpafcogaa
