/-
  Slots: a vote added.
-/
import Derived.Test.YthffkgnbgncfaaaSt8
import Derived.Test.YthffkgnbgncfaaaText6
namespace Go.Proofs.Ythffkgnbgncfaaa
open Go.RowKit Go.Mem Go.Txt

/-- The place of a vote is that of its replica in its view. -/
theorem cnt_key (l : List Vt) (x : Vt) : cnt l (key x.fr x.vw) = cnt l x := rfl
theorem hits_key (l : List Vt) (x : Vt) : hits l (key x.fr x.vw) = hits l x := rfl
/-- Does it count? -/
def okv (f : Int) (l : List Vt) (x : Vt) : Bool := decide (0 ≤ x.fr) && (decide (x.fr ≤ 3 * f) && !hits l x)
/-- The votes with it. -/
def insv (l : List Vt) (x : Vt) : List Vt := l.take (cnt l x) ++ x :: l.drop (cnt l x)
def addv (f : Int) (l : List Vt) (x : Vt) : List Vt := if okv f l x then insv l x else l
theorem insv_len (l : List Vt) (x : Vt) : (insv l x).length = l.length + 1 := by
  have := cnt_le l x
  simp [insv]; omega
theorem mem_insv {l : List Vt} {x v : Vt} : v ∈ insv l x ↔ v = x ∨ v ∈ l := by
  unfold insv
  rw [List.mem_append, List.mem_cons]
  constructor
  · rintro (h | h | h)
    · exact .inr (List.mem_of_mem_take h)
    · exact .inl h
    · exact .inr (List.mem_of_mem_drop h)
  · rintro (h | h)
    · exact .inr (.inl h)
    · rw [← List.take_append_drop (cnt l x) l, List.mem_append] at h
      rcases h with h | h
      · exact .inl h
      · exact .inr (.inr h)
/-- Ahead of the place stand those that come ahead. -/
theorem cnt_split : ∀ {l : List Vt}, Srt l → ∀ (x : Vt), (∀ v ∈ l.take (cnt l x), vcmp v x < 0) ∧ (∀ v ∈ l.drop (cnt l x), ¬ vcmp v x < 0)
  | [], _, x => by simp
  | a :: l, h, x => by
    obtain ⟨h1, h2⟩ := List.pairwise_cons.1 h
    by_cases ha : vcmp a x < 0
    · have e : cnt (a :: l) x = cnt l x + 1 := List.countP_cons_of_pos (by simpa using ha)
      rw [e, List.take_succ_cons, List.drop_succ_cons]
      have := cnt_split h2 x
      refine ⟨fun v hv => ?_, this.2⟩
      rcases List.mem_cons.1 hv with rfl | hv
      · exact ha
      · exact this.1 v hv
    · have h0 : ∀ v ∈ a :: l, ¬ vcmp v x < 0 := by
        intro v hv h3
        rcases List.mem_cons.1 hv with rfl | hv
        · exact ha h3
        · have := h1 v hv
          rw [vcmp_lt] at this h3 ha
          omega
      have e : cnt (a :: l) x = 0 := List.countP_eq_zero.2 fun v hv => by simpa using h0 v hv
      rw [e]
      exact ⟨by simp, by simpa using h0⟩
theorem insv_srt {l : List Vt} (h : Srt l) {x : Vt} (hx : hits l x = false) : Srt (insv l x) := by
  obtain ⟨h1, h2⟩ := cnt_split h x
  unfold insv Srt
  have hs := h
  unfold Srt at hs
  rw [← List.take_append_drop (cnt l x) l, List.pairwise_append] at hs
  rw [List.pairwise_append, List.pairwise_cons]
  refine ⟨hs.1, ⟨fun v hv => ?_, hs.2.1⟩, fun v hv u hu => ?_⟩
  · have h3 := h2 v hv
    have h4 : ¬ vcmp v x = 0 := by
      have := List.any_eq_false.1 hx v (List.mem_of_mem_drop hv)
      simpa using this
    rw [vcmp_lt] at h3 ⊢
    rw [vcmp_eq] at h4
    omega
  · rcases List.mem_cons.1 hu with rfl | hu
    · exact h1 v hv
    · exact hs.2.2 v hv u hu
theorem as_map {n : Nat} {l : List UInt8} (h : l.length = n) : l = (List.range n).map fun i => l.getD i 0 := by
  subst h
  apply List.ext_getElem
  · simp
  · intro i h1 h2; simp [h1]
theorem add_gen (fr vw : Int) (p q : Nat → UInt8) : Try.prog.built 63 [(0, .int .i64 fr), (1, .int .i64 vw), (2, ab ((List.range 32).map p)), (3, ab ((List.range 64).map q))] = some (Vt.c ⟨fr, vw, (List.range 32).map p, (List.range 64).map q⟩).toArray := by kernel_rfl
theorem add_built (x : Vt) (h : x.ok) : Try.prog.built 63 [(0, .int .i64 x.fr), (1, .int .i64 x.vw), (2, ab x.h), (3, ab x.s)] = some x.c.toArray := by
  obtain ⟨fr, vw, h1, s1⟩ := x
  obtain ⟨hh, hs⟩ := h
  simp only at hh hs ⊢
  rw [as_map hh, as_map hs]
  exact add_gen _ _ _ _
theorem hashT : ArrT Try.prog 30 5 32 := ⟨Try.underlying30, by kernel_rfl⟩
theorem sigT : ArrT Try.prog 31 5 64 := ⟨Try.underlying31, by kernel_rfl⟩
theorem flatV (w : World) : (isAgg 56).run Try.prog w = .ok false w := by kernel_rfl
/-- What Add needs up to its last step. -/
structure AdM (g g8 g9 : Nat) (f : Int) (v : Value) (x : Vt) (u : World) : Prop where
  b : Blk u g 58 #[.int .i64 f, v]
  h : Blk u g8 30 (bv x.h).toArray
  s : Blk u g9 31 (bv x.s).toArray
theorem AdM.kept {g g8 g9 : Nat} {f : Int} {v : Value} {x : Vt} {u u' : World} {S : List Nat} (m : AdM g g8 g9 f v x u) (hk : Kept S u u') (h1 : g ∉ S) (h2 : g8 ∉ S) (h3 : g9 ∉ S) : AdM g g8 g9 f v x u' := ⟨m.b.kept hk h1, m.h.kept hk h2, m.s.kept hk h3⟩
theorem AdM.kept0 {g g8 g9 : Nat} {f : Int} {v : Value} {x : Vt} {u u' : World} (m : AdM g g8 g9 f v x u) (hk : Kept [] u u') : AdM g g8 g9 f v x u' := m.kept hk (by simp) (by simp) (by simp)
/-- What Add does. -/
abbrev AddP (w : World) (g : Nat) (f : Int) (l : List Vt) (v : Value) (x : Vt) (e : Ending) (w' : World) : Prop :=
  e = .returned (.bool (okv f l x)) ∧ ∃ v', Tl w' g f (addv f l x) v' ∧ Kept (g :: v.ownBlock.toList) w w' ∧ (v'.ownBlock = v.ownBlock ∨ ∃ k, v'.ownBlock = some k ∧ w.heap.size ≤ k)
set_option maxRecDepth 100000 in
set_option maxHeartbeats 1600000 in
theorem add_no {g : Nat} {f : Int} {l : List Vt} {v : Value} {w : World} (t : Tl w g f l v) (hf : 0 ≤ f ∧ f ≤ 1000000) (x : Vt) (hno : okv f l x = false) :
    Calls Try.prog 8 #[.pointer (some ⟨g, 0, none⟩), .int .i64 x.fr, .int .i64 x.vw, ab x.h, ab x.s] w (AddP w g f l v x) := by
  have ea : addv f l x = l := by unfold addv; rw [hno]; rfl
  have fin : ∀ w', Kept [] w w' → AddP w g f l v x (.returned (.bool false)) w' := fun w' hk => ⟨by rw [hno], v, by rw [ea]; exact t.kept hk, hk.of0, .inl rfl⟩
  replace fin := Lib.hid fin
  obtain ⟨hf1, hf2⟩ := hf
  clear ea
  by_cases h1 : 0 ≤ x.fr
  · by_cases h2 : x.fr ≤ 3 * f
    · have h3 : hits l (key x.fr x.vw) = true := by
        rw [hits_key]
        unfold okv at hno
        rw [decide_eq_true h1, decide_eq_true h2] at hno
        simpa using hno
      have cf := Lib.hid (fun u (t : Tl u g f l v) => (by have := find_any t x.fr x.vw; rw [h3] at this; exact this : Calls Try.prog 19 #[.pointer (some ⟨g, 0, none⟩), .int .i64 x.fr, .int .i64 x.vw] u fun e w' => e = .returned (.tuple #[.int .i64 (cnt l (key x.fr x.vw) : Nat), .bool true]) ∧ Kept [] u w'))
      generalize cnt l (key x.fr x.vw) = cx at *
      clear hno h3
      have t2 := Lib.hid t
      generalize x.fr = fr at *
      generalize x.vw = vw at *
      clear t
      have h4 : ¬ fr < 0 := by omega
      have h5 : ¬ 3 * f < fr := by omega
      go_enter Try.func8, Try.ntmps8
      go_wp2_with (first
        | ((with_reducible refine wpl_box (o := ⟨some 8, _, _, _, _, _⟩) (v := ab x.h) rfl (.tmp 3) rfl rfl ?_); intro g8 w8 m8)
        | ((with_reducible refine wpl_box (o := ⟨some 9, _, _, _, _, _⟩) (v := ab x.s) rfl (.tmp 4) rfl rfl ?_); intro g9 w9 m9
           have K := Lib.hid (m8.kept.then0 m9.kept)
           clear m8 m9
           have t3 := Lib.hid (t2.out.kept K.out)
           have q0 := t3.out.f0)
        | (go_at_call 19; (with_reducible refine (cf.out _ t3.out).mono ?_); rintro e v ⟨rfl, kk⟩; replace K := Lib.hid (K.out.then0 kk); clear kk))
      go_ret
      exact fin.out _ K.out
    · clear hno
      have t2 := Lib.hid t
      clear t
      generalize x.fr = fr at *
      generalize x.vw = vw at *
      have h4 : ¬ fr < 0 := by omega
      have h5 : 3 * f < fr := by omega
      go_enter Try.func8, Try.ntmps8
      go_wp2_with (first
        | ((with_reducible refine wpl_box (o := ⟨some 8, _, _, _, _, _⟩) (v := ab x.h) rfl (.tmp 3) rfl rfl ?_); intro g8 w8 m8)
        | ((with_reducible refine wpl_box (o := ⟨some 9, _, _, _, _, _⟩) (v := ab x.s) rfl (.tmp 4) rfl rfl ?_); intro g9 w9 m9
           have K := Lib.hid (m8.kept.then0 m9.kept)
           clear m8 m9
           have t3 := Lib.hid (t2.out.kept K.out)
           have q0 := t3.out.f0))
      go_ret
      exact fin.out _ K.out
  · clear hno
    have t2 := Lib.hid t
    clear t
    generalize x.fr = fr at *
    generalize x.vw = vw at *
    have h4 : fr < 0 := by omega
    go_enter Try.func8, Try.ntmps8
    go_wp2_with (first
      | ((with_reducible refine wpl_box (o := ⟨some 8, _, _, _, _, _⟩) (v := ab x.h) rfl (.tmp 3) rfl rfl ?_); intro g8 w8 m8)
      | ((with_reducible refine wpl_box (o := ⟨some 9, _, _, _, _, _⟩) (v := ab x.s) rfl (.tmp 4) rfl rfl ?_); intro g9 w9 m9
         have K := Lib.hid (m8.kept.then0 m9.kept)
         clear m8 m9))
    go_ret
    exact fin.out _ K.out
end Go.Proofs.Ythffkgnbgncfaaa
