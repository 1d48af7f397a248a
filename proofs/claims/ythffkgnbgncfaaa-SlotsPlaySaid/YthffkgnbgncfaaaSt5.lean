/-
  Slots: a tally in memory; where a replica's vote stands; the votes of a view.
-/
import Derived.Test.YthffkgnbgncfaaaSt4
namespace Go.Proofs.Ythffkgnbgncfaaa
open Go.RowKit Go.Mem Go.Txt

/-- What find seeks. -/
def key (fr vw : Int) : Vt := ⟨fr, vw, List.replicate 32 0, List.replicate 64 0⟩
theorem key_ok (fr vw : Int) : (key fr vw).ok := ⟨by simp [key], by simp [key]⟩
theorem key_built (fr vw : Int) : Try.prog.built 63 [(0, .int .i64 fr), (1, .int .i64 vw)] = some (key fr vw).c.toArray := by kernel_rfl
/-- A tally. -/
structure Tl (w : World) (g : Nat) (f : Int) (l : List Vt) (v : Value) : Prop where
  b : Blk w g 58 #[.int .i64 f, v]
  o : Ow w 63 98 v l.length (vcs l)
  ok : ∀ v ∈ l, v.ok
  srt : Srt l
  n : l.length < 1099511627776
theorem Tl.kept {w w' : World} {g : Nat} {f : Int} {l : List Vt} {v : Value} (h : Tl w g f l v) (hk : Kept [] w w') : Tl w' g f l v := ⟨h.b.kept hk (by simp), h.o.kept0 hk, h.ok, h.srt, h.n⟩
theorem Tl.f0 {w : World} {g : Nat} {f : Int} {l : List Vt} {v : Value} (h : Tl w g f l v) : w.cell? ⟨g, 0, none⟩ = some (.int .i64 f) := by rw [h.b.cell]; rfl
theorem Tl.f1 {w : World} {g : Nat} {f : Int} {l : List Vt} {v : Value} (h : Tl w g f l v) : w.cell? ⟨g, 1, none⟩ = some v := by rw [h.b.cell]; rfl
set_option maxRecDepth 100000 in
set_option maxHeartbeats 800000 in
theorem find_any {g : Nat} {f : Int} {l : List Vt} {v : Value} {w : World} (t : Tl w g f l v) (fr vw : Int) :
    Calls Try.prog 19 #[.pointer (some ⟨g, 0, none⟩), .int .i64 fr, .int .i64 vw] w fun e w' => e = .returned (.tuple #[.int .i64 (cnt l (key fr vw) : Nat), .bool (hits l (key fr vw))]) ∧ Kept [] w w' := by
  have cb := Lib.hid (fun u v (h : Rd u 98 v l.length (vcs l)) => bsf_any t.ok t.srt (key_ok fr vw) (by have := t.n; omega) h)
  have kb := Lib.hid (key_built fr vw)
  obtain ⟨A, c, rfl, hnc⟩ := t.o.shape
  have q1 := t.f1
  replace t := Lib.hid t
  have K := Lib.hid (Kept.refl [] w)
  generalize key fr vw = x at *
  generalize cnt l x = cx at *
  generalize hits l x = hx at *
  go_enter Try.func19, Try.ntmps19
  go_wp2_with (first
    | ((with_reducible refine wpl_build2 (o := ⟨some 14, _, _, _, _, _⟩) (v := .int .i64 fr) (u := .int .i64 vw) rfl 0 1 (.tmp 12) (.tmp 13) rfl rfl rfl kb.out ?_))
    | (go_at_call 25; (refine (cb.out _ _ (Rd.of_ow t.out.o)).mono ?_); rintro e v ⟨rfl, kk⟩; replace K := Lib.hid (K.out.then0 kk); clear kk))
  go_ret2
  exact ⟨rfl, K.out⟩
/-- The votes of a view. -/
def ofv (l : List Vt) (vw : Int) : List Vt := l.filter fun v => decide (v.vw = vw)
/-- Replicas are 0 to 3f. -/
def inR (f : Int) (l : List Vt) : Prop := ∀ v ∈ l, 0 ≤ v.fr ∧ v.fr ≤ 3 * f
theorem cnt_lo {f : Int} {l : List Vt} (h : inR f l) (vw : Int) : cnt l (key (-1) vw) = l.countP fun v => decide (v.vw < vw) := by
  refine List.countP_congr fun v hv => ?_
  have := h v hv
  simp only [decide_eq_true_eq, vcmp_lt, key]
  omega
theorem cnt_hi {f : Int} {l : List Vt} (h : inR f l) (vw : Int) : cnt l (key (3 * f + 1) vw) = l.countP fun v => decide (v.vw ≤ vw) := by
  refine List.countP_congr fun v hv => ?_
  have := h v hv
  simp only [decide_eq_true_eq, vcmp_lt, key]
  omega
theorem drop_vw (vw : Int) : ∀ {l : List Vt}, Srt l → l.drop (l.countP fun v => decide (v.vw < vw)) = l.filter fun v => decide (vw ≤ v.vw)
  | [], _ => rfl
  | a :: l, h => by
    obtain ⟨h1, h2⟩ := List.pairwise_cons.1 h
    by_cases ha : a.vw < vw
    · rw [List.countP_cons_of_pos (by simpa using ha), List.drop_succ_cons, List.filter_cons_of_neg (by simpa using ha), drop_vw vw h2]
    · have h0 : ∀ v ∈ a :: l, vw ≤ v.vw := by
        intro v hv
        rcases List.mem_cons.1 hv with rfl | hv
        · omega
        · have := vcmp_lt.1 (h1 v hv); omega
      rw [List.countP_eq_zero.2 fun v hv => by have := h0 v hv; simp; omega, List.drop_zero, List.filter_eq_self.2 fun v hv => by simpa using h0 v hv]
theorem part_vw {l : List Vt} (h : Srt l) (vw : Int) : (l.drop (l.countP fun v => decide (v.vw < vw))).take ((l.countP fun v => decide (v.vw ≤ vw)) - l.countP fun v => decide (v.vw < vw)) = ofv l vw := by
  rw [drop_vw vw h]
  have e : (l.countP fun v => decide (v.vw ≤ vw)) = (l.countP fun v => decide (v.vw < vw)) + (ofv l vw).length := by
    clear h
    unfold ofv
    induction l with
    | nil => rfl
    | cons a l ih =>
      simp only [List.countP_cons, List.filter_cons]
      by_cases h1 : a.vw < vw
      · have h2 : ¬ a.vw = vw := by omega
        have h3 : a.vw ≤ vw := by omega
        simp [h1, h2, h3, ih]; omega
      · by_cases h2 : a.vw = vw
        · have h3 : a.vw ≤ vw := by omega
          simp [h2, ih]; omega
        · have h3 : ¬ a.vw ≤ vw := by omega
          simp [h1, h2, h3, ih]
  rw [e, Nat.add_sub_cancel_left]
  clear e
  have key2 : ∀ {l : List Vt}, Srt l → (∀ v ∈ l, vw ≤ v.vw) → l.take (ofv l vw).length = ofv l vw := by
    intro l
    induction l with
    | nil => intros; rfl
    | cons a l ih =>
      intro hs h0
      obtain ⟨h1, h2⟩ := List.pairwise_cons.1 hs
      by_cases ha : a.vw = vw
      · have e : ofv (a :: l) vw = a :: ofv l vw := List.filter_cons_of_pos (by simpa using ha)
        rw [e, List.length_cons, List.take_succ_cons, ih h2 fun v hv => h0 v (by simp [hv])]
      · have e : ofv (a :: l) vw = [] := by
          unfold ofv
          rw [List.filter_eq_nil_iff]
          intro v hv
          have h3 := h0 a (by simp)
          rcases List.mem_cons.1 hv with rfl | hv
          · simpa using ha
          · have := vcmp_lt.1 (h1 v hv); simp; omega
        rw [e]; rfl
  have e2 : ofv (l.filter fun v => decide (vw ≤ v.vw)) vw = ofv l vw := by
    unfold ofv
    rw [List.filter_filter]
    refine List.filter_congr fun v _ => ?_
    by_cases h1 : v.vw = vw
    · simp [h1]
    · simp [h1]
  have := key2 (l := l.filter fun v => decide (vw ≤ v.vw)) (h.sublist (List.filter_sublist)) (fun v hv => by simpa using (List.mem_filter.1 hv).2)
  rw [e2] at this
  exact this
theorem ofv_ok {l : List Vt} (h : ∀ v ∈ l, v.ok) (vw : Int) : ∀ v ∈ ofv l vw, v.ok := fun v hv => h v (List.mem_filter.1 hv).1
end Go.Proofs.Ythffkgnbgncfaaa
