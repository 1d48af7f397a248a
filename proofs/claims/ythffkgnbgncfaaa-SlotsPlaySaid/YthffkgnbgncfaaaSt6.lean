/-
  Slots: the votes of a view, as a slice.
-/
import Derived.Test.YthffkgnbgncfaaaSt5
namespace Go.Proofs.Ythffkgnbgncfaaa
open Go.RowKit Go.Mem Go.Txt

theorem cnt_le (l : List Vt) (x : Vt) : cnt l x ≤ l.length := List.countP_le_length
/-- What 'of' hands back. -/
abbrev OfC (w : World) (tv : Value) (vw : Int) (B : Option Addr) (n d : Nat) : Prop := Calls Try.prog 21 #[tv, .int .i64 vw] w fun e w' => e = .returned (.slice B n d) ∧ Kept [] w w'
set_option maxRecDepth 100000 in
set_option maxHeartbeats 800000 in
theorem of_nil (vw : Int) (w : World) : OfC w (.pointer none) vw none 0 0 := by
  have K := Lib.hid (Kept.refl [] w)
  unfold OfC
  go_enter Try.func21, Try.ntmps21
  go_wp2_with fail
  go_ret
  exact ⟨rfl, K.out⟩
set_option maxRecDepth 100000 in
set_option maxHeartbeats 800000 in
theorem of_any {g : Nat} {f : Int} {l : List Vt} {v : Value} {w : World} (t : Tl w g f l v) (hf : 0 ≤ f ∧ f ≤ 1000000) (hi : inR f l) (vw : Int) :
    ∃ B d, Rd w 98 (.slice B (ofv l vw).length d) (ofv l vw).length (vcs (ofv l vw)) ∧ (0 < (ofv l vw).length → (Value.slice B (ofv l vw).length d).ownBlock = v.ownBlock) ∧ OfC w (.pointer (some ⟨g, 0, none⟩)) vw B (ofv l vw).length d := by
  have e1 := cnt_lo hi vw
  have e2 := cnt_hi hi vw
  have e3 := part_vw t.srt vw
  have n1 := cnt_le l (key (3 * f + 1) vw)
  rw [← e1, ← e2] at e3
  have n0 : cnt l (key (-1) vw) ≤ cnt l (key (3 * f + 1) vw) := by
    rw [e1, e2]
    exact List.countP_mono_left fun v _ h => by simp only [decide_eq_true_eq] at h ⊢; omega
  clear e1 e2
  have el : (ofv l vw).length = cnt l (key (3 * f + 1) vw) - cnt l (key (-1) vw) := by rw [← e3]; simp; omega
  obtain ⟨B, d, h1, h2, h4, h3⟩ := cut_part votesT (Rd.of_ow t.o) .i64 .i64 _ _ n0 n1
  refine ⟨B, d, ?_, by rw [el]; exact h4, ?_⟩
  · rw [el, ← e3]
    have e4 := vcs_drop t.ok (cnt l (key (-1) vw)) (by omega)
    rw [e4, vcs_take (fun v hv => t.ok v (List.mem_of_mem_drop hv)) _ (by simp; omega)] at h2
    exact h2
  have c1 := Lib.hid (fun u (t : Tl u g f l v) => find_any t (-1) vw)
  have c2 := Lib.hid (fun u (t : Tl u g f l v) => find_any t (3 * f + 1) vw)
  rw [el]
  clear e3 h2 h3 h4 el hi
  generalize cnt l (key (-1) vw) = k1 at *
  generalize cnt l (key (3 * f + 1) vw) = k2 at *
  generalize hits l (key (-1) vw) = z1 at *
  generalize hits l (key (3 * f + 1) vw) = z2 at *
  obtain ⟨A, c, rfl, hnc⟩ := t.o.shape
  have q1 := t.f1
  have q2 := t.f0
  obtain ⟨hf1, hf2⟩ := hf
  replace t := Lib.hid t
  have K := Lib.hid (Kept.refl [] w)
  unfold OfC
  go_enter Try.func21, Try.ntmps21
  go_wp2_with (first
    | (go_at_call 19; (with_reducible refine (c1.out _ t.out).mono ?_); rintro e v ⟨rfl, kk⟩; replace K := Lib.hid (K.out.then0 kk); replace t := Lib.hid (t.out.kept kk); clear kk q1 q2; have q1 := t.out.f1; have q2 := t.out.f0)
    | (go_at_call 19; (with_reducible refine (c2.out _ t.out).mono ?_); rintro e v ⟨rfl, kk⟩; replace K := Lib.hid (K.out.then0 kk); replace t := Lib.hid (t.out.kept kk); clear kk q1 q2; have q1 := t.out.f1; have q2 := t.out.f0))
  go_ret
  exact ⟨rfl, K.out⟩
end Go.Proofs.Ythffkgnbgncfaaa
