/-
  Slots: numbers compared.
-/
import Derived.Test.YthffkgnbgncfaaaText5
import Derived.Laws.Externs
import Derived.Laws.Shifts
import Derived.WalkKit
import Derived.WalkSpells
import Derived.WalkLawsBesides
import Derived.Deep.LoopGhost
import Derived.Deep.DeepCutAuto
import Derived.Deep.CutBlock
import Derived.BigQuiet
import Derived.Deep.QuietTactic
namespace Go.Proofs.Ythffkgnbgncfaaa
open Go.RowKit Go.Mem Go.Txt

/-- Less, like, more: -1, 0, 1. -/
def cmpi (a b : Int) : Int := if a < b then -1 else if b < a then 1 else 0
theorem isnan_any (a : Int) (w : World) : Calls Try.prog 32 #[.int .i64 a] w fun e w' => e = .returned (.bool false) ∧ Kept [] w w' := by
  go_enter Try.func32, Try.ntmps32
  go_wp2_with fail
  go_ret
  exact ⟨by simp, Kept.refl _ _⟩
set_option maxHeartbeats 800000 in
theorem compare_any (a b : Int) (w : World) : Calls Try.prog 28 #[.int .i64 a, .int .i64 b] w fun e w' => e = .returned (.int .i64 (cmpi a b)) ∧ Kept [] w w' := by
  have c1 := Lib.hid isnan_any
  rcases Int.lt_trichotomy a b with h | h | h
  · rw [show cmpi a b = -1 from if_pos h]
    go_enter Try.func28, Try.ntmps28
    have K := Lib.hid (Kept.refl [] w)
    go_wp2_with (go_at_call 32; (with_reducible refine (c1.out _ _).mono ?_); rintro e v ⟨rfl, kk⟩; replace K := Lib.hid (K.out.then0 kk); clear kk)
    go_ret
    exact ⟨rfl, K.out⟩
  · subst h
    rw [show cmpi a a = 0 from by unfold cmpi; simp]
    go_enter Try.func28, Try.ntmps28
    have K := Lib.hid (Kept.refl [] w)
    go_wp2_with (go_at_call 32; (with_reducible refine (c1.out _ _).mono ?_); rintro e v ⟨rfl, kk⟩; replace K := Lib.hid (K.out.then0 kk); clear kk)
    go_ret
    exact ⟨rfl, K.out⟩
  · have h2 : ¬ a < b := by omega
    rw [show cmpi a b = 1 from by unfold cmpi; rw [if_neg h2, if_pos h]]
    go_enter Try.func28, Try.ntmps28
    have K := Lib.hid (Kept.refl [] w)
    go_wp2_with (go_at_call 32; (with_reducible refine (c1.out _ _).mono ?_); rintro e v ⟨rfl, kk⟩; replace K := Lib.hid (K.out.then0 kk); clear kk)
    go_ret
    exact ⟨rfl, K.out⟩
/-- The first of two that isn't 0. -/
def or2 (a b : Int) : Int := if a = 0 then b else a
set_option maxHeartbeats 800000 in
theorem or_any (g : Nat) (bt : TypeId) (a b : Int) (w : World) (h : Blk w g bt (iv [a, b]).toArray) : Calls Try.prog 27 #[.slice (some ⟨g, 0, none⟩) 2 2] w fun e w' => e = .returned (.int .i64 (or2 a b)) ∧ Kept [] w w' := by
  have q0 : w.cell? ⟨g, 0, none⟩ = some (.int .i64 a) := by rw [h.cell]; rfl
  have q1 : w.cell? ⟨g, 1, none⟩ = some (.int .i64 b) := by rw [h.cell]; rfl
  replace h := Lib.hid h
  go_enter Try.func27, Try.ntmps27
  go_wp2_with fail
  go_loopg [8] 2 (fun f i wk => ∃ k : Nat, k ≤ 2 ∧ f + k = 2 ∧ i = .int .i64 (k : Int) ∧ wk = w ∧ (1 ≤ k → a = 0) ∧ (2 ≤ k → b = 0))
  case atStart => exact ⟨0, by omega, rfl, rfl, rfl, by omega, by omega⟩
  case round =>
    obtain ⟨k, hk, hf, rfl, rfl, h1, h2⟩ := hrel
    have hk3 : k = 0 ∨ k = 1 ∨ k = 2 := by omega
    rcases hk3 with rfl | rfl | rfl
    · clear h1 h2
      by_cases ha : a = 0
      · subst ha
        go_wp2_with fail
        go_roundg 1
        case measure => omega
        case rel => exact ⟨1, by omega, rfl, by go_num, rfl, by simp, by omega⟩
      · have e := Lib.hid (show or2 a b = a from if_neg ha)
        go_wp2_with fail
        go_ret
        exact ⟨by rw [e.out]; rfl, Kept.refl _ _⟩
    · have ha := h1 (by omega)
      subst ha
      clear h1 h2
      have e := Lib.hid (show or2 0 b = b from if_pos rfl)
      by_cases hb : b = 0
      · subst hb
        go_wp2_with fail
        go_roundg 0
        case measure => omega
        case rel => exact ⟨2, by omega, rfl, by go_num, rfl, by simp, by simp⟩
      · go_wp2_with fail
        go_ret
        exact ⟨by rw [e.out]; rfl, Kept.refl _ _⟩
    · have ha := h1 (by omega)
      have hb := h2 (by omega)
      subst ha hb
      clear h1 h2
      have e := Lib.hid (show or2 0 0 = 0 from if_pos rfl)
      go_wp2_with fail
      go_ret
      exact ⟨by rw [e.out]; rfl, Kept.refl _ _⟩
end Go.Proofs.Ythffkgnbgncfaaa
