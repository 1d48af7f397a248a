/-
  What comes in: arrays of bytes.
-/
import Derived.Test.YthmpdhegodmjjaaOpen
import Derived.Test.YthmpdhegodmjjaaArr
import Derived.ChangeBears
namespace Go.Mem
open Go.ChangeShapes Go.WideShapes Go.ChangeAt Go.RowKit

section
variable {H : Type} {enc : TypeId × Value → H} {P : Program} {w : World} {base : Nat} {spare : Nat → Bool} {held : Bool}

theorem okWide_array {t e : TypeId} {n : Nat} {r : Reach} {v : Value} (ht : P.underlying t = some (.array n e)) (h : Value.okWide P w r base t v) : ∃ cs, v = .agg cs ∧ cs.size = P.cellsOf t := by
  simp only [Value.okWide, ht] at h
  obtain ⟨cs, h1, h2, _⟩ := h
  exact ⟨cs, h1, h2⟩

theorem trod_u8 {e : TypeId} (he : P.underlying e = some (.int .u8)) {fuel : Nat} {c : Value} {y : DataW H × List MemPlace} (h : DataW.trod enc P w base spare held fuel e [c] = some y) : ∃ b : UInt8, c = byteV b := by
  cases fuel with
  | zero => simp [DataW.trod] at h
  | succ n =>
    unfold DataW.trod at h
    rw [he] at h
    cases c <;> simp at h
    obtain ⟨⟨rfl, hw⟩, _⟩ := h
    exact ⟨_, (byteV_of (wf_u8 hw)).symm⟩

/-- An array of bytes. -/
theorem open_arr {t e : TypeId} {n : Nat} (ht : P.underlying t = some (.array n e)) (he : P.underlying e = some (.int .u8)) (hc : P.cellsOf e = 1) (hn : P.cellsOf t = n) {v : Value} {d : DataW H} {p : List MemPlace}
    (h : ∃ fuel, DataW.trod enc P w base spare held fuel t v.cells.toList = some (d, p)) (hv : ∃ cs, v = .agg cs ∧ cs.size = P.cellsOf t) :
    ∃ bs : List UInt8, v = ab bs ∧ bs.length = n := by
  obtain ⟨cs, rfl, hs⟩ := hv
  obtain ⟨fuel, hf⟩ := h
  cases fuel with
  | zero => simp [DataW.trod] at hf
  | succ m =>
    have hcs : (Value.agg cs).cells = cs := rfl
    rw [hcs] at hf
    unfold DataW.trod at hf
    rw [ht] at hf
    simp only [Array.length_toList, hs, if_true, hc, Nat.mul_one] at hf
    have hlen : cs.size = n := by rw [hs, hn]
    have each : ∀ i (hi : i < n), ∃ b : UInt8, cs[i]'(by omega) = byteV b := by
      intro i hi
      cases hq : DataW.trod enc P w base spare held m e ((cs.toList.drop i).take 1) with
      | none =>
        have := mapM_none_of (f := fun i => DataW.trod enc P w base spare held m e ((cs.toList.drop i).take 1)) (l := List.range n) (x := i) (by simpa using hi) hq
        rw [this] at hf
        simp at hf
      | some y =>
        have e1 : (cs.toList.drop i).take 1 = [cs[i]'(by omega)] := by
          rw [List.drop_eq_getElem_cons (by simpa using (by omega : i < cs.size))]
          simp
        rw [e1] at hq
        exact trod_u8 he hq
    refine ⟨(List.range n).map fun i => if hi : i < n then (each i hi).choose else 0, ?_, by simp⟩
    show Value.agg cs = Value.agg _
    congr 1
    apply Array.ext
    · simp [hlen]
    · intro i h1 h2
      have hi : i < n := by omega
      simp only [List.map_map, List.getElem_toArray, List.getElem_map, List.getElem_range, Function.comp_apply, dif_pos hi]
      exact (each i hi).choose_spec
end
end Go.Mem
