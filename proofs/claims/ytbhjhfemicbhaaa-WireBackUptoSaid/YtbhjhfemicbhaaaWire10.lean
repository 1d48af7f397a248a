/-
  The wire: pieces joined (WireJoins): what comes in.
-/
import Derived.Test.YtbhjhfemicbhaaaWire9
import Derived.Test.YtbhjhfemicbhaaaOpen
namespace Go.Proofs.Ytbhjhfemicbhaaa
open Go.ChangeShapes Go.WideShapes Go.ChangeAt Go.RowKit Go.Mem

section
variable {H : Type} {enc : TypeId × Value → H} {P : Program} {w : World} {base : Nat} {spare : Nat → Bool} {held : Bool}

theorem wf_u64' {z : Int} (h : (Lit.int .u64 z).wf = true) : 0 ≤ z ∧ z ≤ 18446744073709551615 := by
  simp [Lit.wf, IntKind.min, IntKind.max, IntKind.signed, IntKind.bits] at h
  omega

/-- A slice of numbers. -/
theorem open_nums {t e : TypeId} (ht : P.underlying t = some (.slice e)) (he : P.underlying e = some (.int .u64)) (hc : P.cellsOf e = 1) (_ : P.cellsOf e = 1) {v : Value} {d : DataW H} {p : List MemPlace}
    (h : ∃ fuel, DataW.trod enc P w base spare held fuel t v.cells.toList = some (d, p)) (hv : ∃ A n c, v = .slice A n c) :
    ∃ ls : List Nat, Rd w 1 v ls.length (nv ls) ∧ True ∧ ls.length ≤ 9223372036854775807 ∧ ∀ z ∈ ls, z < 18446744073709551616 := by
  obtain ⟨A, n, c, rfl⟩ := hv
  obtain ⟨fuel, hf⟩ := h
  rcases open_ints ht he hc hf with ⟨hcs, hx⟩ | ⟨x, l, cp, zs, hcs, _, hl, hm, hz, hx, hcell, hwz⟩
  · simp [Value.cells] at hcs
    obtain ⟨rfl, rfl, rfl⟩ := hcs
    exact ⟨[], Rd.nil _ _, trivial, by simp, by simp⟩
  · simp [Value.cells] at hcs
    obtain ⟨rfl, rfl, rfl⟩ := hcs
    have hlz : n ≤ zs.length := by rw [hz]; split <;> omega
    have hlen : ((zs.take n).map Int.toNat).length = n := by simp; omega
    refine ⟨(zs.take n).map Int.toNat, ?_, trivial, ?_, ?_⟩
    · rw [hlen]
      refine ⟨_, _, rfl, by simp [nv]; omega, hl, fun hn => ?_⟩
      have h0 := hcell 0 (by omega)
      obtain ⟨b, o, sp⟩ := x
      have hsp : sp = none := by
        cases sp with
        | none => rfl
        | some k =>
          simp only [Addr.add, if_true] at h0
          unfold World.cell? at h0
          split at h0 <;> simp at h0
      subst hsp
      refine ⟨b, o, rfl, fun j u hu => ?_⟩
      have hj : j < n := by
        rcases Nat.lt_or_ge j n with h | h
        · exact h
        · rw [List.getElem?_eq_none (by simp [nv]; omega)] at hu; cases hu
      have hjz : j < zs.length := by omega
      have hc2 := hcell j hjz
      rw [add_none] at hc2
      rw [hc2]
      have hw := wf_u64' (hwz zs[j] (List.getElem_mem _))
      simp only [nv, List.getElem?_map, List.getElem?_take, hj, if_true, List.getElem?_eq_getElem hjz, Option.map_some, Option.some.injEq] at hu
      rw [← hu]
      simp [hjz]
      omega
    · rw [hlen]
      have : c ≤ 9223372036854775807 := by simpa [maxLen] using hm
      omega
    · intro z hz
      obtain ⟨y, hy, rfl⟩ := List.mem_map.1 hz
      have := wf_u64' (hwz y (List.mem_of_mem_take hy))
      omega
end

theorem joins_law (v : Value) (l : List Nat) (x : Int) (w : World) (hr : Rd w 1 v l.length (nv l)) (hl : l.length ≤ 9223372036854775807) (hw : ∀ z ∈ l, z < 18446744073709551616) (_ : (Lit.int .i64 x).wf = true) :
    Calls Try.prog 6 #[v, .int .i64 x] w fun e w' => e = .returned (.bool true) ∧ Kept [] w w' := joins_walk v l x w hr hl hw

end Go.Proofs.Ytbhjhfemicbhaaa
