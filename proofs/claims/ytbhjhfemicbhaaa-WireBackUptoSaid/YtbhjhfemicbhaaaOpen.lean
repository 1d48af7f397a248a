/-
  What comes in, as words of 'Mem': slices of bytes.
-/
import Derived.Test.YtbhjhfemicbhaaaMem
import Derived.WalkKit
import Derived.ProofKit
import Derived.OpenShut
import Derived.ShutString
import Derived.ChangeOld
namespace Go.Mem
open Go.ChangeShapes Go.WideShapes Go.ChangeAt Go.RowKit

section
variable {H : Type} {enc : TypeId × Value → H} {P : Program} {w : World} {base : Nat} {spare : Nat → Bool} {held : Bool}

theorem wf_u8 {z : Int} (h : (Lit.int .u8 z).wf = true) : 0 ≤ z ∧ z ≤ 255 := by
  simp [Lit.wf, IntKind.min, IntKind.max, IntKind.signed, IntKind.bits] at h
  omega

theorem byteV_of {z : Int} (h : 0 ≤ z ∧ z ≤ 255) : byteV (UInt8.ofNat z.toNat) = .int .u8 z := by
  unfold byteV
  have : (UInt8.ofNat z.toNat).toNat = z.toNat := by
    rw [UInt8.toNat_ofNat']; omega
  rw [this]
  congr 1
  omega

/-- A slice of bytes. -/
theorem open_bytes {t e : TypeId} (ht : P.underlying t = some (.slice e)) (he : P.underlying e = some (.int .u8)) (hc : P.cellsOf e = 1) {v : Value} {d : DataW H} {p : List MemPlace}
    (h : ∃ fuel, DataW.trod enc P w base spare held fuel t v.cells.toList = some (d, p)) (hv : ∃ A n c, v = .slice A n c) :
    ∃ bs : List UInt8, Rd w 1 v bs.length (bv bs) ∧ (bs = [] ∧ d = .nil ∨ ∃ el sp, d = .slice el sp ∧ el.length = bs.length) ∧ bs.length ≤ 9223372036854775807 := by
  obtain ⟨A, n, c, rfl⟩ := hv
  obtain ⟨fuel, hf⟩ := h
  rcases open_ints ht he hc hf with ⟨hcs, hx⟩ | ⟨x, l, cp, zs, hcs, _, hl, hm, hz, hx, hcell, hwz⟩
  · simp [Value.cells] at hcs
    obtain ⟨rfl, rfl, rfl⟩ := hcs
    exact ⟨[], Rd.nil _ _, .inl ⟨rfl, by injection hx⟩, by simp⟩
  · simp [Value.cells] at hcs
    obtain ⟨rfl, rfl, rfl⟩ := hcs
    have hlz : n ≤ zs.length := by rw [hz]; split <;> omega
    refine ⟨(zs.take n).map (fun z => UInt8.ofNat z.toNat), ?_, .inr ⟨_, _, by injection hx, by simp [lits]⟩, ?_⟩
    · have hlen : ((zs.take n).map (fun z => UInt8.ofNat z.toNat)).length = n := by simp; omega
      rw [hlen]
      refine ⟨_, _, rfl, by simp; omega, hl, fun hn => ?_⟩
      have h0 := hcell 0 (by omega)
      obtain ⟨b, o, sp⟩ := x
      have hsp : sp = none := by
        cases sp with
        | none => rfl
        | some k =>
          simp only [Addr.add, if_true] at h0
          unfold World.cell? at h0
          split at h0 <;> simp at h0
      subst hsp
      refine ⟨b, o, rfl, fun j u hu => ?_⟩
      have hj : j < n := by
        rcases Nat.lt_or_ge j n with h | h
        · exact h
        · rw [List.getElem?_eq_none (by simp; omega)] at hu; cases hu
      have hjz : j < zs.length := by omega
      have hc2 := hcell j hjz
      rw [add_none] at hc2
      rw [hc2]
      have hw := wf_u8 (hwz zs[j] (List.getElem_mem _))
      simp only [List.getElem?_map, List.getElem?_take, hj, if_true, List.getElem?_eq_getElem hjz, Option.map_some, Option.some.injEq] at hu
      rw [← hu, byteV_of hw]
      simp [hjz]
    · simp only [List.length_map, List.length_take]
      have : c ≤ 9223372036854775807 := by simpa [maxLen] using hm
      omega

end
end Go.Mem
