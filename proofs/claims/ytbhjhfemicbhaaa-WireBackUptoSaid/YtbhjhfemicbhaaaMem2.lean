/-
  More words for memory: make.
-/
import Derived.Test.YtbhjhfemicbhaaaMem
namespace Go.Mem
open Go.RowKit

section
variable {P : Program}

/-- make([]T, k), T of one cell. -/
theorem run_mk {t e : TypeId} {bytes : Nat} {z : Value} (T : SliceT P t e 1 bytes z) (k : Nat) (hk : bytes * k ≤ 281474976710656) (h63 : k ≤ 9223372036854775807) (w : World) :
    (Instr.makeSlice t (.int .i64 k) (.int .i64 k)).run P w = .ok (.slice (some ⟨w.heap.size, 0, none⟩) k k) (w.alloc (.cells (madeCells z.cells k) e)) := by
  obtain ⟨i, hi, hz, hsz, hby⟩ := T.get
  have hb : (bytes : Int) * (k : Int) ≤ 281474976710656 := by rw [← Int.natCast_mul]; omega
  have h := run_make (P := P) w t e i z T.under hi hz .i64 .i64 (k : Int) (k : Int) (by omega) (Int.le_refl _) (by rw [hby]; exact hb) (by omega)
  simpa [hsz] using h

theorem made_list (v : Value) (k : Nat) : (madeCells #[v] k).toList = List.replicate k v := by
  apply List.ext_getElem
  · simp [madeCells]
  · intro i h1 h2
    have : i % 1 = 0 := by omega
    simp [madeCells, this]

theorem made_zero (k : Nat) : (madeCells #[.int .u8 0] k).toList = bv (List.replicate k 0) := by
  rw [made_list]; simp [bv, byteV]

end
end Go.Mem
