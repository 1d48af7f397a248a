/-
  Lists of bytes as they come in (the wire's text, for programs with fewer functions).
-/
import Derived.Test.YtjdfnhfankcodaaWb0
import Derived.Test.YtjdfnhfankcodaaText
namespace Go.Proofs.Ytjdfnhfankcodaa
open Go.ChangeShapes Go.WideShapes Go.ChangeAt Go.RowKit Go.Mem

section
variable {H : Type} {enc : TypeId × Value → H} {P : Program} {w : World} {base : Nat} {spare : Nat → Bool} {held : Bool}

/-- What is read of the bytes. -/
def BytesD (bs : List UInt8) (d : DataW H) : Prop := bs = [] ∧ d = .nil ∨ ∃ el sp, d = .slice el sp ∧ el.length = bs.length
def PartsD : List (Value × List UInt8) → List (DataW H) → Prop
  | [], el => el = []
  | x :: l, el => ∃ d r, el = d :: r ∧ BytesD x.2 d ∧ PartsD l r
def PartsW (ps : List (Value × List UInt8)) (d : DataW H) : Prop := ps = [] ∧ d = .nil ∨ ∃ el sp, d = .slice el sp ∧ PartsD ps el

theorem partsD_of : ∀ (n : Nat) (f : Nat → Value × List UInt8) (el : List (DataW H)), el.length = n → (∀ i d, el[i]? = some d → BytesD (f i).2 d) → PartsD ((List.range n).map f) el := by
  intro n
  induction n with
  | zero => intro f el hl _; simpa [PartsD] using hl
  | succ n ih =>
    intro f el hl h
    match el, hl with
    | d :: r, hl =>
      rw [List.range_succ_eq_map, List.map_cons, List.map_map]
      refine ⟨d, r, rfl, h 0 d rfl, ih (f ∘ Nat.succ) r (by simpa using hl) fun i e he => h (i + 1) e (by simpa using he)⟩

/-- A slice of slices of bytes. -/
theorem open_parts {t e te : TypeId} (ht : P.underlying t = some (.slice e)) (he : P.underlying e = some (.slice te)) (hc : P.cellsOf e = 1) (h3 : P.underlying te = some (.int .u8)) (c3 : P.cellsOf te = 1)
    {v : Value} {d : DataW H} {p : List MemPlace} (h : ∃ fuel, DataW.trod enc P w base spare held fuel t v.cells.toList = some (d, p)) (hv : ∃ A n c, v = .slice A n c) :
    ∃ ps, Parts w v ps ∧ PartsW ps d ∧ ps.length ≤ 9223372036854775807 ∧ True := by
  obtain ⟨A, n, c, rfl⟩ := hv
  obtain ⟨fuel, hf⟩ := h
  rcases DataW.trod_slice ht hf with ⟨hcs, hx⟩ | ⟨a, len, cap, elems, rest, m, _, hcs, hx, _, hl, hm, hlen, hel, _, _⟩
  · simp [Value.cells] at hcs
    obtain ⟨rfl, rfl, rfl⟩ := hcs
    exact ⟨[], ⟨Rd.nil _ _, by simp⟩, .inl ⟨rfl, by injection hx⟩, by simp, trivial⟩
  · simp [Value.cells] at hcs
    obtain ⟨rfl, rfl, rfl⟩ := hcs
    have each : ∀ i, ∃ o : Value × List UInt8, i < n → w.cell? (a.add i) = some o.1 ∧ Rd w 1 o.1 o.2.length (bv o.2) ∧ ∃ x, elems[i]? = some x ∧ BytesD o.2 x.1 := by
      intro i
      by_cases hi : i < n
      · have hb := hel i hi
        have hil : i < elems.length := by omega
        rw [hc, Nat.mul_one, List.getElem?_eq_getElem hil, Option.bind_eq_some_iff] at hb
        obtain ⟨cs, hcs, hy⟩ := hb
        obtain ⟨_, hcl, hcc⟩ := World.cells?_some hcs
        match cs, hcl with
        | [u], _ =>
        have hu2 : ∃ A n c, u = .slice A n c := by
          rcases DataW.trod_slice he hy with ⟨h, _⟩ | ⟨a, len, cap, _, _, _, _, h, _⟩
          · exact ⟨none, 0, 0, by simpa using h⟩
          · exact ⟨some a, len, cap, by simpa using h⟩
        have g2' : ∃ fuel, DataW.trod enc P w base spare held fuel e u.cells.toList = some (elems[i].1, elems[i].2) := by
          obtain ⟨A, n, c, rfl⟩ := hu2
          exact ⟨_, hy⟩
        obtain ⟨bs, hrd, hbd, _⟩ := open_bytes he h3 c3 g2' hu2
        have k0 := hcc 0 (by omega)
        simp at k0
        exact ⟨(u, bs), fun _ => ⟨k0, hrd, _, List.getElem?_eq_getElem hil, hbd⟩⟩
      · exact ⟨(.slice none 0 0, []), fun h => absurd h hi⟩
    obtain ⟨f, hf2⟩ := Classical.axiomOfChoice each
    have hlen2 : ((List.range n).map f).length = n := by simp
    refine ⟨(List.range n).map f, ⟨⟨_, _, by rw [hlen2], by simp, by rw [hlen2]; exact hl, fun hn => ?_⟩, ?_⟩, .inr ⟨_, _, by injection hx, partsD_of n f _ (by simp [hlen]) ?_⟩, ?_, trivial⟩
    · rw [hlen2] at hn
      have k0 := (hf2 0 hn).1
      obtain ⟨b, o, sp⟩ := a
      have hsp : sp = none := by
        cases sp with
        | none => rfl
        | some k =>
          simp only [Addr.add, if_true] at k0
          unfold World.cell? at k0
          split at k0 <;> simp at k0
      subst hsp
      refine ⟨b, o, rfl, fun j u hu => ?_⟩
      have hj : j < n := by
        rcases Nat.lt_or_ge j n with h | h
        · exact h
        · rw [List.getElem?_eq_none (by simp; omega)] at hu; cases hu
      have k1 := (hf2 j hj).1
      rw [add_none] at k1
      rw [k1]
      simpa [hj] using hu
    · intro o ho
      obtain ⟨i, hi, rfl⟩ := List.mem_map.1 ho
      exact (hf2 i (by simpa using hi)).2.1
    · intro i d hd
      have hi : i < n := by
        rcases Nat.lt_or_ge i n with h | h
        · exact h
        · rw [List.getElem?_eq_none (by simp; omega)] at hd; cases hd
      obtain ⟨x, hx, hb⟩ := (hf2 i hi).2.2
      rw [List.getElem?_map, hx] at hd
      cases hd
      exact hb
    · rw [hlen2]
      have : c ≤ 9223372036854775807 := by simpa [maxLen] using hm
      omega
end
end Go.Proofs.Ytjdfnhfankcodaa
