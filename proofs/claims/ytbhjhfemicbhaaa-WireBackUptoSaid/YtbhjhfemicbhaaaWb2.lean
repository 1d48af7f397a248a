/-
  The wire: items, as they come in.
-/
import Derived.Test.YtbhjhfemicbhaaaWb1
import Derived.Test.YtbhjhfemicbhaaaWire7
import Derived.Test.YtbhjhfemicbhaaaBulk
import Derived.Test.YtbhjhfemicbhaaaOpen
namespace Go.Proofs.Ytbhjhfemicbhaaa
open Go.ChangeShapes Go.WideShapes Go.ChangeAt Go.RowKit Go.Mem

/-- The items, as they lie in memory: kind, number, bytes. -/
def itCells (o : Int × Nat × Value × List UInt8) : List Value := [.int .i64 o.1, .int .u64 (o.2.1 : Int), o.2.2.1]
structure Items (w : World) (sv : Value) (ops : List (Int × Nat × Value × List UInt8)) : Prop where
  outer : Rd w 3 sv ops.length (ops.flatMap itCells)
  inner : ∀ o ∈ ops, Rd w 1 o.2.2.1 o.2.2.2.length (bv o.2.2.2)
theorem Items.kept0 {w w' : World} {sv : Value} {ops : List (Int × Nat × Value × List UInt8)} (h : Items w sv ops) (hk : Kept [] w w') : Items w' sv ops :=
  ⟨h.outer.kept0 hk, fun o ho => (h.inner o ho).kept0 hk⟩
theorem itCells_at : ∀ (ops : List (Int × Nat × Value × List UInt8)) (k : Nat) (h : k < ops.length), (ops.flatMap itCells)[k * 3]? = some (.int .i64 ops[k].1) ∧ (ops.flatMap itCells)[k * 3 + 1]? = some (.int .u64 (ops[k].2.1 : Int)) ∧ (ops.flatMap itCells)[k * 3 + 2]? = some ops[k].2.2.1
  | [], _, h => by simp at h
  | x :: l, 0, _ => by simp [itCells]
  | x :: l, k + 1, h => by
    have := itCells_at l k (by simpa using h)
    have e : (x :: l).flatMap itCells = .int .i64 x.1 :: .int .u64 (x.2.1 : Int) :: x.2.2.1 :: l.flatMap itCells := by simp [itCells]
    rw [e, show (k + 1) * 3 = k * 3 + 1 + 1 + 1 from by omega, show k * 3 + 1 + 1 + 1 + 1 = (k * 3 + 1) + 1 + 1 + 1 from by omega, show k * 3 + 1 + 1 + 1 + 2 = (k * 3 + 2) + 1 + 1 + 1 from by omega]
    simp only [List.getElem?_cons_succ]
    simpa using this
theorem Items.at_ {w : World} {sv : Value} {ops : List (Int × Nat × Value × List UInt8)} (h : Items w sv ops) {k : Nat} (hk : k < ops.length) :
    ∃ b o c, sv = .slice (some ⟨b, o, none⟩) ops.length c ∧ w.cell? ⟨b, o + k * 3, none⟩ = some (.int .i64 ops[k].1) ∧ w.cell? ⟨b, o + k * 3 + 1, none⟩ = some (.int .u64 (ops[k].2.1 : Int)) ∧ w.cell? ⟨b, o + k * 3 + 2, none⟩ = some ops[k].2.2.1 := by
  obtain ⟨b, o, c, hv, _, hcell⟩ := h.outer.at_ (by omega)
  have := itCells_at ops k hk
  exact ⟨b, o, c, hv, hcell _ _ this.1, by rw [Nat.add_assoc]; exact hcell _ _ this.2.1, by rw [Nat.add_assoc]; exact hcell _ _ this.2.2⟩


theorem flat_at : ∀ (ops : List (Int × Nat × Value × List UInt8)) (j : Nat) (u : Value), (ops.flatMap itCells)[j]? = some u →
    ∃ (q : Nat) (h : q < ops.length), (j = q * 3 ∧ u = .int .i64 ops[q].1) ∨ (j = q * 3 + 1 ∧ u = .int .u64 (ops[q].2.1 : Int)) ∨ (j = q * 3 + 2 ∧ u = ops[q].2.2.1)
  | [], _, _, h => by simp at h
  | x :: l, 0, u, h => ⟨0, by simp, .inl ⟨rfl, by simp [itCells] at h; exact h.symm⟩⟩
  | x :: l, 1, u, h => ⟨0, by simp, .inr (.inl ⟨rfl, by simp [itCells] at h; exact h.symm⟩)⟩
  | x :: l, 2, u, h => ⟨0, by simp, .inr (.inr ⟨rfl, by simp [itCells] at h; exact h.symm⟩)⟩
  | x :: l, j + 3, u, h => by
    have e : (x :: l).flatMap itCells = .int .i64 x.1 :: .int .u64 (x.2.1 : Int) :: x.2.2.1 :: l.flatMap itCells := by simp [itCells]
    rw [e, show j + 3 = j + 1 + 1 + 1 from rfl] at h
    simp only [List.getElem?_cons_succ] at h
    obtain ⟨q, hq, hh⟩ := flat_at l j u h
    refine ⟨q + 1, by simp; omega, ?_⟩
    rcases hh with ⟨rfl, hu⟩ | ⟨rfl, hu⟩ | ⟨rfl, hu⟩
    · exact .inl ⟨by omega, by simpa using hu⟩
    · exact .inr (.inl ⟨by omega, by simpa using hu⟩)
    · exact .inr (.inr ⟨by omega, by simpa using hu⟩)
theorem flat_len (ops : List (Int × Nat × Value × List UInt8)) : (ops.flatMap itCells).length = ops.length * 3 := by
  induction ops with
  | nil => rfl
  | cons x l ih => simp [itCells] at ih ⊢; omega

section
variable {H : Type} {enc : TypeId × Value → H} {P : Program} {w : World} {base : Nat} {spare : Nat → Bool} {held : Bool}

/-- What is read of the items. -/
def OpD (o : Int × Nat × Value × List UInt8) (d : DataW H) : Prop := ∃ y0 y1 d2, d = .agg [y0, y1, d2] ∧ BytesD o.2.2.2 d2
def OpsD (ops : List (Int × Nat × Value × List UInt8)) (d : DataW H) : Prop := ops = [] ∧ d = .nil ∨ ∃ el sp, d = .slice el sp ∧ el.length = ops.length ∧ ∀ o ∈ ops, ∃ x ∈ el, OpD o x

/-- A slice of items. -/
theorem open_items {t e te : TypeId} {F0 F1 F2 : Field} (ht : P.underlying t = some (.slice e)) (he : P.underlying e = some (.struct #[F0, F1, F2])) (hc : P.cellsOf e = 3) (q0 : F0.offset = 0) (q1 : F1.offset = 1) (q2 : F2.offset = 2)
    (h0 : P.underlying F0.type = some (.int .i64)) (h1 : P.underlying F1.type = some (.int .u64)) (h2 : P.underlying F2.type = some (.slice te)) (h3 : P.underlying te = some (.int .u8))
    (c0 : P.cellsOf F0.type = 1) (c1 : P.cellsOf F1.type = 1) (c2 : P.cellsOf F2.type = 1) (c3 : P.cellsOf te = 1) {v : Value} {d : DataW H} {p : List MemPlace}
    (h : ∃ fuel, DataW.trod enc P w base spare held fuel t v.cells.toList = some (d, p)) (hv : ∃ A n c, v = .slice A n c) :
    ∃ ops, Items w v ops ∧ OpsD ops d ∧ ops.length ≤ 9223372036854775807 ∧ ∀ o ∈ ops, o.2.1 < 18446744073709551616 := by
  obtain ⟨A, n, c, rfl⟩ := hv
  obtain ⟨fuel, hf⟩ := h
  rcases DataW.trod_slice ht hf with ⟨hcs, hx⟩ | ⟨a, len, cap, elems, rest, m, _, hcs, hx, _, hl, hm, hlen, hel, _, _⟩
  · simp [Value.cells] at hcs
    obtain ⟨rfl, rfl, rfl⟩ := hcs
    exact ⟨[], ⟨Rd.nil _ _, by simp⟩, .inl ⟨rfl, by injection hx⟩, by simp, by simp⟩
  · simp [Value.cells] at hcs
    obtain ⟨rfl, rfl, rfl⟩ := hcs
    have each : ∀ i, ∃ o : Int × Nat × Value × List UInt8, i < n → w.cell? ((a.add (i * 3)).add 0) = some (.int .i64 o.1) ∧ w.cell? ((a.add (i * 3)).add 1) = some (.int .u64 (o.2.1 : Int)) ∧ w.cell? ((a.add (i * 3)).add 2) = some o.2.2.1 ∧
        Rd w 1 o.2.2.1 o.2.2.2.length (bv o.2.2.2) ∧ o.2.1 < 18446744073709551616 ∧ ∃ x, elems[i]? = some x ∧ OpD o x.1 := by
      intro i
      by_cases hi : i < n
      · have hb := hel i hi
        have hil : i < elems.length := by omega
        rw [hc, List.getElem?_eq_getElem hil, Option.bind_eq_some_iff] at hb
        obtain ⟨cs, hcs, hy⟩ := hb
        obtain ⟨_, hcl, hcc⟩ := World.cells?_some hcs
        obtain ⟨xs, m2, _, hxx, _, hxl, hff⟩ := DataW.trod_struct he hy
        match xs, hxl with
        | [y0, y1, y2], _ =>
        match cs, hcl with
        | [u0, u1, u2], _ =>
        have g0 := hff 0 F0 rfl
        have g1 := hff 1 F1 rfl
        have g2 := hff 2 F2 rfl
        rw [c0, q0] at g0
        rw [c1, q1] at g1
        rw [c2, q2] at g2
        simp at g0 g1 g2
        obtain ⟨z0, e0, _, w0⟩ := DataW.trod_int h0 g0
        obtain ⟨z1, e1, _, w1⟩ := DataW.trod_int h1 g1
        have hu2 : ∃ A n c, u2 = .slice A n c := by
          rcases DataW.trod_slice h2 g2 with ⟨h, _⟩ | ⟨a, len, cap, _, _, _, _, h, _⟩
          · exact ⟨none, 0, 0, by simpa using h⟩
          · exact ⟨some a, len, cap, by simpa using h⟩
        have g2' : ∃ fuel, DataW.trod enc P w base spare held fuel F2.type u2.cells.toList = some (y2.1, y2.2) := by
          obtain ⟨A, n, c, rfl⟩ := hu2
          exact ⟨_, g2⟩
        obtain ⟨bs, hrd, hbd, _⟩ := open_bytes h2 h3 c3 g2' hu2
        have k0 := hcc 0 (by omega)
        have k1 := hcc 1 (by omega)
        have k2 := hcc 2 (by omega)
        simp at k0 k1 k2 e0 e1
        subst e0 e1
        have hw1 := wf_u64' w1
        obtain ⟨m1, rfl⟩ : ∃ m : Nat, z1 = m := ⟨z1.toNat, by omega⟩
        exact ⟨(z0, m1, u2, bs), fun _ => ⟨k0, k1, k2, hrd, (show m1 < 18446744073709551616 by omega), _, List.getElem?_eq_getElem hil, y0.1, y1.1, y2.1, by rw [hxx]; rfl, hbd⟩⟩
      · exact ⟨(0, 0, .slice none 0 0, []), fun h => absurd h hi⟩
    obtain ⟨f, hf2⟩ := Classical.axiomOfChoice each
    have hlen2 : ((List.range n).map f).length = n := by simp
    refine ⟨(List.range n).map f, ⟨⟨_, _, by rw [hlen2], by rw [flat_len], by rw [hlen2]; exact hl, fun hn => ?_⟩, ?_⟩, .inr ⟨_, _, by injection hx, by simp [hlen], ?_⟩, ?_, ?_⟩
    · rw [hlen2] at hn
      have k0 := (hf2 0 hn).1
      obtain ⟨b, o, sp⟩ := a
      have hsp : sp = none := by
        cases sp with
        | none => rfl
        | some k =>
          simp only [Addr.add, Nat.zero_mul, if_true] at k0
          unfold World.cell? at k0
          split at k0 <;> simp at k0
      subst hsp
      refine ⟨b, o, rfl, fun j u hu => ?_⟩
      obtain ⟨q, hq, hh⟩ := flat_at _ _ _ hu
      rw [hlen2] at hq
      obtain ⟨k0, k1, k2, _⟩ := hf2 q hq
      rw [add_none, add_none] at k0 k1 k2
      rcases hh with ⟨rfl, rfl⟩ | ⟨rfl, rfl⟩ | ⟨rfl, rfl⟩
      · simpa using k0
      · simpa [Nat.add_assoc] using k1
      · simpa [Nat.add_assoc] using k2
    · intro o ho
      obtain ⟨i, hi, rfl⟩ := List.mem_map.1 ho
      exact (hf2 i (by simpa using hi)).2.2.2.1
    · intro o ho
      obtain ⟨i, hi, rfl⟩ := List.mem_map.1 ho
      obtain ⟨x, hx, hd⟩ := (hf2 i (by simpa using hi)).2.2.2.2.2
      exact ⟨x.1, List.mem_map.2 ⟨x, List.mem_of_getElem? hx, rfl⟩, hd⟩
    · rw [hlen2]
      have : c ≤ 9223372036854775807 := by simpa [maxLen] using hm
      omega
    · intro o ho
      obtain ⟨i, hi, rfl⟩ := List.mem_map.1 ho
      exact (hf2 i (by simpa using hi)).2.2.2.2.1

/-- Each item's bytes are few. -/
theorem items_le {l : List (DataW H)} (hk : Rows.uptoSmall H l = true) {d : DataW H} (hd : d ∈ l) {ops : List (Int × Nat × Value × List UInt8)} (h : OpsD ops d) : ∀ o ∈ ops, o.2.2.2.length ≤ 1048576 := by
  intro o ho
  rcases h with ⟨rfl, _⟩ | ⟨el, sp, rfl, _, hall⟩
  · cases ho
  · obtain ⟨x, hx, y0, y1, d2, rfl, hb⟩ := hall o ho
    have h1 := bulks.bound hk
    have h2 := bulks.part_le hd
    have h3 := bulks.slice_elems el sp
    have h4 := bulks.part_le hx
    have h5 : d2 ∈ [y0, y1, d2] := by simp
    have h6 := bulks.part_le h5
    have h7 : Rows.uptoBulk (.agg [y0, y1, d2]) = Rows.uptoBulkAll [y0, y1, d2] + 1 := by simp only [Rows.uptoBulk]
    rcases hb with ⟨hb, _⟩ | ⟨el2, sp2, rfl, hl⟩
    · rw [hb]; simp
    · have h8 := bulks.slice_elems el2 sp2
      have h9 := bulks.length_le el2
      omega

end
end Go.Proofs.Ytbhjhfemicbhaaa
