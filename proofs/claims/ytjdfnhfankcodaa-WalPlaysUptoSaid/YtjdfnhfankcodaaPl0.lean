/-
  The log: a script of writes, crashes and cuts, as it comes in.
-/
import Derived.Test.YtjdfnhfankcodaaOpn
import Derived.Test.YtjdfnhfankcodaaText
namespace Go.Proofs.Ytjdfnhfankcodaa
open Go.ChangeShapes Go.WideShapes Go.ChangeAt Go.RowKit Go.Mem

/-- A call: its kind, its number, its two bodies. -/
abbrev POp := Int × Int × (Value × List UInt8) × (Value × List UInt8)
def opC (o : POp) : List Value := [.int .i64 o.1, .int .i64 o.2.1, o.2.2.1.1, o.2.2.2.1]
structure Scr (w : World) (sv : Value) (ops : List POp) : Prop where
  outer : Rd w 4 sv ops.length (ops.flatMap opC)
  inner : ∀ o ∈ ops, Rd w 1 o.2.2.1.1 o.2.2.1.2.length (bv o.2.2.1.2) ∧ Rd w 1 o.2.2.2.1 o.2.2.2.2.length (bv o.2.2.2.2)
theorem Scr.kept0 {w w' : World} {sv : Value} {ops : List POp} (h : Scr w sv ops) (hk : Kept [] w w') : Scr w' sv ops :=
  ⟨h.outer.kept0 hk, fun o ho => ⟨(h.inner o ho).1.kept0 hk, (h.inner o ho).2.kept0 hk⟩⟩
theorem opC_at : ∀ (l : List POp) (j : Nat) (u : Value), (l.flatMap opC)[j]? = some u → ∃ (q r : Nat) (h : q < l.length), j = q * 4 + r ∧ (opC l[q])[r]? = some u
  | [], _, _, h => by simp at h
  | x :: l, j, u, h => by
    have e : (x :: l).flatMap opC = opC x ++ l.flatMap opC := by simp
    have hl : (opC x).length = 4 := rfl
    rw [e] at h
    by_cases hj : j < 4
    · rw [List.getElem?_append_left (by omega)] at h
      exact ⟨0, j, by simp, by omega, h⟩
    · rw [List.getElem?_append_right (by omega), hl] at h
      obtain ⟨q, r, hq, he, hu⟩ := opC_at l (j - 4) u h
      exact ⟨q + 1, r, by simp; omega, by omega, by simpa using hu⟩
theorem opC_get : ∀ (l : List POp) (k : Nat) (h : k < l.length) (r : Nat), r < 4 → (l.flatMap opC)[k * 4 + r]? = (opC l[k])[r]?
  | [], _, h, _, _ => by simp at h
  | x :: l, 0, _, r, hr => by
    have e : (x :: l).flatMap opC = opC x ++ l.flatMap opC := by simp
    have hl : (opC x).length = 4 := rfl
    rw [e, Nat.zero_mul, Nat.zero_add, List.getElem?_append_left (by omega)]
    rfl
  | x :: l, k + 1, h, r, hr => by
    have e : (x :: l).flatMap opC = opC x ++ l.flatMap opC := by simp
    have hl : (opC x).length = 4 := rfl
    rw [e, List.getElem?_append_right (by omega), hl, show (k + 1) * 4 + r - 4 = k * 4 + r from by omega]
    exact opC_get l k (by simpa using h) r hr
theorem opC_len (ops : List POp) : (ops.flatMap opC).length = ops.length * 4 := by
  induction ops with
  | nil => rfl
  | cons x l ih => simp [opC] at ih ⊢; omega
section
variable {H : Type} {enc : TypeId × Value → H} {P : Program} {w : World} {base : Nat} {spare : Nat → Bool} {held : Bool}
def POpD (o : POp) (d : DataW H) : Prop := ∃ y0 y1 d2 d3, d = .agg [y0, y1, d2, d3] ∧ BytesD o.2.2.1.2 d2 ∧ BytesD o.2.2.2.2 d3
def PlD (ops : List POp) (d : DataW H) : Prop := ops = [] ∧ d = .nil ∨ ∃ el sp, d = .slice el sp ∧ el.length = ops.length ∧ ∀ o ∈ ops, ∃ x ∈ el, POpD o x
theorem open_scr {t e te : TypeId} {F0 F1 F2 F3 : Field} (ht : P.underlying t = some (.slice e)) (he : P.underlying e = some (.struct #[F0, F1, F2, F3])) (hc : P.cellsOf e = 4) (q0 : (F0.offset, F1.offset) = (0, 1)) (q1 : F2.offset = 2) (q2 : F3.offset = 3)
    (h0 : P.underlying F0.type = some (.int .i64)) (h1 : P.underlying F1.type = some (.int .i64)) (h2 : P.underlying F2.type = some (.slice te)) (h2' : P.underlying F3.type = some (.slice te)) (h3 : P.underlying te = some (.int .u8))
    (c0 : P.cellsOf F0.type = 1) (c1 : P.cellsOf F1.type = 1) (c2 : P.cellsOf F2.type = 1) (c2' : P.cellsOf F3.type = 1) (c3 : P.cellsOf te = 1) {v : Value} {d : DataW H} {p : List MemPlace}
    (h : ∃ fuel, DataW.trod enc P w base spare held fuel t v.cells.toList = some (d, p)) (hv : ∃ A n c, v = .slice A n c) :
    ∃ ops : List POp, Scr w v ops ∧ PlD ops d ∧ ops.length ≤ 9223372036854775807 ∧ True := by
  obtain ⟨A, n, c, rfl⟩ := hv
  obtain ⟨fuel, hf⟩ := h
  injection q0 with q0 q0'
  rcases DataW.trod_slice ht hf with ⟨hcs, hx⟩ | ⟨a, len, cap, elems, rest, m, _, hcs, hx, _, hl, hm, hlen, hel, _, _⟩
  · simp [Value.cells] at hcs
    obtain ⟨rfl, rfl, rfl⟩ := hcs
    exact ⟨[], ⟨Rd.nil _ _, by simp⟩, .inl ⟨rfl, by injection hx⟩, by simp, trivial⟩
  · simp [Value.cells] at hcs
    obtain ⟨rfl, rfl, rfl⟩ := hcs
    have each : ∀ i, ∃ o : POp, i < n → (∀ (j : Nat) u, (opC o)[j]? = some u → w.cell? ((a.add (i * 4)).add j) = some u) ∧
        (Rd w 1 o.2.2.1.1 o.2.2.1.2.length (bv o.2.2.1.2) ∧ Rd w 1 o.2.2.2.1 o.2.2.2.2.length (bv o.2.2.2.2)) ∧ ∃ x, elems[i]? = some x ∧ POpD o x.1 := by
      intro i
      by_cases hi : i < n
      · have hb := hel i hi
        have hil : i < elems.length := by omega
        rw [hc, List.getElem?_eq_getElem hil, Option.bind_eq_some_iff] at hb
        obtain ⟨cs, hcs, hy⟩ := hb
        obtain ⟨_, hcl, hcc⟩ := World.cells?_some hcs
        obtain ⟨xs, m2, _, hxx, _, hxl, hff⟩ := DataW.trod_struct he hy
        match xs, hxl with
        | [y0, y1, y2, y3], _ =>
        match cs, hcl with
        | [u0, u1, u2, u3], _ =>
        have g0 := hff 0 F0 rfl
        have g1 := hff 1 F1 rfl
        have g2 := hff 2 F2 rfl
        have g3 := hff 3 F3 rfl
        rw [c0, q0] at g0
        rw [c1, q0'] at g1
        rw [c2, q1] at g2
        rw [c2', q2] at g3
        simp at g0 g1 g2 g3
        obtain ⟨z0, e0, _, w0⟩ := DataW.trod_int h0 g0
        obtain ⟨z1, e1, _, w1⟩ := DataW.trod_int h1 g1
        have sl : ∀ {F : Field} {u : Value} {y : DataW H × List MemPlace} {fl : Nat}, P.underlying F.type = some (.slice te) → DataW.trod enc P w base spare held fl F.type [u] = some (y.1, y.2) → ∃ bs, Rd w 1 u bs.length (bv bs) ∧ BytesD bs y.1 := by
          intro F u y fl hu g
          have hu2 : ∃ A n c, u = .slice A n c := by
            rcases DataW.trod_slice hu g with ⟨h, _⟩ | ⟨a, len, cap, _, _, _, _, h, _⟩
            · exact ⟨none, 0, 0, by simpa using h⟩
            · exact ⟨some a, len, cap, by simpa using h⟩
          have g' : ∃ fuel, DataW.trod enc P w base spare held fuel F.type u.cells.toList = some (y.1, y.2) := by
            obtain ⟨A, n, c, rfl⟩ := hu2
            exact ⟨_, g⟩
          obtain ⟨bs, hrd, hbd, _⟩ := open_bytes hu h3 c3 g' hu2
          exact ⟨bs, hrd, hbd⟩
        obtain ⟨b2, r2, d2⟩ := sl h2 g2
        obtain ⟨b3, r3, d3⟩ := sl h2' g3
        have k0 := hcc 0 (by omega)
        have k1 := hcc 1 (by omega)
        have k2 := hcc 2 (by omega)
        have k3 := hcc 3 (by omega)
        simp at k0 k1 k2 k3 e0 e1
        subst e0 e1
        refine ⟨(z0, z1, (u2, b2), (u3, b3)), fun _ => ⟨fun j u hu => ?_, ⟨r2, r3⟩, _, List.getElem?_eq_getElem hil, y0.1, y1.1, y2.1, y3.1, by rw [hxx]; rfl, d2, d3⟩⟩
        match j, hu with
        | 0, hu => cases hu; exact k0
        | 1, hu => cases hu; exact k1
        | 2, hu => cases hu; exact k2
        | 3, hu => cases hu; exact k3
      · exact ⟨(0, 0, (.slice none 0 0, []), (.slice none 0 0, [])), fun h => absurd h hi⟩
    obtain ⟨f, hf2⟩ := Classical.axiomOfChoice each
    have hlen2 : ((List.range n).map f).length = n := by simp
    refine ⟨(List.range n).map f, ⟨⟨_, _, by rw [hlen2], by rw [opC_len], by rw [hlen2]; exact hl, fun hn => ?_⟩, ?_⟩, .inr ⟨_, _, by injection hx, by simp [hlen], ?_⟩, ?_, trivial⟩
    · rw [hlen2] at hn
      have k0 := (hf2 0 hn).1 0 _ rfl
      obtain ⟨b, o, sp⟩ := a
      have hsp : sp = none := by
        cases sp with
        | none => rfl
        | some k =>
          simp only [Addr.add, Nat.zero_mul, if_true] at k0
          unfold World.cell? at k0
          split at k0 <;> simp at k0
      subst hsp
      refine ⟨b, o, rfl, fun j u hu => ?_⟩
      obtain ⟨q, r, hq, rfl, hu2⟩ := opC_at _ _ _ hu
      rw [hlen2] at hq
      have k1 := (hf2 q hq).1 r u (by simpa using hu2)
      rw [add_none, add_none] at k1
      simpa [Nat.add_assoc] using k1
    · intro o ho
      obtain ⟨i, hi, rfl⟩ := List.mem_map.1 ho
      exact (hf2 i (by simpa using hi)).2.1
    · intro o ho
      obtain ⟨i, hi, rfl⟩ := List.mem_map.1 ho
      obtain ⟨x, hx, hd⟩ := (hf2 i (by simpa using hi)).2.2
      exact ⟨x.1, List.mem_map.2 ⟨x, List.mem_of_getElem? hx, rfl⟩, hd⟩
    · rw [hlen2]
      have : c ≤ 9223372036854775807 := by simpa [maxLen] using hm
      omega
/-- Each call's bytes are few. -/
theorem scr_le {l : List (DataW H)} (hk : Rows.uptoSmall H l = true) {d : DataW H} (hd : d ∈ l) {ops : List POp} (h : PlD ops d) : ∀ o ∈ ops, o.2.2.1.2.length ≤ 1048576 ∧ o.2.2.2.2.length ≤ 1048576 := by
  intro o ho
  rcases h with ⟨rfl, _⟩ | ⟨el, sp, rfl, _, hall⟩
  · cases ho
  · obtain ⟨x, hx, y0, y1, d2, d3, rfl, hb, hb'⟩ := hall o ho
    have h1 := bulks.bound hk
    have h2 := bulks.part_le hd
    have h3 := bulks.slice_elems el sp
    have h4 := bulks.part_le hx
    have h7 : Rows.uptoBulk (.agg [y0, y1, d2, d3]) = Rows.uptoBulkAll [y0, y1, d2, d3] + 1 := by simp only [Rows.uptoBulk]
    have one : ∀ {bs : List UInt8} {d : DataW H}, d ∈ [y0, y1, d2, d3] → BytesD bs d → bs.length ≤ 1048576 := by
      intro bs d hm hb
      have h6 := bulks.part_le hm
      rcases hb with ⟨hb, _⟩ | ⟨el2, sp2, rfl, hl⟩
      · rw [hb]; simp
      · have h8 := bulks.slice_elems el2 sp2
        have h9 := bulks.length_le el2
        omega
    exact ⟨one (by simp) hb, one (by simp) hb'⟩
end
end Go.Proofs.Ytjdfnhfankcodaa
