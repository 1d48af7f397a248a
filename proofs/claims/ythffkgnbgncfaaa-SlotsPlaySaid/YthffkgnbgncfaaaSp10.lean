/-
  Slots: a script of events, as it comes in.
-/
import Derived.Test.YthffkgnbgncfaaaSp9
import Derived.Test.YthffkgnbgncfaaaText
namespace Go.Proofs.Ythffkgnbgncfaaa
open Go.ChangeShapes Go.WideShapes Go.ChangeAt Go.RowKit Go.Mem

theorem evs_at : ∀ (l : List Ev) (j : Nat) (u : Value), (evs l)[j]? = some u → ∃ (q r : Nat) (h : q < l.length), j = q * 5 + r ∧ l[q].c[r]? = some u
  | [], _, _, h => by simp at h
  | x :: l, j, u, h => by
    have e : evs (x :: l) = x.c ++ evs l := by simp [evs]
    have hl : x.c.length = 5 := rfl
    rw [e] at h
    by_cases hj : j < 5
    · rw [List.getElem?_append_left (by omega)] at h
      exact ⟨0, j, by simp, by omega, h⟩
    · rw [List.getElem?_append_right (by omega), hl] at h
      obtain ⟨q, r, hq, he, hu⟩ := evs_at l (j - 5) u h
      exact ⟨q + 1, r, by simp; omega, by omega, by simpa using hu⟩
theorem wf_u8 {z : Int} (h : (Lit.int .u8 z).wf = true) : ∃ b : UInt8, z = b.toNat := by
  have h2 : 0 ≤ z ∧ z ≤ 255 := by
    simp [Lit.wf, IntKind.min, IntKind.max, IntKind.signed, IntKind.bits] at h
    omega
  refine ⟨UInt8.ofNat z.toNat, ?_⟩
  rw [UInt8.toNat_ofNat_of_lt' (show z.toNat < 256 by omega)]
  omega
section
variable {H : Type} {enc : TypeId × Value → H} {P : Program} {w : World} {base : Nat} {spare : Nat → Bool} {held : Bool}
/-- A slice of events. -/
theorem open_evs {t e : TypeId} {F0 F1 F2 F3 F4 : Field} (ht : P.underlying t = some (.slice e)) (he : P.underlying e = some (.struct #[F0, F1, F2, F3, F4])) (hc : P.cellsOf e = 5) (q0 : (F0.offset, F1.offset) = (0, 1)) (q1 : (F2.offset, F3.offset) = (2, 3)) (q2 : F4.offset = 4)
    (h0 : P.underlying F0.type = some (.int .i64)) (h1 : P.underlying F1.type = some (.int .i64)) (h2 : P.underlying F2.type = some (.int .u8)) (h3 : P.underlying F3.type = some (.int .u8)) (h4 : P.underlying F4.type = some .bool)
    (c0 : P.cellsOf F0.type = 1) (c1 : P.cellsOf F1.type = 1) (c2 : P.cellsOf F2.type = 1) (c3 : P.cellsOf F3.type = 1) (c4 : P.cellsOf F4.type = 1) {v : Value} {d : DataW H} {p : List MemPlace}
    (h : ∃ fuel, DataW.trod enc P w base spare held fuel t v.cells.toList = some (d, p)) (hv : ∃ A n c, v = .slice A n c) :
    ∃ ops : List Ev, Rd w 5 v ops.length (evs ops) ∧ True ∧ ops.length ≤ 9223372036854775807 ∧ True := by
  obtain ⟨A, n, c, rfl⟩ := hv
  obtain ⟨fuel, hf⟩ := h
  injection q0 with q0 q0'
  injection q1 with q1 q1'
  rcases DataW.trod_slice ht hf with ⟨hcs, hx⟩ | ⟨a, len, cap, elems, rest, m, _, hcs, hx, _, hl, hm, hlen, hel, _, _⟩
  · simp [Value.cells] at hcs
    obtain ⟨rfl, rfl, rfl⟩ := hcs
    exact ⟨[], Rd.nil _ _, trivial, by simp, trivial⟩
  · simp [Value.cells] at hcs
    obtain ⟨rfl, rfl, rfl⟩ := hcs
    have each : ∀ i, ∃ o : Ev, i < n → ∀ (j : Nat) u, o.c[j]? = some u → w.cell? ((a.add (i * 5)).add j) = some u := by
      intro i
      by_cases hi : i < n
      · have hb := hel i hi
        have hil : i < elems.length := by omega
        rw [hc, List.getElem?_eq_getElem hil, Option.bind_eq_some_iff] at hb
        obtain ⟨cs, hcs, hy⟩ := hb
        obtain ⟨_, hcl, hcc⟩ := World.cells?_some hcs
        obtain ⟨xs, m2, _, hxx, _, hxl, hff⟩ := DataW.trod_struct he hy
        match xs, hxl with
        | [y0, y1, y2, y3, y4], _ =>
        match cs, hcl with
        | [u0, u1, u2, u3, u4], _ =>
        have g0 := hff 0 F0 rfl
        have g1 := hff 1 F1 rfl
        have g2 := hff 2 F2 rfl
        have g3 := hff 3 F3 rfl
        have g4 := hff 4 F4 rfl
        rw [c0, q0] at g0
        rw [c1, q0'] at g1
        rw [c2, q1] at g2
        rw [c3, q1'] at g3
        rw [c4, q2] at g4
        simp at g0 g1 g2 g3 g4
        obtain ⟨z0, e0, _, _⟩ := DataW.trod_int h0 g0
        obtain ⟨z1, e1, _, _⟩ := DataW.trod_int h1 g1
        obtain ⟨z2, e2, _, w2⟩ := DataW.trod_int h2 g2
        obtain ⟨z3, e3, _, w3⟩ := DataW.trod_int h3 g3
        obtain ⟨z4, e4, _⟩ := DataW.trod_bool h4 g4
        obtain ⟨b2, rfl⟩ := wf_u8 w2
        obtain ⟨b3, rfl⟩ := wf_u8 w3
        have k0 := hcc 0 (by omega)
        have k1 := hcc 1 (by omega)
        have k2 := hcc 2 (by omega)
        have k3 := hcc 3 (by omega)
        have k4 := hcc 4 (by omega)
        simp at k0 k1 k2 k3 k4 e0 e1 e2 e3 e4
        subst e0 e1 e2 e3 e4
        refine ⟨⟨z0, z1, b2, b3, z4⟩, fun _ j u hu => ?_⟩
        match j, hu with
        | 0, hu => simp [Ev.c] at hu; rw [← hu]; exact k0
        | 1, hu => simp [Ev.c] at hu; rw [← hu]; exact k1
        | 2, hu => simp [Ev.c] at hu; rw [← hu]; exact k2
        | 3, hu => simp [Ev.c] at hu; rw [← hu]; exact k3
        | 4, hu => simp [Ev.c] at hu; rw [← hu]; exact k4
        | _ + 5, hu => simp [Ev.c] at hu
      · exact ⟨⟨0, 0, 0, 0, false⟩, fun h => absurd h hi⟩
    obtain ⟨f, hf2⟩ := Classical.axiomOfChoice each
    have hlen2 : ((List.range n).map f).length = n := by simp
    refine ⟨(List.range n).map f, ⟨_, _, by rw [hlen2], by rw [evs_len], by rw [hlen2]; exact hl, fun hn => ?_⟩, trivial, ?_, trivial⟩
    · rw [hlen2] at hn
      have k0 := hf2 0 hn 0 _ rfl
      obtain ⟨b, o, sp⟩ := a
      have hsp : sp = none := by
        cases sp with
        | none => rfl
        | some k =>
          simp only [Addr.add, Nat.zero_mul, if_true] at k0
          unfold World.cell? at k0
          split at k0 <;> simp at k0
      subst hsp
      refine ⟨b, o, rfl, fun j u hu => ?_⟩
      obtain ⟨q, r, hq, rfl, hh⟩ := evs_at _ _ _ hu
      rw [hlen2] at hq
      have := hf2 q hq r u (by simpa using hh)
      rw [add_none, add_none] at this
      rwa [show o + (q * 5 + r) = o + q * 5 + r from by omega]
    · rw [hlen2]
      have : c ≤ 9223372036854775807 := by simpa [maxLen] using hm
      omega
end
end Go.Proofs.Ythffkgnbgncfaaa
