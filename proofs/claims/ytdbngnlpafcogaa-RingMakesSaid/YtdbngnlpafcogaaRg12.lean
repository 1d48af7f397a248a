/-
  Rows of keys, as they come in.
-/
import Derived.Test.YtdbngnlpafcogaaRg11
import Derived.Test.YtdbngnlpafcogaaText

namespace Go.Proofs.Ytdbngnlpafcogaa
open Go.ChangeShapes Go.WideShapes Go.ChangeAt Go.RowKit Go.Mem

section
variable {H : Type} {enc : TypeId × Value → H} {P : Program} {w : World} {base : Nat} {spare : Nat → Bool} {held : Bool}
/-- Rows of keys among what is read. -/
theorem sized_keys {ts : List TypeId} {ds : List (DataW H)} (h : (DataW.weightsEach P ts ds).all (· ≤ reachBytes) = true) {j : Nat} {t e : TypeId} {d : DataW H} (ht : ts[j]? = some t) (hd : ds[j]? = some d)
    (hu : P.underlying t = some (.slice e)) (hb : P.bytesOf e = 32) {keys : List (List UInt8)} (sh : keys = [] ∧ d = .nil ∨ ∃ el sp, d = .slice el sp ∧ el.length = keys.length) : keys.length ≤ 4398046510976 := by
  rcases sh with ⟨rfl, _⟩ | ⟨el, sp, rfl, he⟩
  · simp
  · have := sized_slice h ht hd hu
    rw [hb] at this
    simp only [reachBytes] at this
    omega
/-- An array of bytes, cell by cell. -/
theorem trod_arr {e te : TypeId} (he : P.underlying e = some (.array 32 te)) (h3 : P.underlying te = some (.int .u8)) (c3 : P.cellsOf te = 1) {fuel : Nat} {cs : List Value} {y : DataW H × List MemPlace} (hn : cs.length = 32)
    (h : DataW.trod enc P w base spare held fuel e cs = some y) : ∃ bs : List UInt8, cs = bv bs ∧ bs.length = 32 := by
  cases fuel with
  | zero => simp [DataW.trod] at h
  | succ m =>
    unfold DataW.trod at h
    rw [he] at h
    simp only [hn, c3, Nat.mul_one] at h
    have each : ∀ i (hi : i < 32), ∃ b : UInt8, cs[i]'(by omega) = byteV b := by
      intro i hi
      cases hq : DataW.trod enc P w base spare held m te ((cs.drop i).take 1) with
      | none =>
        have := mapM_none_of (f := fun i => DataW.trod enc P w base spare held m te ((cs.drop i).take 1)) (l := List.range 32) (x := i) (by simpa using hi) hq
        rw [this] at h
        simp at h
      | some y =>
        have e1 : (cs.drop i).take 1 = [cs[i]'(by omega)] := by
          have := List.drop_eq_getElem_cons (l := cs) (i := i) (by omega)
          rw [this]
          rfl
        rw [e1] at hq
        exact trod_u8 h3 hq
    refine ⟨(List.range 32).map fun i => if hi : i < 32 then (each i hi).choose else 0, ?_, by simp⟩
    apply List.ext_getElem
    · simp [hn]
    · intro i h1 h2
      have hi : i < 32 := by omega
      simp only [bv, List.map_map, List.getElem_map, List.getElem_range, Function.comp_apply, dif_pos hi]
      exact (each i hi).choose_spec
theorem flat_at : ∀ (l : List (List UInt8)) (_ : ∀ k ∈ l, k.length = 32) (j : Nat) (u : Value), (l.flatMap bv)[j]? = some u → ∃ (q r : Nat) (h : q < l.length), j = q * 32 + r ∧ (bv l[q])[r]? = some u
  | [], _, _, _, h => by simp at h
  | x :: l, hk, j, u, h => by
    have e : (x :: l).flatMap bv = bv x ++ l.flatMap bv := by simp
    have hl : (bv x).length = 32 := by simpa using hk x (by simp)
    rw [e] at h
    by_cases hj : j < 32
    · rw [List.getElem?_append_left (by omega)] at h
      exact ⟨0, j, by simp, by omega, h⟩
    · rw [List.getElem?_append_right (by omega), hl] at h
      obtain ⟨q, r, hq, he, hu⟩ := flat_at l (fun k hm => hk k (List.mem_cons_of_mem _ hm)) (j - 32) u h
      exact ⟨q + 1, r, by simp; omega, by omega, by simpa using hu⟩
theorem open_keys {t e te : TypeId} (ht : P.underlying t = some (.slice e)) (he : P.underlying e = some (.array 32 te)) (hc : P.cellsOf e = 32) (h3 : P.underlying te = some (.int .u8)) (c3 : P.cellsOf te = 1) {v : Value} {d : DataW H} {p : List MemPlace}
    (h : ∃ fuel, DataW.trod enc P w base spare held fuel t v.cells.toList = some (d, p)) (hv : ∃ A n c, v = .slice A n c) :
    ∃ keys : List (List UInt8), Rd w 32 v keys.length (keys.flatMap bv) ∧ (keys = [] ∧ d = .nil ∨ ∃ el sp, d = .slice el sp ∧ el.length = keys.length) ∧ keys.length ≤ 9223372036854775807 ∧ ∀ k ∈ keys, k.length = 32 := by
  obtain ⟨A, n, c, rfl⟩ := hv
  obtain ⟨fuel, hf⟩ := h
  rcases DataW.trod_slice ht hf with ⟨hcs, hx⟩ | ⟨a, len, cap, elems, rest, m, _, hcs, hx, _, hl, hm, hlen, hel, _, _⟩
  · simp [Value.cells] at hcs
    obtain ⟨rfl, rfl, rfl⟩ := hcs
    exact ⟨[], Rd.nil _ _, .inl ⟨rfl, by injection hx⟩, by simp, by simp⟩
  · simp [Value.cells] at hcs
    obtain ⟨rfl, rfl, rfl⟩ := hcs
    have each : ∀ i, ∃ k : List UInt8, k.length = 32 ∧ (i < n → ∀ (j : Nat) u, (bv k)[j]? = some u → w.cell? ((a.add (i * 32)).add j) = some u) := by
      intro i
      by_cases hi : i < n
      · have hb := hel i hi
        have hil : i < elems.length := by omega
        rw [hc, List.getElem?_eq_getElem hil, Option.bind_eq_some_iff] at hb
        obtain ⟨cs, hcs, hy⟩ := hb
        obtain ⟨_, hcl, hcc⟩ := World.cells?_some hcs
        obtain ⟨bs, rfl, hbl⟩ := trod_arr he h3 c3 hcl hy
        refine ⟨bs, hbl, fun _ j u hu => ?_⟩
        have hj : j < (bv bs).length := (List.getElem?_eq_some_iff.1 hu).1
        have := hcc j (by simpa [hbl] using hj)
        rw [this]
        exact hu
      · exact ⟨noughts 32, by simp, fun h => absurd h hi⟩
    obtain ⟨f, hf2⟩ := Classical.axiomOfChoice each
    have hlen2 : ((List.range n).map f).length = n := by simp
    have hkl : ∀ k ∈ (List.range n).map f, k.length = 32 := by
      intro k hk
      obtain ⟨i, _, rfl⟩ := List.mem_map.1 hk
      exact (hf2 i).1
    refine ⟨(List.range n).map f, ⟨_, _, by rw [hlen2], by rw [flat_len hkl], by rw [hlen2]; exact hl, fun hn => ?_⟩, .inr ⟨_, _, by injection hx, by simp [hlen]⟩, ?_, hkl⟩
    · rw [hlen2] at hn
      have hb0 : (bv (f 0))[0]? = some ((bv (f 0))[0]'(by simp [(hf2 0).1])) := List.getElem?_eq_getElem _
      have k0 := (hf2 0).2 hn 0 _ hb0
      obtain ⟨b, o, sp⟩ := a
      have hsp : sp = none := by
        cases sp with
        | none => rfl
        | some k =>
          simp only [Addr.add, Nat.zero_mul, if_true] at k0
          unfold World.cell? at k0
          split at k0 <;> simp at k0
      subst hsp
      refine ⟨b, o, rfl, fun j u hu => ?_⟩
      obtain ⟨q, r, hq, rfl, hu2⟩ := flat_at _ hkl _ _ hu
      rw [hlen2] at hq
      simp only [List.getElem_map, List.getElem_range] at hu2
      have := (hf2 q).2 hq r u hu2
      rw [add_none, add_none] at this
      rwa [← Nat.add_assoc]
    · rw [hlen2]
      have : c ≤ 9223372036854775807 := by simpa [maxLen] using hm
      omega
end
end Go.Proofs.Ytdbngnlpafcogaa
