/-
  Words for memory: append(s, make([]T, k)...), T of one cell.
-/
import Derived.Test.YtbhjhfemicbhaaaMem5
namespace Go.Mem
open Go.RowKit

section
variable {P : Program} {w : World} {ops : Array Oper} {rest : List Oper} {o : Oper} {a : Act} {Q : Exit → Act → World → Prop}

theorem zero_list (u : Value) (k : Nat) : (Builtin.zeroCells #[u] k).toList = List.replicate k u := by
  apply List.ext_getElem
  · simp [Builtin.zeroCells]
  · intro i h1 h2
    have : i % 1 = 0 := by omega
    simp [Builtin.zeroCells, this]

theorem run_app_made {t ti e : TypeId} {bytes : Nat} {z u : Value} {kd : IntKind} (T : SliceT P t e 1 bytes z) (hz1 : z.cells = #[u]) (hu : u.oneCell' = true) (hti : P.underlying ti = some (.int kd)) (ty : TypeId) {v : Value} {n : Nat} {xs : List Value}
    (hown : Ow w e 1 v n xs) (k : Nat) (hbytes : (n + k) * bytes ≤ 140737488355328) (h63 : n + k ≤ 9223372036854775807) :
    ∃ v' w', (Builtin.append_ #[t, ti] ty #[v, .int .i64 k]).run P w = .ok v' w' ∧ Ow w' e 1 v' (n + k) (xs ++ List.replicate k u) ∧ Kept v.ownBlock.toList w w' ∧ (v'.ownBlock = v.ownBlock ∨ v'.ownBlock = some w.heap.size) := by
  obtain ⟨i, hi, hz, hsz, hby⟩ := T.get
  have hw : IntKind.i64.wrap (k : Int) = k := by rw [IntKind.wrap_i64]; omega
  have hlen : (xs ++ List.replicate k u).length = (n + k) * 1 := by rw [List.length_append, hown.1, List.length_replicate]; omega
  have hk0 : ¬ ((k : Int) < 0) := by omega
  have hkb : ¬ (281474976710656 < (k : Int) * (bytes : Int)) := by
    have h1 : k * bytes ≤ (n + k) * bytes := Nat.mul_le_mul_right _ (by omega)
    have : (k : Int) * (bytes : Int) = ((k * bytes : Nat) : Int) := by simp
    rw [this]
    omega
  have hxs : ∀ (b o2 cap : Nat), v = .slice (some ⟨b, o2, none⟩) n cap → (Builtin.firstCells 1 n (.slice (some ⟨b, o2, none⟩) n cap)).run P w.drew = .ok xs.toArray w.drew := by
    intro b o2 cap hv
    subst hv
    exact run_firstCells_some (P := P) w.drew 1 n ⟨b, o2, none⟩ n cap xs hown.1 (fun j x hx => by
      rw [add_none]
      obtain ⟨b2, o3, c2, hv2, _, hcell⟩ := (Rd.of_ow hown).at_ (by
        rcases Nat.eq_zero_or_pos n with h | h
        · subst h
          have := hown.1
          simp at this
          subst this
          simp at hx
        · exact h)
      cases hv2
      exact hcell j x hx)
  have hgrow : ∀ (base : Option Addr) (cap : Nat), k ≠ 0 → v = .slice base n cap → cap < n + k → (Builtin.firstCells 1 n (.slice base n cap)).run P w.drew = .ok xs.toArray w.drew →
      ∃ v' w', (Builtin.append_ #[t, ti] ty #[v, .int .i64 k]).run P w = .ok v' w' ∧ Ow w' e 1 v' (n + k) (xs ++ List.replicate k u) ∧ Kept v.ownBlock.toList w w' ∧ (v'.ownBlock = v.ownBlock ∨ v'.ownBlock = some w.heap.size) := by
    intro base cap hkz hv hcap hold
    subst hv
    have hn : ¬ (n + k ≤ cap) := by omega
    have h63' : ¬ (9223372036854775807 < ((n : Int) + (k : Int))) := by omega
    have hfit : Builtin.nextslicecap (n + k) cap * i.bytes ≤ 281474976710656 := by rw [hby]; exact growslice_fits hcap hbytes
    have h48' : ¬ (281474976710656 < Builtin.nextslicecap (n + k) cap * i.bytes) := by omega
    have hge := grownCap_ge w (n + k) cap e
    have hcm : grownCap w (n + k) cap e ≤ maxLen := grownCap_le_maxLen w (n + k) cap e (by simp only [maxLen]; exact h63)
    have hrun : (Builtin.append_ #[t, ti] ty #[.slice base n cap, .int .i64 k]).run P w =
        .ok (.slice (some ⟨w.heap.size, 0, none⟩) (n + k) (grownCap w (n + k) cap e)) (w.drew.alloc (.cells ((xs ++ List.replicate k u).toArray ++ Builtin.zeroCells z.cells (grownCap w (n + k) cap e - (n + k))) e)) := by
      have hkb' : ¬ (281474976710656 < (k : Int) * (i.bytes : Int)) := by rw [hby]; exact hkb
      have hz2 : Builtin.zeroCells z.cells k = (List.replicate k u).toArray := by apply Array.ext'; rw [hz1, zero_list]
      simp [Builtin.append_, run_underlying T.under, run_underlying hti, sizeOf, typeInfo, zeroValue, hi, hz, hn, h63', h48', Question.forced, hold, newRow, grownCap, asInt, asIntOf, hw, hk0, hkb', hsz, hkz, hz2]
      congr 2
      apply Array.ext'
      simp [List.append_assoc]
    refine ⟨_, _, hrun, ⟨hlen, .inr ⟨w.heap.size, 0, _, _, rfl, heap_alloc_new w.drew _, hge, by simpa [maxLen] using hcm, ?_, ?_⟩⟩, ?_, .inr rfl⟩
    · simp only [Array.size_append, List.size_toArray, size_zeroCells, T.zs, hlen]
      omega
    · simp only [Array.toList_append, List.drop_zero]
      rw [← hlen]
      exact List.take_left
    · exact (Kept.refl [] w).drew.alloc _ |> Kept.of0
  rcases hown.2 with ⟨hv, h0⟩ | ⟨g, o', cap, cur, hv, hg, hnc, hcm, hcs, ht⟩
  · subst h0
    have hx0 : xs = [] := List.eq_nil_of_length_eq_zero (by simpa using hown.1)
    by_cases hm : k = 0
    · subst hm
      subst hv
      refine ⟨.slice none 0 0, w, ?_, by simpa using hown, Kept.refl _ _, .inl rfl⟩
      simp [Builtin.append_, run_underlying T.under, run_underlying hti, sizeOf, typeInfo, hi, asInt, asIntOf, show IntKind.i64.wrap 0 = 0 from by simpa using hw]
    · exact hgrow none 0 hm hv (by omega) (by rw [hx0]; exact run_firstCells_none w.drew _ _ _ _)
  · by_cases hroom : n + k ≤ cap
    · subst hv
      have hst := run_storeCells_cells (P := P) g (o' + n) (List.replicate k u) 0 w (fun j hj => by rw [hg.cell]; simp at hj ⊢; omega) (fun j _ => hg.frozen _) (fun x hx => by rw [(List.mem_replicate.1 hx).2]; exact hu)
      simp only [Nat.add_zero] at hst
      obtain ⟨cs', b1, b2, b3⟩ := Blk.setCells (List.replicate k u) (o' + n) cur w hg
      have hrun : (Builtin.append_ #[t, ti] ty #[.slice (some ⟨g, o', none⟩) n cap, .int .i64 k]).run P w = .ok (.slice (some ⟨g, o', none⟩) (n + k) cap) (w.setCells g (o' + n) (List.replicate k u)) := by
        by_cases hkz : k = 0
        · subst hkz
          have hw0 : IntKind.i64.wrap 0 = 0 := by simpa using hw
          simp [Builtin.append_, run_underlying T.under, run_underlying hti, sizeOf, typeInfo, hi, asInt, asIntOf, hw0, hnc, storeCells, World.setCells]
        · have hkb' : ¬ (281474976710656 < (k : Int) * (i.bytes : Int)) := by rw [hby]; exact hkb
          have hz2 : Builtin.zeroCells z.cells k = (List.replicate k u).toArray := by apply Array.ext'; rw [hz1, zero_list]
          simp [Builtin.append_, run_underlying T.under, run_underlying hti, sizeOf, typeInfo, zeroValue, hi, hz, asInt, asIntOf, hw, hk0, hkb', hsz, hkz, hroom, hz2, add_none, hst]
      refine ⟨_, _, hrun, ⟨hlen, .inr ⟨g, o', cap, cs', rfl, b1, hroom, hcm, by omega, ?_⟩⟩, (Kept.setCells _ _ _).more (by simp [Value.ownBlock]), .inl rfl⟩
      apply List.ext_getElem?
      intro j
      have hxl := hown.1
      rw [List.getElem?_take, List.getElem?_append, List.getElem?_drop]
      have b4 : cs'.toList[o' + j]? = cs'[o' + j]? := by simp
      rw [b4, b3, List.length_replicate]
      by_cases hj : j < n
      · rw [if_pos (by omega), if_neg (by omega), if_pos (by omega), ← ht, List.getElem?_take, if_pos (by omega), List.getElem?_drop]
        simp
      · by_cases hj2 : j < n + k
        · rw [if_pos (by omega), if_pos (by omega), if_neg (by omega)]
          congr 1
          omega
        · rw [if_neg (by omega), if_neg (by omega), List.getElem?_eq_none (by rw [List.length_replicate]; omega)]
    · exact hgrow _ cap (by omega) hv (by omega) (hv ▸ hxs g o' cap hv)

/-- append(s, make([]T, k)...). -/
theorem wpl_app_made {t ti e : TypeId} {bytes : Nat} {z u : Value} {kd : IntKind} (T : SliceT P t e 1 bytes z) (hz1 : z.cells = #[u]) (hu : u.oneCell' = true) (hti : P.underlying ti = some (.int kd)) (hgd : o.guard = none) (s x : Operand)
    (ho : o.op = .call { callee := .builtin .append, args := #[s, x], argTypes := #[t, ti] }) {v : Value} (hs : a.eval s = v) {n : Nat} {xs : List Value} (hown : Ow w e 1 v n xs)
    (k : Nat) (hx : a.eval x = .int .i64 k) (hbytes : (n + k) * bytes ≤ 140737488355328) (h63 : n + k ≤ 9223372036854775807)
    (h : ∀ v' w', Ow w' e 1 v' (n + k) (xs ++ List.replicate k u) → Kept v.ownBlock.toList w w' → (v'.ownBlock = v.ownBlock ∨ v'.ownBlock = some w.heap.size) → wpList P ops Q rest (a.put o.dst v') w') : wpList P ops Q (o :: rest) a w := by
  refine wpList_plain hgd fun K hK => ?_
  obtain ⟨v', w', hrun, h2, h3, h4⟩ := run_app_made T hz1 hu hti o.type hown k hbytes h63
  unfold Oper.wp execOp
  simp only [ho, resolve, invoke, builtin, Sem.run_bind, Sem.run_pure, Result.andThen_ok, List.map_toArray, List.map_cons, List.map_nil, hs, hx, hrun]
  exact hK _ _ (h v' w' h2 h3 h4)

end
end Go.Mem
