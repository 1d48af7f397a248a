/-
  The log: contracts for WalPlays: what each call leaves, with its blocks.
-/
import Derived.Test.YtjdfnhfankcodaaPl1
import Derived.Test.YtjdfnhfankcodaaFam
namespace Go.Mem
open Go.RowKit
section
variable {P : Program} {ops : Array Oper} {o : Oper} {rest : List Oper} {a : Act} {w : World} {Q : Exit → Act → World → Prop}
theorem wpl_max (hgd : Region.wanted o (yielded ops a.tmps) = true) (d x : Operand) {t1 t2 : TypeId} (ho : o.op = .call { callee := .builtin .max, args := #[d, x], argTypes := #[t1, t2] }) {q : IntKind} {i j m : Int} (hd : a.eval d = .int q i) (hx : a.eval x = .int q j)
    (hm : m = if i < j then j else i) (h : wpList P ops Q rest (a.put o.dst (.int q m)) w) : wpList P ops Q (o :: rest) a w := by
  refine wpl_wanted hgd fun K hK => ?_
  have hrun : (Builtin.max_ #[t1, t2] o.type #[.int q i, .int q j]).run P w = .ok (.int q m) w := by
    subst hm
    unfold Builtin.max_
    simp only [List.foldlM_cons, List.foldlM_nil, Builtin.max2]
    simp
  unfold Oper.wp execOp
  simp only [ho, resolve, invoke, builtin, Sem.run_bind, Sem.run_pure, Result.andThen_ok, List.map_toArray, List.map_cons, List.map_nil, hd, hx, hrun]
  exact hK _ _ h
theorem bv_set (cur : List Value) (j : Nat) (z : Int) (h : ∀ y ∈ cur, ∃ z, y = .int .u8 z) : ∀ y ∈ cur.set j (.int .u8 z), ∃ z, y = .int .u8 z := by
  intro y hy
  rcases List.mem_or_eq_of_mem_set hy with hy | rfl
  · exact h y hy
  · exact ⟨z, rfl⟩
/-- A row of bytes in which any byte is turned. -/
theorem Ow.turn {e : TypeId} {v : Value} {n : Nat} {xs : List Value} (h : Ow w e 1 v n xs) (hx : ∀ y ∈ xs, ∃ z, y = .int .u8 z) (pb po : Nat) (z : Int) : ∃ ys, Ow (w.setCell ⟨pb, po, none⟩ (.int .u8 z)) e 1 v n ys ∧ ∀ y ∈ ys, ∃ z, y = .int .u8 z := by
  by_cases hb : v.ownBlock = some pb
  · obtain ⟨hl, h2⟩ := h
    rcases h2 with ⟨rfl, rfl⟩ | ⟨g, o', cap, cur, rfl, hg, hnc, hcm, hcs, ht⟩
    · simp [Value.ownBlock] at hb
    · have hgb : g = pb := by simpa [Value.ownBlock] using hb
      subst hgb
      refine ⟨((cur.setIfInBounds po (.int .u8 z)).toList.drop o').take (n * 1), ⟨?_, .inr ⟨g, o', cap, _, rfl, hg.set_ po (.int .u8 z), hnc, hcm, by simpa using hcs, rfl⟩⟩, fun y hy => ?_⟩
      · have := congrArg List.length ht
        simp only [List.length_take, List.length_drop, Array.length_toList, Array.size_setIfInBounds] at this ⊢
        omega
      · by_cases hin : o' ≤ po ∧ po < o' + n * 1
        · have e : ((cur.setIfInBounds po (.int .u8 z)).toList.drop o').take (n * 1) = xs.set (po - o') (.int .u8 z) := by
            rw [← ht]
            apply List.ext_getElem?
            intro i
            simp only [Array.toList_setIfInBounds, List.getElem?_take, List.getElem?_drop, List.getElem?_set, List.length_take, List.length_drop, Array.length_toList]
            by_cases hi : i < n * 1
            · simp only [hi, if_true]
              by_cases hij : po - o' = i
              · subst hij
                have e1 : o' + (po - o') = po := by omega
                have hle : n * 1 ≤ cap * 1 := Nat.mul_le_mul_right _ hnc
                rw [e1, if_pos rfl, if_pos rfl, if_pos (by omega), if_pos (by omega)]
              · rw [if_neg (by omega), if_neg hij]
            · simp only [hi, if_false]
              rw [if_neg (by omega)]
          rw [e] at hy
          exact bv_set xs _ z hx y hy
        · have e : ((cur.setIfInBounds po (.int .u8 z)).toList.drop o').take (n * 1) = xs := by
            rw [← ht]
            apply List.ext_getElem?
            intro i
            simp only [Array.toList_setIfInBounds, List.getElem?_take, List.getElem?_drop, List.getElem?_set]
            by_cases hi : i < n * 1
            · simp only [hi, if_true]
              rw [if_neg (by omega)]
            · simp only [hi, if_false]
          rw [e] at hy
          exact hx y hy
  · exact ⟨xs, h.setCell hb _, hx⟩
end
end Go.Mem
namespace Go.Proofs.Ytjdfnhfankcodaa
open Go.RowKit Go.Mem Go.Txt

theorem wopen2 {w0 w : World} {b size safe : Nat} {dv : Value} {xs : List UInt8} (h : Dw w0 w b size safe dv xs) (hx : xs.length ≤ 1000000000000) :
    Calls Try.prog 10 #[.pointer (some ⟨b, 0, none⟩)] w fun e w' => ∃ l rv rs dv', e = .returned (.tuple #[.pointer (some ⟨l, 0, none⟩), .int .i64 0]) ∧ rs.map (·.2) = says xs ∧
      Wl w0 w' b l size (rsz (says xs)) dv' rv rs (xs.take (rsz (says xs))) false ∧ Kept [b] w w' ∧ dv'.ownBlock = dv.ownBlock ∧ LgNew w l rv rs := by
  refine (open_any b size safe dv xs w h.disk hx).mono ?_
  rintro e w' ⟨l, rv, rs, dv', rfl, h1, h2, h3, h4, h5, h6⟩
  have hsz := h.k.size
  refine ⟨l, rv, rs, dv', rfl, h1, ⟨h4, h2, fun x hx k hk e => ?_, h.lb, by rw [h5]; exact h.ld, ⟨Nat.le_trans hsz h3.ll, fun k hk => Nat.le_trans hsz (h3.lr k hk), fun x hx k hk => Nat.le_trans hsz (h3.lx x hx k hk)⟩, Kept.fresh h.k h6 (by simpa using h.lb)⟩, h6, h5, h3⟩
  rw [h5] at e
  have a1 := h3.lx x hx k hk
  have a2 := (Ow.of_own h.disk.own).lt e
  omega
theorem dcut2 {w0 w : World} {b size safe n : Nat} {dv : Value} {xs : List UInt8} (h : Dw w0 w b size safe dv xs) (hn : n ≤ xs.length) :
    Calls Try.prog 18 #[.pointer (some ⟨b, 0, none⟩), .int .i64 n] w fun e w' => e = .returned (.int .i64 0) ∧ ∃ dv', Dw w0 w' b size (min safe n) dv' (xs.take n) ∧ Kept [b] w w' ∧ dv'.ownBlock = dv.ownBlock := by
  refine (Dk.cut_ok _ _ _ n _ _ _ h.disk hn).mono ?_
  rintro e w' ⟨rfl, v', h1, h2, h3⟩
  exact ⟨rfl, v', ⟨h1, h.lb, by rw [h3]; exact h.ld, Kept.fresh h.k h2 (by simpa using h.lb)⟩, h2, h3⟩
theorem dcrash {w0 w : World} {b size : Nat} {dv : Value} {xs : List UInt8} (k : Int) (h : Dw w0 w b size xs.length dv xs) (hx : xs.length ≤ 1000000000000) :
    Calls Try.prog 20 #[.pointer (some ⟨b, 0, none⟩), .int .i64 k] w fun e w' => e = .returned (.tuple #[]) ∧ ∃ dv', Dw w0 w' b size xs.length dv' xs ∧ Kept [b] w w' ∧ dv'.ownBlock = dv.ownBlock := by
  refine (Dk.crash_any b size xs.length k dv xs w h.disk (Nat.le_refl _) (by omega)).mono ?_
  rintro e w' ⟨rfl, v', h1, h2, h3⟩
  have e1 : Dk.left xs.length xs.length k = xs.length := by unfold Dk.left; omega
  rw [e1, List.take_length] at h1
  exact ⟨rfl, v', ⟨h1, h.lb, by rw [h3]; exact h.ld, Kept.fresh h.k h2 (by simpa using h.lb)⟩, h2, h3⟩
theorem dsafe {w0 w : World} {b size safe : Nat} {dv : Value} {xs : List UInt8} (h : Dw w0 w b size safe dv xs) :
    Calls Try.prog 22 #[.pointer (some ⟨b, 0, none⟩)] w fun e w' => e = .returned (.int .i64 safe) ∧ w = w' := Dk.safe_any _ _ _ _ _ _ h.disk

/-- At a round's head. -/
structure PlW (w0 u : World) (b l n : Nat) (dv rv RV BV : Value) (rs drs : List (Value × List UInt8)) (xs : List UInt8) (dn : Bool) : Prop where
  W : Wl w0 u b l n xs.length dv rv rs xs dn
  D : DocS w0 u b l dv rv rs RV BV drs xs
  eq : drs.map (·.2) = rs.map (·.2)
  xe : xs = encs 0 (rs.map (·.2))
  sm : ∀ x ∈ rs.map (·.2), x.length ≤ 1048576
  fit : xs.length ≤ n
theorem PlW.kept0 {w0 u u' : World} {b l n : Nat} {dv rv RV BV : Value} {rs drs : List (Value × List UInt8)} {xs : List UInt8} {dn : Bool} (h : PlW w0 u b l n dv rv RV BV rs drs xs dn) (hk : Kept [] u u') : PlW w0 u' b l n dv rv RV BV rs drs xs dn :=
  ⟨h.W.kept0 hk, h.D.kept0 hk, h.eq, h.xe, h.sm, h.fit⟩
theorem PlW.len {w0 u : World} {b l n : Nat} {dv rv RV BV : Value} {rs drs : List (Value × List UInt8)} {xs : List UInt8} {dn : Bool} (h : PlW w0 u b l n dv rv RV BV rs drs xs dn) : drs.length = rs.length ∧ 16 * rs.length ≤ xs.length := by
  refine ⟨by have := congrArg List.length h.eq; simpa using this, ?_⟩
  rw [h.xe, encs_len]
  have := rsz_len (rs.map (·.2))
  rwa [List.length_map] at this
/-- Rows made, all the bytes of which may be turned. -/
structure FlI (u0 u : World) (v : Value) (ps : List Value) : Prop where
  k : Kept [] u0 u
  ow : Ow u 22 1 v ps.length ps
  inner : ∀ x ∈ ps, (∃ n ys, Ow u 5 1 x n ys ∧ ∀ y ∈ ys, ∃ z, y = .int .u8 z) ∧ ∀ k, x.ownBlock = some k → u0.heap.size ≤ k
theorem FlI.of {u0 u : World} {v : Value} {ps : List (Value × List UInt8)} (h : RwM u0 v ps u) : FlI u0 u v (ps.map (·.1)) := by
  refine ⟨h.k, by simpa using h.ow, fun x hx => ?_⟩
  obtain ⟨y, hy, rfl⟩ := List.mem_map.1 hx
  exact ⟨⟨_, _, h.inner y hy, fun z hz => by
    obtain ⟨c, _, rfl⟩ := List.mem_map.1 hz
    exact ⟨_, rfl⟩⟩, h.xnew y hy⟩
theorem FlI.kept0 {u0 u u' : World} {v : Value} {ps : List Value} (h : FlI u0 u v ps) (hk : Kept [] u u') : FlI u0 u' v ps := ⟨h.k.then0 hk, h.ow.kept0 hk, fun x hx => by
  obtain ⟨⟨n, ys, h1, h2⟩, h3⟩ := h.inner x hx
  exact ⟨⟨n, ys, h1.kept0 hk, h2⟩, h3⟩⟩
theorem FlI.drew {u0 u : World} {v : Value} {ps : List Value} (h : FlI u0 u v ps) : FlI u0 u.drew v ps := ⟨h.k.drew, h.ow.drew, fun x hx => by
  obtain ⟨⟨n, ys, h1, h2⟩, h3⟩ := h.inner x hx
  exact ⟨⟨n, ys, h1.drew, h2⟩, h3⟩⟩
theorem FlI.turn {u0 u : World} {v x : Value} {ps : List Value} (h : FlI u0 u v ps) (hx : x ∈ ps) {g o : Nat} (hg : x.ownBlock = some g) (z : Int) : FlI u0 (u.setCell ⟨g, o, none⟩ (.int .u8 z)) v ps := by
  obtain ⟨⟨n, ys, h1, h2⟩, h3⟩ := h.inner x hx
  refine ⟨h.k.setCell (.inr (h3 g hg)) _, h.ow.setCell (fun e => h1.ne_ h.ow (by decide) g hg e) _, fun y hy => ?_⟩
  obtain ⟨⟨n', zs, k1, k2⟩, k3⟩ := h.inner y hy
  obtain ⟨xs', t1, t2⟩ := Ow.turn k1 k2 g o z
  exact ⟨⟨n', xs', t1, t2⟩, k3⟩
end Go.Proofs.Ytjdfnhfankcodaa
