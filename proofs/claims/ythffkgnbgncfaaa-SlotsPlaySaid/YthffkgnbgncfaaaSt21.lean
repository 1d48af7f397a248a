/-
  Slots: what the walk of SlotsOrder calls.
-/
import Derived.Test.YthffkgnbgncfaaaSt20
namespace Go.Proofs.Ythffkgnbgncfaaa
open Go.RowKit Go.Mem Go.Txt

section
variable {P : Program} {w : World} {ops : Array Oper} {rest : List Oper} {o : Oper} {a : Act} {Q : Exit → Act → World → Prop}
/-- min of two numbers. -/
theorem wpl_min (hgd : Region.wanted o (yielded ops a.tmps) = true) (d x : Operand) {t1 t2 : TypeId} (ho : o.op = .call { callee := .builtin .min, args := #[d, x], argTypes := #[t1, t2] }) {q : IntKind} {i j m : Int} (hd : a.eval d = .int q i) (hx : a.eval x = .int q j)
    (hm : m = if j < i then j else i) (h : wpList P ops Q rest (a.put o.dst (.int q m)) w) : wpList P ops Q (o :: rest) a w := by
  refine wpl_wanted hgd fun K hK => ?_
  have hrun : (Builtin.min_ #[t1, t2] o.type #[.int q i, .int q j]).run P w = .ok (.int q m) w := by
    subst hm
    unfold Builtin.min_
    simp only [List.foldlM_cons, List.foldlM_nil, Builtin.min2]
    simp
  unfold Oper.wp execOp
  simp only [ho, resolve, invoke, builtin, Sem.run_bind, Sem.run_pure, Result.andThen_ok, List.map_toArray, List.map_cons, List.map_nil, hd, hx, hrun]
  exact hK _ _ h
end
section
variable {w : World} {ops : Array Oper} {rest : List Oper} {o : Oper} {a : Act} {Q : Exit → Act → World → Prop}
theorem wpl_at {P : Program} (d : Nat) {op : Op} {t : TypeId} {p : String} {af : Array Edge} {g : Option (Nat × Bool)} (h : wpList P ops Q (⟨some d, op, t, p, af, g⟩ :: rest) a w) : wpList P ops Q (⟨some d, op, t, p, af, g⟩ :: rest) a w := h
theorem wpl_exec {P : Program} {v : Value} (hgd : Region.wanted o (yielded ops a.tmps) = true) (he : (execOp a.eval o).run P w = .ok (.value v) w) (h : wpList P ops Q rest (a.put o.dst v) w) : wpList P ops Q (o :: rest) a w := by
  refine wpl_wanted hgd fun K hK => ?_
  unfold Oper.wp
  rw [he]
  exact hK _ _ h
end
theorem eg64 : Try.prog.eqGuardType Try.prog.depth 31 = false := by kernel_rfl
theorem up_of {l : List Vt} (h : l.Pairwise fun x y => x.fr < y.fr) {t : Nat} (h1 : t < l.length) (h2 : t + 1 < l.length) : l[t].fr < l[t + 1].fr := List.pairwise_iff_getElem.1 h t (t + 1) h1 h2 (by omega)
theorem shs_len {l : List Vt} (h : ∀ v ∈ l, v.ok) : (shs l).length = l.length * 65 := by
  induction l with
  | nil => rfl
  | cons a l ih => rw [shs, List.flatMap_cons, List.length_append, shc_len (h a (by simp)), ih fun v hv => h v (by simp [hv]), List.length_cons]; omega
theorem shs_split {l : List Vt} (i : Nat) (hi : i < l.length) : shs l = shs (l.take i) ++ (shc l[i] ++ shs (l.drop (i + 1))) := by
  have : l = l.take i ++ (l[i] :: l.drop (i + 1)) := by rw [← List.drop_eq_getElem_cons hi, List.take_append_drop]
  rw [shs, shs, shs, ← List.flatMap_cons, ← List.flatMap_append, ← this]
theorem share_rng {w : World} {l : List Vt} {g o c : Nat} (h : Rd w 65 (.slice (some ⟨g, o, none⟩) l.length c) l.length (shs l)) (hok : ∀ v ∈ l, v.ok) {i : Nat} (hi : i < l.length) : w.rangeAt g (o + i * 65) (shc l[i]) := by
  refine h.elem (pre := shs (l.take i)) (post := shs (l.drop (i + 1))) (shs_split i hi) ?_ (by omega)
  rw [shs_len fun v hv => hok v (List.mem_of_mem_take hv), List.length_take, Nat.min_eq_left (by omega)]
theorem share_fr {w : World} {g o : Nat} {v : Vt} (h : w.rangeAt g o (shc v)) : w.cell? ⟨g, o, none⟩ = some (.int .i64 v.fr) := h 0 _ rfl
theorem share_sig {w : World} {g o : Nat} {v : Vt} (h : w.rangeAt g o (shc v)) : w.rangeAt g (o + 1) (bv v.s) := fun j u hj => by
  have := h (j + 1) u (by simpa [shc] using hj)
  rwa [show o + (j + 1) = o + 1 + j from by omega] at this
section
variable {w0 u u' : World} {k g1 g2 n : Nat} {a : List UInt8} {L1 L2 : List Vt}
theorem ord_add1 {i : Nat} (hk : k ≤ 2) (hi : i ≤ 3 * k) (T : T2 w0 u k g1 (LL a i) g2 L2) :
    Calls Try.prog 8 #[.pointer (some ⟨g1, 0, none⟩), .int .i64 (i : Int), .int .i64 4, ab (hv (xb a i)), ab (sv (UInt8.ofNat i))] u fun e w' => e = .returned (.bool true) ∧ T2 w0 w' k g1 (LL a (i + 1)) g2 L2 := by
  obtain ⟨h1, h2⟩ := LL_step a hi
  have := T.add1 (by omega) (zv_ok a i) (by rw [LL_len]; omega)
  rw [h1, h2] at this
  exact this
theorem ord_add2 {i : Nat} (hk : k ≤ 2) (hi : i < n) (hn : n ≤ 3 * k + 1) (T : T2 w0 u k g1 L1 g2 (RR a n i)) :
    Calls Try.prog 8 #[.pointer (some ⟨g2, 0, none⟩), .int .i64 ((n - 1 - i : Nat) : Int), .int .i64 4, ab (hv (xb a (n - 1 - i))), ab (sv (UInt8.ofNat (n - 1 - i)))] u fun e w' => e = .returned (.bool true) ∧ T2 w0 w' k g1 L1 g2 (RR a n (i + 1)) := by
  obtain ⟨h1, h2⟩ := RR_step a (k := k) hi hn
  have := T.add2 (by omega) (zv_ok a (n - 1 - i)) (by unfold RR; rw [List.length_map, List.length_range']; omega)
  rw [h1, h2] at this
  exact this
theorem ord_ofs (hk : k ≤ 2) (hn : n ≤ 3 * k + 1) (T : T2 w0 u k g1 (LL a n) g2 L2) : Ofs u (.pointer (some ⟨g1, 0, none⟩)) 4 (LL a n) := by
  have F := T.ofs1 (by omega) (LL_in a hn) 4
  rwa [LL_of] at F
theorem ord_shs1 (hk : k ≤ 2) (hn : n ≤ 3 * k + 1) (b : Nat) (T : T2 w0 u k g1 (LL a n) g2 L2) :
    Calls Try.prog 10 #[.pointer (some ⟨g1, 0, none⟩), .int .i64 4, ab (hv (UInt8.ofNat b))] u fun e w' => ∃ A c, e = .returned (.slice A (SS a n b).length c) ∧ Rd w' 65 (.slice A (SS a n b).length c) (SS a n b).length (shs (SS a n b)) ∧ Kept [] u w' ∧ T2 w0 w' k g1 (LL a n) g2 L2 := by
  refine (shares_any (ord_ofs hk hn T) (hv_len _)).mono ?_
  rintro e w' ⟨v, rfl, o, kk, _⟩
  obtain ⟨A, c, rfl, _⟩ := o.shape
  exact ⟨A, c, rfl, Rd.of_ow o, kk, T.kept kk⟩
theorem ord_shs2 (hk : k ≤ 2) (hn : n ≤ 3 * k + 1) (b : Nat) (T : T2 w0 u k g1 L1 g2 (LL a n)) :
    Calls Try.prog 10 #[.pointer (some ⟨g2, 0, none⟩), .int .i64 4, ab (hv (UInt8.ofNat b))] u fun e w' => ∃ A c, e = .returned (.slice A (SS a n b).length c) ∧ Rd w' 65 (.slice A (SS a n b).length c) (SS a n b).length (shs (SS a n b)) ∧ Kept [] u w' ∧ T2 w0 w' k g1 L1 g2 (LL a n) := by
  refine (ord_shs1 hk hn b T.symm).mono ?_
  rintro e w' ⟨A, c, rfl, o, kk, t⟩
  exact ⟨A, c, rfl, o, kk, t.symm⟩
theorem ord_best1 (hk : k ≤ 2) (hn : n ≤ 3 * k + 1) (T : T2 w0 u k g1 (LL a n) g2 L2) :
    Calls Try.prog 9 #[.pointer (some ⟨g1, 0, none⟩), .int .i64 4] u fun e w' => e = .returned (.tuple #[ab (bst (LL a n) (LL a n).length).1, .int .i64 ((bst (LL a n) (LL a n).length).2 : Nat)]) ∧ T2 w0 w' k g1 (LL a n) g2 L2 ∧ Kept [] u w' := by
  refine (best_any (ord_ofs hk hn T)).mono ?_
  rintro e w' ⟨rfl, kk⟩
  exact ⟨rfl, T.kept kk, kk⟩
theorem ord_best2 (hk : k ≤ 2) (hn : n ≤ 3 * k + 1) (T : T2 w0 u k g1 L1 g2 (LL a n)) :
    Calls Try.prog 9 #[.pointer (some ⟨g2, 0, none⟩), .int .i64 4] u fun e w' => e = .returned (.tuple #[ab (bst (LL a n) (LL a n).length).1, .int .i64 ((bst (LL a n) (LL a n).length).2 : Nat)]) ∧ T2 w0 w' k g1 L1 g2 (LL a n) ∧ Kept [] u w' := by
  refine (ord_best1 hk hn T.symm).mono ?_
  rintro e w' ⟨rfl, t, kk⟩
  exact ⟨rfl, t.symm, kk⟩
theorem ord_best_len (a : List UInt8) (n : Nat) : (bst (LL a n) (LL a n).length).1.length = 32 := bst_len (fun v hv => by obtain ⟨i, _, rfl⟩ := LL_mem hv; exact zv_ok a i) _ (Nat.le_refl _)
theorem ord_count (hk : k ≤ 2) (hn : n ≤ 3 * k + 1) (T : T2 w0 u k g1 (LL a n) g2 L2) :
    Calls Try.prog 11 #[.pointer (some ⟨g1, 0, none⟩), .int .i64 5, ab (noughts 32)] u fun e w' => e = .returned (.int .i64 0) ∧ T2 w0 w' k g1 (LL a n) g2 L2 := by
  have F := T.ofs1 (by omega) (LL_in a hn) 5
  rw [LL_of5] at F
  refine (count_any F (by simp)).mono ?_
  rintro e w' ⟨rfl, kk⟩
  exact ⟨rfl, T.kept kk⟩
theorem hs_built : Try.prog.built 30 [] = some (bv (noughts 32)).toArray := by kernel_rfl
/-- What the rounds over shares know. -/
structure OrS (w0 : World) (k g1 g2 : Nat) (L : List Vt) (v1 v2 : Value) (S : List Vt) (u : World) : Prop where
  t : T2 w0 u k g1 L g2 L
  x : Rd u 65 v1 S.length (shs S)
  y : Rd u 65 v2 S.length (shs S)
theorem OrS.kept {L S : List Vt} {v1 v2 : Value} (h : OrS w0 k g1 g2 L v1 v2 S u) (hk : Kept [] u u') : OrS w0 k g1 g2 L v1 v2 S u' := ⟨h.t.kept hk, h.x.kept0 hk, h.y.kept0 hk⟩
end
end Go.Proofs.Ythffkgnbgncfaaa
