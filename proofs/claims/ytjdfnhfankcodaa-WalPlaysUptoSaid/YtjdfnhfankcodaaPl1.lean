/-
  The log: the document's rows and bytes beside it, for WalPlays.
-/
import Derived.Test.YtjdfnhfankcodaaWl13
import Derived.Test.YtjdfnhfankcodaaDg8
namespace Go.Proofs.Ytjdfnhfankcodaa
open Go.RowKit Go.Mem Go.Txt

/-- The document's rows and bytes, apart from the log's. -/
structure DocS (w0 u : World) (b l : Nat) (dv rv : Value) (rs : List (Value × List UInt8)) (RV BV : Value) (drs : List (Value × List UInt8)) (xs : List UInt8) : Prop where
  ro : Ow u 22 1 RV drs.length (drs.map (·.1))
  ri : ∀ x ∈ drs, Rd u 1 x.1 x.2.length (bv x.2)
  bo : Ow u 5 1 BV xs.length (bv xs)
  nR : ∀ k, RV.ownBlock = some k → w0.heap.size ≤ k ∧ k ∉ wlS b l dv rv
  nB : ∀ k, BV.ownBlock = some k → w0.heap.size ≤ k ∧ k ∉ wlS b l dv rv ∧ ∀ x ∈ rs, x.1.ownBlock ≠ some k
  nx : ∀ x ∈ drs, 0 < x.2.length → ∀ k, x.1.ownBlock = some k → k ∉ wlS b l dv rv ∧ RV.ownBlock ≠ some k ∧ BV.ownBlock ≠ some k
section
variable {w0 u u' : World} {b l n safe : Nat} {dv rv RV BV : Value} {rs drs : List (Value × List UInt8)} {xs ys : List UInt8} {dn : Bool}

theorem DocS.kept0 (h : DocS w0 u b l dv rv rs RV BV drs xs) (hk : Kept [] u u') : DocS w0 u' b l dv rv rs RV BV drs xs :=
  ⟨h.ro.kept0 hk, fun x hx => (h.ri x hx).kept0 hk, h.bo.kept0 hk, h.nR, h.nB, h.nx⟩
theorem mem_wlS {b l : Nat} {dv rv : Value} {k : Nat} : k ∈ wlS b l dv rv ↔ k = b ∨ k = l ∨ dv.ownBlock = some k ∨ rv.ownBlock = some k := by
  simp only [wlS, List.mem_cons, List.mem_append, Option.mem_toList]
theorem rd_lt {v : Value} {bs : List UInt8} (h : Rd u 1 v bs.length (bv bs)) (hn : 0 < bs.length) {k : Nat} (hk : v.ownBlock = some k) : k < u.heap.size := by
  obtain ⟨g, hg, hl⟩ := h.lt (by decide) hn
  rw [hk] at hg
  cases hg
  exact hl
/-- Rows put behind the document's. -/
theorem DocS.rows {bs : List (Value × List UInt8)} {v' : Value} (h : DocS w0 u b l dv rv rs RV BV drs xs) (ho : Ow u' 22 1 v' (drs.length + bs.length) (drs.map (·.1) ++ bs.map (·.1))) (hk : Kept RV.ownBlock.toList u u') (hf : v'.ownBlock = RV.ownBlock ∨ v'.ownBlock = some u.heap.size)
    (hw : w0.heap.size ≤ u.heap.size) (hlt : ∀ k ∈ wlS b l dv rv, k < u.heap.size) (hb : ∀ x ∈ bs, Rd u 1 x.1 x.2.length (bv x.2)) (hbn : ∀ x ∈ bs, 0 < x.2.length → ∀ k, x.1.ownBlock = some k → k ∉ wlS b l dv rv ∧ RV.ownBlock ≠ some k ∧ BV.ownBlock ≠ some k) :
    DocS w0 u' b l dv rv rs v' BV (drs ++ bs) xs := by
  have far : ∀ x ∈ drs ++ bs, Rd u 1 x.1 x.2.length (bv x.2) ∧ (0 < x.2.length → ∀ k, x.1.ownBlock = some k → k ∉ wlS b l dv rv ∧ RV.ownBlock ≠ some k ∧ BV.ownBlock ≠ some k) := fun x hx => by
    rcases List.mem_append.1 hx with hx | hx
    · exact ⟨h.ri x hx, h.nx x hx⟩
    · exact ⟨hb x hx, hbn x hx⟩
  refine ⟨by simpa using ho, fun x hx => (far x hx).1.kept hk (fun hn k hk1 hm => ((far x hx).2 hn k hk1).2.1 (mem_own hm)), h.bo.kept hk (fun k hk1 hm => h.bo.ne_ h.ro (by decide) k hk1 (mem_own hm)), fun k hk1 => ?_, h.nB, fun x hx hn k hk1 => ?_⟩
  · rcases hf with e | e
    · exact h.nR k (by rw [← e]; exact hk1)
    · rw [e] at hk1; cases hk1
      exact ⟨hw, fun hm => Nat.lt_irrefl _ (hlt _ hm)⟩
  · obtain ⟨a1, a2, a3⟩ := (far x hx).2 hn k hk1
    refine ⟨a1, fun e1 => ?_, a3⟩
    rcases hf with e | e
    · exact a2 (by rw [← e]; exact e1)
    · rw [e] at e1; cases e1
      exact Nat.lt_irrefl _ (rd_lt (far x hx).1 hn hk1)
/-- Bytes put behind the document's. -/
theorem DocS.bytes {v' : Value} (h : DocS w0 u b l dv rv rs RV BV drs xs) (ho : Ow u' 5 1 v' (xs ++ ys).length (bv (xs ++ ys))) (hk : Kept BV.ownBlock.toList u u') (hf : v'.ownBlock = BV.ownBlock ∨ v'.ownBlock = some u.heap.size)
    (hw : w0.heap.size ≤ u.heap.size) (hlt : ∀ k ∈ wlS b l dv rv, k < u.heap.size) (hrs : ∀ x ∈ rs, ∀ k, x.1.ownBlock = some k → k < u.heap.size) :
    DocS w0 u' b l dv rv rs RV v' drs (xs ++ ys) := by
  refine ⟨h.ro.kept hk (fun k hk1 hm => h.ro.ne_ h.bo (by decide) k hk1 (mem_own hm)), fun x hx => (h.ri x hx).kept hk (fun hn k hk1 hm => (h.nx x hx hn k hk1).2.2 (mem_own hm)), ho, h.nR, fun k hk1 => ?_, fun x hx hn k hk1 => ?_⟩
  · rcases hf with e | e
    · exact h.nB k (by rw [← e]; exact hk1)
    · rw [e] at hk1; cases hk1
      exact ⟨hw, fun hm => Nat.lt_irrefl _ (hlt _ hm), fun x hx e => Nat.lt_irrefl _ (hrs x hx _ e)⟩
  · obtain ⟨a1, a2, a3⟩ := h.nx x hx hn k hk1
    refine ⟨a1, a2, fun e1 => ?_⟩
    rcases hf with e | e
    · exact a3 (by rw [← e]; exact e1)
    · rw [e] at e1; cases e1
      exact Nat.lt_irrefl _ (rd_lt (h.ri x hx) hn hk1)
/-- The log's calls change their own. -/
theorem DocS.log {dv' rv' : Value} {rs' : List (Value × List UInt8)} (h : DocS w0 u b l dv rv rs RV BV drs xs) (hk : Kept (wlS b l dv rv) u u') (hd : Near dv.ownBlock u.heap.size dv') (hr : Near rv.ownBlock u.heap.size rv') (hrs : ∀ x ∈ rs', ∀ k, x.1.ownBlock = some k → u.heap.size ≤ k ∨ ∃ y ∈ rs, y.1.ownBlock = some k) :
    DocS w0 u' b l dv' rv' rs' RV BV drs xs := by
  have low : ∀ k, k < u.heap.size → k ∉ wlS b l dv rv → k ∉ wlS b l dv' rv' := fun k hl hn hm => by
    rw [mem_wlS] at hm hn
    rcases hm with rfl | rfl | hm | hm
    · exact hn (.inl rfl)
    · exact hn (.inr (.inl rfl))
    · rcases hd with e | ⟨g, e, hg⟩
      · exact hn (.inr (.inr (.inl (by rw [← e]; exact hm))))
      · rw [e] at hm; cases hm; omega
    · rcases hr with e | ⟨g, e, hg⟩
      · exact hn (.inr (.inr (.inr (by rw [← e]; exact hm))))
      · rw [e] at hm; cases hm; omega
  refine ⟨h.ro.kept hk (fun k hk1 => (h.nR k hk1).2), fun x hx => (h.ri x hx).kept hk (fun hn k hk1 => (h.nx x hx hn k hk1).1), h.bo.kept hk (fun k hk1 => (h.nB k hk1).2.1), fun k hk1 => ⟨(h.nR k hk1).1, low k (h.ro.lt hk1) (h.nR k hk1).2⟩, fun k hk1 => ⟨(h.nB k hk1).1, low k (h.bo.lt hk1) (h.nB k hk1).2.1, fun x hx e => ?_⟩, fun x hx hn k hk1 => ⟨low k (rd_lt (h.ri x hx) hn hk1) (h.nx x hx hn k hk1).1, (h.nx x hx hn k hk1).2⟩⟩
  rcases hrs x hx k e with hl | ⟨y, hy, e2⟩
  · have := h.bo.lt hk1; omega
  · exact (h.nB k hk1).2.2 y hy e2
/-- A new log over the same disk. -/
theorem DocS.opened {l' : Nat} {dv' rv' : Value} {rs' : List (Value × List UInt8)} (h : DocS w0 u b l dv rv rs RV BV drs xs) (hk : Kept [b] u u') (hd : dv'.ownBlock = dv.ownBlock) (hl : u.heap.size ≤ l') (hr : ∀ k, rv'.ownBlock = some k → u.heap.size ≤ k) (hrs : ∀ x ∈ rs', ∀ k, x.1.ownBlock = some k → u.heap.size ≤ k) :
    DocS w0 u' b l' dv' rv' rs' RV BV drs xs := by
  have low : ∀ k, k < u.heap.size → k ∉ wlS b l dv rv → k ∉ wlS b l' dv' rv' := fun k hlt hn hm => by
    rw [mem_wlS] at hm hn
    rcases hm with rfl | rfl | hm | hm
    · exact hn (.inl rfl)
    · omega
    · exact hn (.inr (.inr (.inl (by rw [← hd]; exact hm))))
    · have := hr k hm; omega
  have nb : ∀ k, k ∉ wlS b l dv rv → k ∉ [b] := fun k hn hm => hn (by rw [List.mem_singleton.1 hm]; exact mem_wlS.2 (.inl rfl))
  refine ⟨h.ro.kept hk (fun k hk1 => nb k (h.nR k hk1).2), fun x hx => (h.ri x hx).kept hk (fun hn k hk1 => nb k (h.nx x hx hn k hk1).1), h.bo.kept hk (fun k hk1 => nb k (h.nB k hk1).2.1), fun k hk1 => ⟨(h.nR k hk1).1, low k (h.ro.lt hk1) (h.nR k hk1).2⟩, fun k hk1 => ⟨(h.nB k hk1).1, low k (h.bo.lt hk1) (h.nB k hk1).2.1, fun x hx e => ?_⟩, fun x hx hn k hk1 => ⟨low k (rd_lt (h.ri x hx) hn hk1) (h.nx x hx hn k hk1).1, (h.nx x hx hn k hk1).2⟩⟩
  have := h.bo.lt hk1
  have := hrs x hx k e
  omega
/-- The document's rows read anew. -/
theorem DocS.says {RV' BV' : Value} {drs' : List (Value × List UInt8)} {zs : List UInt8} (h : DocS w0 u b l dv rv rs RV BV drs xs) (hM : DcM u RV' drs' u') (hw : w0.heap.size ≤ u.heap.size) (hlt : ∀ k ∈ wlS b l dv rv, k < u.heap.size) (hb : Ow u' 5 1 BV' zs.length (bv zs)) (hB : ∀ k, BV'.ownBlock = some k → BV.ownBlock = some k) :
    DocS w0 u' b l dv rv rs RV' BV' drs' zs := by
  refine ⟨hM.own, fun x hx => Rd.of_ow (hM.inner x hx), hb, fun k hk1 => ⟨Nat.le_trans hw (hM.lr k hk1), fun hm => ?_⟩, fun k hk1 => h.nB k (hB k hk1), fun x hx hn k hk1 => ⟨fun hm => ?_, (hM.inner x hx).ne_ hM.own (by decide) k hk1, fun e => ?_⟩⟩
  · have := hM.lr k hk1; have := hlt k hm; omega
  · have := hM.lx x hx k hk1; have := hlt k hm; omega
  · have := hM.lx x hx k hk1; have := h.bo.lt (hB k e); omega
/-- The log while the document's rows change. -/
theorem Wl.docR (hW : Wl w0 u b l n safe dv rv rs ys dn) (h : DocS w0 u b l dv rv rs RV BV drs xs) (hk : Kept RV.ownBlock.toList u u') : Wl w0 u' b l n safe dv rv rs ys dn := by
  have nS : ∀ k, k ∈ wlS b l dv rv → k ∉ RV.ownBlock.toList := fun k hm hm2 => (h.nR k (mem_own hm2)).2 hm
  refine ⟨hW.disk.kept hk (nS _ (mem_wlS.2 (.inl rfl))) (fun k hk1 => nS k (mem_wlS.2 (.inr (.inr (.inl hk1))))), hW.lg.kept hk (nS _ (mem_wlS.2 (.inr (.inl rfl)))) (fun k hk1 => nS k (mem_wlS.2 (.inr (.inr (.inr hk1))))) (fun x hx k hk1 hm => (hW.lg.inner x hx).ne_ h.ro (by decide) k hk1 (mem_own hm)), hW.sep, hW.lb, hW.ld, hW.n, Kept.fresh hW.k hk (fun k hm => (h.nR k (mem_own hm)).1)⟩
theorem Wl.docB (hW : Wl w0 u b l n safe dv rv rs ys dn) (h : DocS w0 u b l dv rv rs RV BV drs xs) (hk : Kept BV.ownBlock.toList u u') : Wl w0 u' b l n safe dv rv rs ys dn := by
  have nS : ∀ k, k ∈ wlS b l dv rv → k ∉ BV.ownBlock.toList := fun k hm hm2 => (h.nB k (mem_own hm2)).2.1 hm
  refine ⟨hW.disk.kept hk (nS _ (mem_wlS.2 (.inl rfl))) (fun k hk1 => nS k (mem_wlS.2 (.inr (.inr (.inl hk1))))), hW.lg.kept hk (nS _ (mem_wlS.2 (.inr (.inl rfl)))) (fun k hk1 => nS k (mem_wlS.2 (.inr (.inr (.inr hk1))))) (fun x hx k hk1 hm => (h.nB k (mem_own hm)).2.2 x hx hk1), hW.sep, hW.lb, hW.ld, hW.n, Kept.fresh hW.k hk (fun k hm => (h.nB k (mem_own hm)).1)⟩
end
end Go.Proofs.Ytjdfnhfankcodaa
