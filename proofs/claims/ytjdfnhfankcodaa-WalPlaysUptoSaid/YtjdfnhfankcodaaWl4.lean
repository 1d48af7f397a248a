/-
  The log: rows written.
-/
import Derived.Test.YtjdfnhfankcodaaWl3
namespace Go.Proofs.Ytjdfnhfankcodaa
open Go.RowKit Go.Mem Go.Txt

/-- The bytes of a row. -/
def encR (i : Nat) (body : List UInt8) : List UInt8 := be8 body.length ++ (rsum i body ++ body)
def encs : Nat → List (List UInt8) → List UInt8
  | _, [] => []
  | i, x :: l => encR i x ++ encs (i + 1) l
theorem encR_len (i : Nat) (x : List UInt8) : (encR i x).length = 16 + x.length := by simp [encR, be8_len, rsum_len]; omega
theorem encs_len : ∀ (l : List (List UInt8)) (i : Nat), (encs i l).length = rsz l
  | [], _ => rfl
  | x :: l, i => by rw [encs, rsz, List.length_append, encR_len, encs_len l]
theorem encs_app : ∀ (a b : List (List UInt8)) (i : Nat), encs i (a ++ b) = encs i a ++ encs (i + a.length) b
  | [], _, _ => rfl
  | x :: a, b, i => by simp only [List.cons_append, encs, encs_app a b (i + 1), List.append_assoc, List.length_cons]; rw [show i + 1 + a.length = i + (a.length + 1) from by omega]
theorem encs_succ (l : List (List UInt8)) (i k : Nat) (h : k < l.length) : encs i (l.take (k + 1)) = encs i (l.take k) ++ encR (i + k) l[k] := by
  rw [List.take_succ_eq_append_getElem h, encs_app, List.length_take, Nat.min_eq_left (by omega)]
  simp [encs]
/-- The parts of what is written. -/
structure WriM (w : World) (S : List Nat) (v5 : Value) (ps : List (Value × List UInt8)) (u : World) : Prop where
  k : Kept [] w u
  ow : Ow u 22 1 v5 ps.length (ps.map (·.1))
  new : ∀ k, v5.ownBlock = some k → w.heap.size ≤ k
  inner : ∀ x ∈ ps, Rd u 1 x.1 x.2.length (bv x.2) ∧ (0 < x.2.length → ∀ k, x.1.ownBlock = some k → k ∉ S ∧ v5.ownBlock ≠ some k)
theorem WriM.kept {w u u' : World} {S : List Nat} {v5 : Value} {ps : List (Value × List UInt8)} (h : WriM w S v5 ps u) (hk : Kept [] u u') : WriM w S v5 ps u' :=
  ⟨h.k.then0 hk, h.ow.kept0 hk, h.new, fun x hx => ⟨(h.inner x hx).1.kept0 hk, (h.inner x hx).2⟩⟩
theorem WriM.app {w u u' : World} {S : List Nat} {v5 v' : Value} {ps qs : List (Value × List UInt8)} (h : WriM w S v5 ps u) (ho : Ow u' 22 1 v' (ps.length + qs.length) (ps.map (·.1) ++ qs.map (·.1))) (hk : Kept v5.ownBlock.toList u u') (hf : v'.ownBlock = v5.ownBlock ∨ v'.ownBlock = some u.heap.size)
    (hq : ∀ x ∈ qs, Rd u 1 x.1 x.2.length (bv x.2) ∧ (0 < x.2.length → ∀ k, x.1.ownBlock = some k → k ∉ S ∧ v5.ownBlock ≠ some k)) : WriM w S v' (ps ++ qs) u' := by
  have one : ∀ x : Value × List UInt8, (Rd u 1 x.1 x.2.length (bv x.2) ∧ (0 < x.2.length → ∀ k, x.1.ownBlock = some k → k ∉ S ∧ v5.ownBlock ≠ some k)) → (Rd u' 1 x.1 x.2.length (bv x.2) ∧ (0 < x.2.length → ∀ k, x.1.ownBlock = some k → k ∉ S ∧ v'.ownBlock ≠ some k)) := by
    rintro x ⟨hr, hs⟩
    refine ⟨hr.kept hk fun hn k hk1 hm => (hs hn k hk1).2 (mem_own hm), fun hn k hk1 => ⟨(hs hn k hk1).1, fun e => ?_⟩⟩
    rcases hf with e2 | e2
    · exact (hs hn k hk1).2 (by rw [← e2]; exact e)
    · rw [e2] at e
      cases e
      obtain ⟨b', hb, hlt⟩ := hr.lt (by decide) hn
      rw [hk1] at hb
      cases hb
      omega
  refine ⟨Kept.fresh h.k hk (fun k hm => h.new k (mem_own hm)), ?_, fun k hk1 => ?_, fun x hx => ?_⟩
  · rw [List.length_append, List.map_append]; exact ho
  · rcases hf with e | e
    · exact h.new k (by rw [← e]; exact hk1)
    · rw [e] at hk1; cases hk1; exact h.k.size
  · rcases List.mem_append.1 hx with hx | hx
    · exact one x (h.inner x hx)
    · exact one x (hq x hx)
theorem WriM.parts {w u : World} {S S' : List Nat} {v5 : Value} {ps : List (Value × List UInt8)} (h : WriM w S v5 ps u) (hS : ∀ k ∈ S', k ∈ S) (hw : ∀ k ∈ S', k < w.heap.size) : Dk.Parts u S' v5 ps :=
  ⟨Rd.of_ow h.ow, fun _ k hk hm => by have := h.new k hk; have := hw k hm; omega, fun x hx => ⟨(h.inner x hx).1, fun hn k hk hm => ((h.inner x hx).2 hn k hk).1 (hS k hm)⟩⟩
/-- A row put behind. -/
theorem LgIs.app {u u' : World} {b l : Nat} {rv v' cv : Value} {rs : List (Value × List UInt8)} {body : List UInt8} (h : LgIs u b l rv rs false) (ho : Ow u' 22 1 v' (rs.length + 1) (rs.map (·.1) ++ [cv])) (hk : Kept rv.ownBlock.toList u u') (hc : Ow u 5 1 cv body.length (bv body)) :
    Blk u' l 53 #[.pointer (some ⟨b, 0, none⟩), rv, .bool false] ∧ LgIs (u'.setCell ⟨l, 1, none⟩ v') b l v' (rs ++ [(cv, body)]) false ∧ Kept (l :: rv.ownBlock.toList) u (u'.setCell ⟨l, 1, none⟩ v') := by
  have hb : Blk u' l 53 #[.pointer (some ⟨b, 0, none⟩), rv, .bool false] := h.blk.kept hk (notin_own (h.own.blk_ne h.blk (by decide)))
  have far : ∀ {x : Value} {ys : List UInt8}, Ow u 5 1 x ys.length (bv ys) → ∀ k, x.ownBlock = some k → k ∉ rv.ownBlock.toList := fun hx k hk1 hm => hx.ne_ h.own (by decide) k hk1 (mem_own hm)
  have row : ∀ {x : Value} {ys : List UInt8}, Ow u 5 1 x ys.length (bv ys) → Ow (u'.setCell ⟨l, 1, none⟩ v') 5 1 x ys.length (bv ys) := fun {x ys} hx => (hx.kept hk (far hx)).setCell (p := ⟨l, 1, none⟩) ((hx.kept hk (far hx)).blk_ne hb (by decide)) v'
  refine ⟨hb, ⟨by simpa using (hb.set_ 1 v'), ?_, ?_⟩, ?_⟩
  · have := (ho.setCell (p := ⟨l, 1, none⟩) (ho.blk_ne hb (by decide)) v')
    simpa using this
  · intro x hx
    rcases List.mem_append.1 hx with hx | hx
    · exact row (h.inner x hx)
    · obtain rfl := List.mem_singleton.1 hx
      exact row hc
  · exact (hk.more (S1 := l :: rv.ownBlock.toList) (fun k _ hm => List.mem_cons_of_mem _ hm)).setCell (.inl (by simp)) v'
/-- A log and its disk: all made since w0. -/
structure Wl (w0 w : World) (b l size safe : Nat) (dv rv : Value) (rs : List (Value × List UInt8)) (xs : List UInt8) (down : Bool) : Prop where
  disk : Dk.DiskIs w b size safe dv xs
  lg : LgIs w b l rv rs down
  sep : ∀ x ∈ rs, ∀ k, x.1.ownBlock = some k → dv.ownBlock ≠ some k
  lb : w0.heap.size ≤ b
  ld : ∀ k, dv.ownBlock = some k → w0.heap.size ≤ k
  n : LgNew w0 l rv rs
  k : Kept [] w0 w
/-- The blocks that a log's calls change. -/
def wlS (b l : Nat) (dv rv : Value) : List Nat := b :: l :: (dv.ownBlock.toList ++ rv.ownBlock.toList)
theorem Wl.kept0 {w0 w w' : World} {b l size safe : Nat} {dv rv : Value} {rs : List (Value × List UInt8)} {xs : List UInt8} {down : Bool} (h : Wl w0 w b l size safe dv rv rs xs down) (hk : Kept [] w w') : Wl w0 w' b l size safe dv rv rs xs down :=
  ⟨h.disk.kept0 hk, h.lg.kept0 hk, h.sep, h.lb, h.ld, h.n, h.k.then0 hk⟩
theorem Wl.lt {w0 w : World} {b l size safe : Nat} {dv rv : Value} {rs : List (Value × List UInt8)} {xs : List UInt8} {down : Bool} (h : Wl w0 w b l size safe dv rv rs xs down) : ∀ k ∈ wlS b l dv rv, k < w.heap.size := by
  intro k hk
  simp only [wlS, List.mem_cons, List.mem_append] at hk
  rcases hk with rfl | rfl | hk | hk
  · exact h.disk.blk.lt
  · exact h.lg.blk.lt
  · exact (Ow.of_own h.disk.own).lt (mem_own hk)
  · exact h.lg.own.lt (mem_own hk)
/-- While rows are put behind. -/
structure WriL (w0 w u : World) (b l size safe : Nat) (dv0 dv rv0 rv : Value) (rs rs2 : List (Value × List UInt8)) (xs : List UInt8) : Prop where
  W : Wl w0 u b l size safe dv rv (rs ++ rs2) xs false
  k : Kept (wlS b l dv0 rv0) w u
  nr : Near rv0.ownBlock w.heap.size rv
  rn : ∀ x ∈ rs2, ∀ k, x.1.ownBlock = some k → w.heap.size ≤ k
theorem WriL.kept {w0 w u u' : World} {b l size safe : Nat} {dv0 dv rv0 rv : Value} {rs rs2 : List (Value × List UInt8)} {xs : List UInt8} (h : WriL w0 w u b l size safe dv0 dv rv0 rv rs rs2 xs) (hk : Kept [] u u') : WriL w0 w u' b l size safe dv0 dv rv0 rv rs rs2 xs := ⟨h.W.kept0 hk, h.k.then0 hk, h.nr, h.rn⟩
theorem WriL.app {w0 w u u' : World} {b l size safe : Nat} {dv0 dv rv0 rv v' cv : Value} {rs rs2 : List (Value × List UInt8)} {xs body : List UInt8} (h : WriL w0 w u b l size safe dv0 dv rv0 rv rs rs2 xs) (hw : w0.heap.size ≤ w.heap.size) (ho : Ow u' 22 1 v' ((rs ++ rs2).length + 1) ((rs ++ rs2).map (·.1) ++ [cv])) (hk : Kept rv.ownBlock.toList u u') (hf : v'.ownBlock = rv.ownBlock ∨ v'.ownBlock = some u.heap.size)
    (hc : Ow u 5 1 cv body.length (bv body)) (hn : ∀ k, cv.ownBlock = some k → w.heap.size ≤ k ∧ dv.ownBlock ≠ some k) :
    Blk u' l 53 #[.pointer (some ⟨b, 0, none⟩), rv, .bool false] ∧ WriL w0 w (u'.setCell ⟨l, 1, none⟩ v') b l size safe dv0 dv rv0 v' rs (rs2 ++ [(cv, body)]) xs := by
  obtain ⟨h1, h2, h3⟩ := h.W.lg.app ho hk hc
  have hd : ∀ k, dv.ownBlock = some k → k ∉ l :: rv.ownBlock.toList := fun k hk1 hm => by
    rcases List.mem_cons.1 hm with rfl | hm
    · exact (Ow.of_own h.W.disk.own).blk_ne h.W.lg.blk (by decide) hk1
    · exact (Ow.of_own h.W.disk.own).ne_ h.W.lg.own (by decide) k hk1 (mem_own hm)
  have hbm : b ∉ l :: rv.ownBlock.toList := fun hm => by
    rcases List.mem_cons.1 hm with e | hm
    · exact h.W.disk.blk.ne_ h.W.lg.blk (by decide) e
    · exact h.W.lg.own.blk_ne h.W.disk.blk (by decide) (mem_own hm)
  have hsz := h.k.size
  have nr' := h.nr.step hf hsz
  refine ⟨h1, ⟨h.W.disk.kept h3 hbm hd, by rw [← List.append_assoc]; exact h2, ?_, h.W.lb, h.W.ld, ⟨h.W.n.ll, ?_, ?_⟩, ?_⟩, ?_, nr', ?_⟩
  · intro x hx
    rw [← List.append_assoc] at hx
    rcases List.mem_append.1 hx with hx | hx
    · exact h.W.sep x hx
    · obtain rfl := List.mem_singleton.1 hx
      exact fun k hk1 => (hn k hk1).2
  · intro k hk1
    rcases hf with e | e
    · exact h.W.n.lr k (by rw [← e]; exact hk1)
    · rw [e] at hk1; cases hk1; omega
  · intro x hx k hk1
    rw [← List.append_assoc] at hx
    rcases List.mem_append.1 hx with hx | hx
    · exact h.W.n.lx x hx k hk1
    · obtain rfl := List.mem_singleton.1 hx
      have := (hn k hk1).1
      omega
  · exact Kept.fresh h.W.k h3 (fun k hm => by
      rcases List.mem_cons.1 hm with rfl | hm
      · exact h.W.n.ll
      · exact h.W.n.lr k (mem_own hm))
  · refine h.k.trans h3 (fun _ _ hm => hm) (fun k hlt hm => ?_)
    rcases List.mem_cons.1 hm with rfl | hm
    · simp [wlS]
    · have := h.nr.mem k hlt hm
      simp only [wlS, List.mem_cons, List.mem_append]
      exact .inr (.inr (.inr this))
  · intro x hx
    rcases List.mem_append.1 hx with hx | hx
    · exact h.rn x hx
    · obtain rfl := List.mem_singleton.1 hx
      exact fun k hk1 => (hn k hk1).1
end Go.Proofs.Ytjdfnhfankcodaa
