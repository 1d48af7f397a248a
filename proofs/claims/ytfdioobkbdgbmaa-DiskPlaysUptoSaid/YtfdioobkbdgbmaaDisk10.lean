/-
  A disk answers every script of calls (DiskPlays): words for both disks at once.
-/
import Derived.Test.YtfdioobkbdgbmaaDisk9
import Derived.Test.YtfdioobkbdgbmaaText4
import Derived.Test.YtfdioobkbdgbmaaMem4
import Derived.Deep.DeepCutAuto
import Derived.Deep.LoopGhost
import Derived.Deep.CutBlock
namespace Go.Proofs.Ytfdioobkbdgbmaa
open Go.RowKit Go.Mem

/-- Both disks, newer than w1. -/
structure Both (w1 w : World) (b r size safe : Nat) (v rv : Value) (xs : List UInt8) (L : List (UInt8 × Bool)) : Prop where
  dsk : DiskIs w b size safe v xs
  rf : RefIs w r size rv L
  nb : w1.heap.size ≤ b
  nr : w1.heap.size ≤ r
  nv : ∀ k, v.ownBlock = some k → w1.heap.size ≤ k
  nrv : ∀ k, rv.ownBlock = some k → w1.heap.size ≤ k
  kept : Kept [] w1 w

section
variable {w1 w w' : World} {b r size safe : Nat} {v rv : Value} {xs : List UInt8} {L : List (UInt8 × Bool)}

theorem disk_far (hd : DiskIs w b size safe v xs) (hr : RefIs w r size rv L) (hk : Kept (b :: v.ownBlock.toList) w w') : RefIs w' r size rv L := by
  refine hr.kept hk (fun hm => ?_) (fun k hkk hm => ?_)
  · rcases List.mem_cons.1 hm with h | h
    · exact Blk.ne_ hr.blk hd.blk (by decide) h
    · exact own_blk_ne hd.own hr.blk (by decide) (mem_own h)
  · rcases List.mem_cons.1 hm with h | h
    · subst h; exact hr.own.blk_ne hd.blk (by decide) hkk
    · exact hr.own.ne_ (Ow.of_own hd.own) (by decide) k hkk (mem_own h)
theorem ref_far (hd : DiskIs w b size safe v xs) (hr : RefIs w r size rv L) (hk : Kept (r :: rv.ownBlock.toList) w w') : DiskIs w' b size safe v xs := by
  refine hd.kept hk (fun hm => ?_) (fun k hkk hm => ?_)
  · rcases List.mem_cons.1 hm with h | h
    · exact Blk.ne_ hd.blk hr.blk (by decide) h
    · exact hr.own.blk_ne hd.blk (by decide) (mem_own h)
  · rcases List.mem_cons.1 hm with h | h
    · subst h; exact own_blk_ne hd.own hr.blk (by decide) hkk
    · exact (Ow.of_own hd.own).ne_ hr.own (by decide) k hkk (mem_own h)

theorem Both.then0 (h : Both w1 w b r size safe v rv xs L) (hk : Kept [] w w') : Both w1 w' b r size safe v rv xs L :=
  ⟨h.dsk.kept hk (by simp) (by simp), h.rf.kept hk (by simp) (by simp), h.nb, h.nr, h.nv, h.nrv, h.kept.then0 hk⟩
theorem Both.dstep {safe' : Nat} {v' : Value} {xs' : List UInt8} (h : Both w1 w b r size safe v rv xs L) (hk : Kept (b :: v.ownBlock.toList) w w') (hd : DiskIs w' b size safe' v' xs') (hn : Near v.ownBlock w.heap.size v') : Both w1 w' b r size safe' v' rv xs' L :=
  ⟨hd, disk_far h.dsk h.rf hk, h.nb, h.nr, newer h.nv hn h.kept.size, h.nrv, Kept.fresh h.kept hk (by intro k hm; rcases List.mem_cons.1 hm with rfl | hm; exact h.nb; exact h.nv k (mem_own hm))⟩
theorem Both.rstep {rv' : Value} {L' : List (UInt8 × Bool)} (h : Both w1 w b r size safe v rv xs L) (hk : Kept (r :: rv.ownBlock.toList) w w') (hr : RefIs w' r size rv' L') (hn : Near rv.ownBlock w.heap.size rv' ∨ Near none w.heap.size rv') : Both w1 w' b r size safe v rv' xs L' := by
  refine ⟨ref_far h.dsk h.rf hk, hr, h.nb, h.nr, h.nv, ?_, Kept.fresh h.kept hk (by intro k hm; rcases List.mem_cons.1 hm with rfl | hm; exact h.nr; exact h.nrv k (mem_own hm))⟩
  rcases hn with hn | hn
  · exact newer h.nrv hn h.kept.size
  · exact newer (v := .slice none 0 0) (by simp [Value.ownBlock]) hn h.kept.size

/-- Blocks of other types are as they were. -/
def Others (w w' : World) : Prop := ∀ g t cs, t ≠ 48 → t ≠ 5 → t ≠ 37 → t ≠ 51 → Blk w g t cs → Blk w' g t cs
theorem others_d (hd : DiskIs w b size safe v xs) (hk : Kept (b :: v.ownBlock.toList) w w') : Others w w' := by
  intro g t cs h1 h2 _ _ hb
  refine hb.kept hk (fun hm => ?_)
  rcases List.mem_cons.1 hm with h | h
  · exact Blk.ne_ hb hd.blk h1 h
  · exact own_blk_ne hd.own hb (fun e => h2 e.symm) (mem_own h)
theorem others_0 (hk : Kept [] w w') : Others w w' := fun _ _ _ _ _ _ _ hb => hb.kept hk (by simp)
theorem Others.alloc {o : Obj} (h : Others (w.alloc o) w') : Others w w' := fun g t cs h1 h2 h3 h4 hb => h g t cs h1 h2 h3 h4 (hb.alloc o)

theorem b_dsync (h : Both w1 w b r size safe v rv xs L) : Calls Try.prog 9 #[.pointer (some ⟨b, 0, none⟩)] w fun e w' => e = .returned (.tuple #[]) ∧ Both w1 w' b r size xs.length v rv xs L := by
  refine (sync_any _ _ _ _ _ _ h.dsk).mono ?_
  rintro e w' ⟨rfl, h1, h2⟩
  exact ⟨rfl, h.dstep (h2.more (fun _ _ hm => List.mem_cons.2 (.inl (by simpa using hm)))) h1 (Near.refl _ _)⟩
theorem b_dcrash (k : Int) (h : Both w1 w b r size safe v rv xs L) (hs : safe ≤ xs.length) (hx : xs.length ≤ 9223372036854775807) : Calls Try.prog 10 #[.pointer (some ⟨b, 0, none⟩), .int .i64 k] w fun e w' => e = .returned (.tuple #[]) ∧
    ∃ v', Both w1 w' b r size (left xs.length safe k) v' rv (xs.take (left xs.length safe k)) L ∧ Others w w' := by
  refine (crash_any _ _ _ k _ _ _ h.dsk hs hx).mono ?_
  rintro e w' ⟨rfl, v', h1, h2, h3⟩
  have hk2 : Kept (b :: v.ownBlock.toList) w w' := (h2.more (fun _ _ hm => List.mem_cons.2 (.inl (by simpa using hm))))
  exact ⟨rfl, v', h.dstep hk2 h1 (.inl h3), others_d h.dsk hk2⟩
theorem b_dcut (n : Nat) (h : Both w1 w b r size safe v rv xs L) (hn : n ≤ xs.length) : Calls Try.prog 16 #[.pointer (some ⟨b, 0, none⟩), .int .i64 n] w fun e w' => e = .returned (.int .i64 0) ∧
    ∃ v', Both w1 w' b r size (min safe n) v' rv (xs.take n) L ∧ Others w w' := by
  refine (cut_ok _ _ _ n _ _ _ h.dsk hn).mono ?_
  rintro e w' ⟨rfl, v', h1, h2, h3⟩
  have hk2 : Kept (b :: v.ownBlock.toList) w w' := (h2.more (fun _ _ hm => List.mem_cons.2 (.inl (by simpa using hm))))
  exact ⟨rfl, v', h.dstep hk2 h1 (.inl h3), others_d h.dsk hk2⟩
theorem b_dcut_bad (n : Int) (h : Both w1 w b r size safe v rv xs L) (hn : n < 0 ∨ (xs.length : Int) < n) : Calls Try.prog 16 #[.pointer (some ⟨b, 0, none⟩), .int .i64 n] w fun e w' => e = .returned (.int .i64 2) ∧ Both w1 w' b r size safe v rv xs L ∧ Others w w' := by
  refine (cut_bad _ _ _ n _ _ _ h.dsk hn).mono ?_
  rintro e w' ⟨rfl, h2⟩
  exact ⟨rfl, h.then0 h2, others_0 h2⟩
theorem b_rsync (h : Both w1 w b r size safe v rv xs L) (hb : L.length ≤ 1099511627776) : Calls Try.prog 14 #[.pointer (some ⟨r, 0, none⟩)] w fun e w' => e = .returned (.tuple #[]) ∧ Both w1 w' b r size safe v rv xs (allSafe L) := by
  refine (ref_sync _ _ _ _ _ h.rf hb).mono ?_
  rintro e w' ⟨rfl, h1, h2⟩
  exact ⟨rfl, h.rstep h2 h1 (.inl (Near.refl _ _))⟩
theorem b_rcrash (k : Int) (h : Both w1 w b r size safe v rv xs L) (hb : L.length ≤ 1099511627776) (lo : -9223372036854775808 ≤ k) (hi : k ≤ 9223372036854775807) : Calls Try.prog 15 #[.pointer (some ⟨r, 0, none⟩), .int .i64 k] w fun e w' => e = .returned (.tuple #[]) ∧
    ∃ rv', Both w1 w' b r size safe v rv' xs (crashed L k).1 := by
  refine (ref_crash _ _ _ k _ _ h.rf hb lo hi).mono ?_
  rintro e w' ⟨rfl, v', h1, h2, h3⟩
  exact ⟨rfl, v', h.rstep (h2.more (fun _ _ hm => List.mem_cons.2 (.inl (by simpa using hm)))) h1 (.inr h3)⟩
theorem b_rcut (n : Nat) (h : Both w1 w b r size safe v rv xs L) (hn : n ≤ L.length) : Calls Try.prog 17 #[.pointer (some ⟨r, 0, none⟩), .int .i64 n] w fun e w' => e = .returned (.bool true) ∧
    ∃ rv', Both w1 w' b r size safe v rv' xs (L.take n) := by
  refine (ref_cut_ok _ _ n _ _ _ h.rf hn).mono ?_
  rintro e w' ⟨rfl, v', h1, h2, h3⟩
  exact ⟨rfl, v', h.rstep (h2.more (fun _ _ hm => List.mem_cons.2 (.inl (by simpa using hm)))) h1 (.inl (.inl h3))⟩
theorem b_rcut_bad (n : Int) (h : Both w1 w b r size safe v rv xs L) (hn : n < 0 ∨ (L.length : Int) < n) : Calls Try.prog 17 #[.pointer (some ⟨r, 0, none⟩), .int .i64 n] w fun e w' => e = .returned (.bool false) ∧ Both w1 w' b r size safe v rv xs L := by
  refine (ref_cut_bad _ _ n _ _ _ h.rf hn).mono ?_
  rintro e w' ⟨rfl, h2⟩
  exact ⟨rfl, h.then0 h2⟩
theorem b_dapp_ok {pv : Value} {ps : List (Value × List UInt8)} (h : Both w1 w b r size safe v rv xs L) (hp : Parts w (b :: v.ownBlock.toList) pv ps) (hsz : (size : Int) ≤ 9223372036854775807) (hn : (ps.length : Int) ≤ 9223372036854775807)
    (hf : xs.length + total ps ≤ size) (hroom : xs.length + total ps ≤ 140737488355328) : Calls Try.prog 8 #[.pointer (some ⟨b, 0, none⟩), pv] w fun e w' => e = .returned (.int .i64 0) ∧
    ∃ v', Both w1 w' b r size safe v' rv (xs ++ joined ps) L ∧ Others w w' ∧ Kept (b :: v.ownBlock.toList) w w' ∧ Near v.ownBlock w.heap.size v' := by
  refine (append_ok _ _ _ _ _ _ _ _ h.dsk hp hsz hn hf hroom).mono ?_
  rintro e w' ⟨rfl, v', h1, h2, h3⟩
  exact ⟨rfl, v', h.dstep h2 h1 h3, others_d h.dsk h2, h2, h3⟩
theorem b_dapp_full {pv : Value} {ps : List (Value × List UInt8)} (h : Both w1 w b r size safe v rv xs L) (hp : Parts w (b :: v.ownBlock.toList) pv ps) (hx : xs.length ≤ size) (hsz : (size : Int) ≤ 9223372036854775807) (hn : (ps.length : Int) ≤ 9223372036854775807)
    (hf : size < xs.length + total ps) : Calls Try.prog 8 #[.pointer (some ⟨b, 0, none⟩), pv] w fun e w' => e = .returned (.int .i64 140) ∧
    Both w1 w' b r size safe v rv xs L ∧ Others w w' ∧ Kept (b :: v.ownBlock.toList) w w' := by
  refine (append_full _ _ _ _ _ _ _ _ _ h.dsk hp hx hsz hn hf).mono ?_
  rintro e w' ⟨rfl, h2⟩
  exact ⟨rfl, h.then0 h2, others_0 h2, Kept.of0 h2⟩
theorem b_rapp_ok {pv : Value} {ps : List (Value × List UInt8)} (h : Both w1 w b r size safe v rv xs L) (hp : Parts w (r :: rv.ownBlock.toList) pv ps) (hn : (ps.length : Int) ≤ 9223372036854775807)
    (hb : L.length + total ps ≤ 1099511627776) (hf : (L.length : Int) + total ps ≤ size) : Calls Try.prog 13 #[.pointer (some ⟨r, 0, none⟩), pv] w fun e w' => e = .returned (.bool true) ∧
    ∃ rv', Both w1 w' b r size safe v rv' xs (L ++ unsafeB (joined ps)) ∧ Kept (r :: rv.ownBlock.toList) w w' := by
  refine (ref_append_ok _ _ _ _ _ _ _ h.rf hp hn hb hf).mono ?_
  rintro e w' ⟨rfl, v', h1, h2, h3⟩
  exact ⟨rfl, v', h.rstep h2 h1 (.inl h3), h2⟩
theorem b_rapp_full {pv : Value} {ps : List (Value × List UInt8)} (h : Both w1 w b r size safe v rv xs L) (hp : Parts w (r :: rv.ownBlock.toList) pv ps) (hn : (ps.length : Int) ≤ 9223372036854775807)
    (hb : (L.length : Int) + total ps ≤ 9223372036854775807) (hf : (size : Int) < L.length + total ps) : Calls Try.prog 13 #[.pointer (some ⟨r, 0, none⟩), pv] w fun e w' => e = .returned (.bool false) ∧
    Both w1 w' b r size safe v rv xs L ∧ Kept (r :: rv.ownBlock.toList) w w' := by
  refine (ref_append_full _ _ _ _ _ _ _ _ h.rf hp hn hb hf).mono ?_
  rintro e w' ⟨rfl, h2⟩
  exact ⟨rfl, h.then0 h2, Kept.of0 h2⟩
end

theorem parts_list (w : World) (S : List Nat) (cs : Array Value) (ps : List (Value × List UInt8)) (n : Nat) (hn : n = ps.length) (hcs : cs.toList = ps.map (·.1)) (hS : ∀ k ∈ S, k < w.heap.size)
    (hin : ∀ x ∈ ps, Rd w 1 x.1 x.2.length (bv x.2) ∧ (0 < x.2.length → ∀ k, x.1.ownBlock = some k → k ∉ S)) : Parts (w.alloc (.cells cs 22)) S (.slice (some ⟨w.heap.size, 0, none⟩) n n) ps := by
  subst hn
  refine ⟨Rd.alloc_at rfl hcs (by simp) (Nat.le_refl _), fun _ k hk hm => ?_, fun x hx => ⟨(hin x hx).1.alloc _, (hin x hx).2⟩⟩
  simp [Value.ownBlock] at hk; have := hS k hm; omega
theorem Parts.drew {w : World} {S : List Nat} {pv : Value} {ps : List (Value × List UInt8)} (h : Parts w S pv ps) : Parts w.drew S pv ps := ⟨h.outer, h.far, h.inner⟩
theorem Both.old {w1 w : World} {b r size safe : Nat} {v rv : Value} {xs : List UInt8} {L : List (UInt8 × Bool)} (h : Both w1 w b r size safe v rv xs L) : (∀ k ∈ b :: v.ownBlock.toList, k < w.heap.size) ∧ (∀ k ∈ r :: rv.ownBlock.toList, k < w.heap.size) ∧
    (∀ k ∈ b :: v.ownBlock.toList, w1.heap.size ≤ k) ∧ (∀ k ∈ r :: rv.ownBlock.toList, w1.heap.size ≤ k) := by
  refine ⟨fun k hk => ?_, fun k hk => ?_, fun k hk => ?_, fun k hk => ?_⟩ <;> rcases List.mem_cons.1 hk with rfl | hk
  · exact h.dsk.blk.lt
  · exact own_lt h.dsk.own (mem_own hk)
  · exact h.rf.blk.lt
  · exact h.rf.own.lt (mem_own hk)
  · exact h.nb
  · exact h.nv k (mem_own hk)
  · exact h.nr
  · exact h.nrv k (mem_own hk)

/-- A row of bytes apart from both disks. -/
def Apart (w : World) (b : Nat) (v ov : Value) (n : Nat) : Prop := ∃ ys : List Value, Ow w 5 1 ov n ys ∧ (∀ u ∈ ys, ∃ z : Int, u = .int .u8 z) ∧ ∀ g, ov.ownBlock = some g → g ∉ b :: v.ownBlock.toList
theorem Apart.kept {S : List Nat} {w w' : World} {b n : Nat} {v ov : Value} (h : Apart w b v ov n) (hk : Kept S w w') (hS : ∀ ys, Ow w 5 1 ov n ys → ∀ g, ov.ownBlock = some g → g ∉ S) : Apart w' b v ov n := by
  obtain ⟨ys, h1, h2, h3⟩ := h
  exact ⟨ys, h1.kept hk (hS ys h1), h2, h3⟩
theorem Both.store {w1 w : World} {b r size safe n : Nat} {v rv ov : Value} {xs : List UInt8} {L : List (UInt8 × Bool)} (h : Both w1 w b r size safe v rv xs L) (ho : Apart w b v ov n) (hw1 : ∀ g, ov.ownBlock = some g → w1.heap.size ≤ g) {g o : Nat} (hg : ov.ownBlock = some g) (u : Value) :
    Both w1 (w.setCell ⟨g, o, none⟩ u) b r size safe v rv xs L := by
  obtain ⟨ys, hy, _, hne⟩ := ho
  have hk : Kept [g] w (w.setCell ⟨g, o, none⟩ u) := (Kept.refl [g] w).setCell (.inl (by simp)) u
  have hn := hne g hg
  have hgr : r ∉ [g] := fun hm => by
    have : r = g := by simpa using hm
    subst this
    exact hy.blk_ne h.rf.blk (by decide) hg
  have hgv : ∀ k, rv.ownBlock = some k → k ∉ [g] := fun k hkk hm => by
    have : k = g := by simpa using hm
    subst this
    exact h.rf.own.ne_ hy (by decide) k hkk hg
  have hgb : b ∉ [g] := fun hm => by
    have : b = g := by simpa using hm
    subst this
    exact hn (by simp)
  have hgx : ∀ k, v.ownBlock = some k → k ∉ [g] := fun k hkk hm => by
    have : k = g := by simpa using hm
    subst this
    exact hn (List.mem_cons_of_mem _ (by rw [hkk]; simp))
  have hgw : ∀ k ∈ [g], w1.heap.size ≤ k := fun k hm => by
    have : k = g := by simpa using hm
    subst this
    exact hw1 k hg
  exact ⟨h.dsk.kept hk hgb hgx, h.rf.kept hk hgr hgv, h.nb, h.nr, h.nv, h.nrv, Kept.fresh h.kept hk hgw⟩

/-- The script, as it lies in memory: kind, number, bytes. -/
def opCells (o : Int × Int × Value × List UInt8) : List Value := [.int .i64 o.1, .int .i64 o.2.1, o.2.2.1]
structure Script (w : World) (sv : Value) (ops : List (Int × Int × Value × List UInt8)) : Prop where
  outer : Rd w 3 sv ops.length (ops.flatMap opCells)
  inner : ∀ o ∈ ops, Rd w 1 o.2.2.1 o.2.2.2.length (bv o.2.2.2)
theorem Script.kept0 {w w' : World} {sv : Value} {ops : List (Int × Int × Value × List UInt8)} (h : Script w sv ops) (hk : Kept [] w w') : Script w' sv ops :=
  ⟨h.outer.kept0 hk, fun o ho => (h.inner o ho).kept0 hk⟩
theorem opCells_at : ∀ (ops : List (Int × Int × Value × List UInt8)) (k : Nat) (h : k < ops.length), (ops.flatMap opCells)[k * 3]? = some (.int .i64 ops[k].1) ∧ (ops.flatMap opCells)[k * 3 + 1]? = some (.int .i64 ops[k].2.1) ∧ (ops.flatMap opCells)[k * 3 + 2]? = some ops[k].2.2.1
  | [], _, h => by simp at h
  | x :: l, 0, _ => by simp [opCells]
  | x :: l, k + 1, h => by
    have := opCells_at l k (by simpa using h)
    have e : (x :: l).flatMap opCells = .int .i64 x.1 :: .int .i64 x.2.1 :: x.2.2.1 :: l.flatMap opCells := by simp [opCells]
    rw [e, show (k + 1) * 3 = k * 3 + 1 + 1 + 1 from by omega, show k * 3 + 1 + 1 + 1 + 1 = (k * 3 + 1) + 1 + 1 + 1 from by omega, show k * 3 + 1 + 1 + 1 + 2 = (k * 3 + 2) + 1 + 1 + 1 from by omega]
    simp only [List.getElem?_cons_succ]
    simpa using this
theorem Script.at_ {w : World} {sv : Value} {ops : List (Int × Int × Value × List UInt8)} (h : Script w sv ops) {k : Nat} (hk : k < ops.length) :
    ∃ b o c, sv = .slice (some ⟨b, o, none⟩) ops.length c ∧ w.cell? ⟨b, o + k * 3, none⟩ = some (.int .i64 ops[k].1) ∧ w.cell? ⟨b, o + k * 3 + 1, none⟩ = some (.int .i64 ops[k].2.1) ∧ w.cell? ⟨b, o + k * 3 + 2, none⟩ = some ops[k].2.2.1 := by
  obtain ⟨b, o, c, hv, _, hcell⟩ := h.outer.at_ (by omega)
  have := opCells_at ops k hk
  exact ⟨b, o, c, hv, hcell _ _ this.1, by rw [Nat.add_assoc]; exact hcell _ _ this.2.1, by rw [Nat.add_assoc]; exact hcell _ _ this.2.2⟩

end Go.Proofs.Ytfdioobkbdgbmaa
