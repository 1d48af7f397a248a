/-
  Words for memory, over any program: what is kept, blocks known whole, slices that read as lists, rows of one's own; append, make, string(bytes), copy.
-/
import Derived.Below
import Derived.Laws.OwnMore
import Derived.Laws.MakeOwn
import Derived.Laws.BytesString
import Derived.Laws.CopyOwn
import Derived.Laws.Strings
import Derived.Laws.Concat
import Derived.Laws.Strings2
import Derived.Deep.AppendLies
import Derived.Deep.Draws
import Derived.Laws.Rows
import Derived.Maps.AppendAt
import Derived.RegionTactic
import Derived.OwnWalk
import Derived.Lib.Hide
import Derived.Lib.SlBytesConst
namespace Go.Mem
open Go.RowKit

/-! ### Strings -/

def mkS (l : List UInt8) : ByteArray := ⟨l.toArray⟩
@[go_sem] theorem toList_mkS (l : List UInt8) : (mkS l).toList = l := ByteArray.toList_mk l
@[go_sem] theorem size_mkS (l : List UInt8) : (mkS l).size = l.length := by simp [mkS, ByteArray.size]
@[go_sem] theorem mkS_append (a b : List UInt8) : mkS a ++ mkS b = mkS (a ++ b) := ByteArray.mk_append_mk a b
theorem mkS_nil : mkS [] = ByteArray.empty := rfl
theorem mkS_data (s : ByteArray) : mkS s.data.toList = s := by cases s; simp [mkS]
theorem mkS_extract (l : List UInt8) (a b : Nat) : (mkS l).extract a b = mkS ((l.drop a).take (b - a)) := ByteArray.extract_mk l a b

@[go_sem] theorem mkS_extract0 (l : List UInt8) (b : Nat) : (mkS l).extract 0 b = mkS (l.take b) := by rw [mkS_extract]; simp

def byteV (b : UInt8) : Value := .int .u8 b.toNat
abbrev bv (l : List UInt8) : List Value := l.map byteV
theorem one_bv (l : List UInt8) : ∀ u ∈ bv l, u.oneCell' = true := by
  intro u hu
  obtain ⟨b, _, rfl⟩ := List.mem_map.1 hu
  rfl

/-! ### What is kept -/

/-- Every block that was there, but those of S, is as it was. -/
structure Kept (S : List Nat) (w w' : World) : Prop where
  os : w'.os = w.os
  tape : w'.tape = w.tape
  output : w'.output = w.output
  size : w.heap.size ≤ w'.heap.size
  block : ∀ k, k < w.heap.size → k ∉ S → w'.heap[k]? = w.heap[k]?

section
variable {S S1 S2 : List Nat} {w w' w1 w2 : World}

theorem Kept.refl (S : List Nat) (w : World) : Kept S w w := ⟨rfl, rfl, rfl, Nat.le_refl _, fun _ _ _ => rfl⟩
theorem Kept.trans (h1 : Kept S1 w w1) (h2 : Kept S2 w1 w2) (hs1 : ∀ k, k < w.heap.size → k ∈ S1 → k ∈ S) (hs2 : ∀ k, k < w.heap.size → k ∈ S2 → k ∈ S) : Kept S w w2 :=
  ⟨h2.os.trans h1.os, h2.tape.trans h1.tape, h2.output.trans h1.output, Nat.le_trans h1.size h2.size, fun k hk hn =>
    (h2.block k (Nat.lt_of_lt_of_le hk h1.size) (fun h => hn (hs2 k hk h))).trans (h1.block k hk (fun h => hn (hs1 k hk h)))⟩
theorem Kept.trans' (h1 : Kept S w w1) (h2 : Kept S w1 w2) : Kept S w w2 := h1.trans h2 (fun _ _ h => h) (fun _ _ h => h)
theorem Kept.then0 (h1 : Kept S w w1) (h2 : Kept [] w1 w2) : Kept S w w2 := h1.trans h2 (fun _ _ h => h) (fun _ _ h => absurd h (by simp))
theorem Kept.of0 (h1 : Kept [] w w1) : Kept S w w1 := (Kept.refl S w).then0 h1
theorem Kept.more (h : Kept S w w') (hs : ∀ k, k < w.heap.size → k ∈ S → k ∈ S1) : Kept S1 w w' := ⟨h.os, h.tape, h.output, h.size, fun k hk hn => h.block k hk (fun hh => hn (hs k hk hh))⟩
theorem Kept.drew (h : Kept S w w') : Kept S w w'.drew := ⟨h.os, h.tape, h.output, h.size, h.block⟩
theorem Kept.drewN (h : Kept S w w') (n : Nat) : Kept S w (w'.drewN n) := ⟨h.os, h.tape, h.output, h.size, h.block⟩
theorem Kept.from_drew (h : Kept S w.drew w') : Kept S w w' := ⟨h.os, h.tape, h.output, h.size, h.block⟩
theorem Kept.from_drewN {n : Nat} (h : Kept S (w.drewN n) w') : Kept S w w' := ⟨h.os, h.tape, h.output, h.size, h.block⟩
theorem Kept.alloc (h : Kept S w w') (o : Obj) : Kept S w (w'.alloc o) :=
  ⟨h.os, h.tape, h.output, by have := h.size; simp; omega, fun k hk hn => (Below.heap_alloc w' o k (Nat.lt_of_lt_of_le hk h.size)).trans (h.block k hk hn)⟩
theorem Kept.setCell (h : Kept S w w') {p : Addr} (hp : p.block ∈ S ∨ w.heap.size ≤ p.block) (u : Value) : Kept S w (w'.setCell p u) :=
  ⟨h.os, h.tape, h.output, by simpa using h.size, fun k hk hn => (Below.heap_setCell w' p u k (fun e => by subst e; rcases hp with hp | hp; exact hn hp; omega)).trans (h.block k hk hn)⟩
theorem Kept.setRow (h : Kept S w w') {g : Nat} (hp : g ∈ S ∨ w.heap.size ≤ g) (cs : Array Value) : Kept S w (w'.setRow g cs) :=
  ⟨h.os, h.tape, h.output, by simpa using h.size, fun k hk hn => (setRow_other w' g k _ (fun e => by subst e; rcases hp with hp | hp; exact hn hp; omega)).trans (h.block k hk hn)⟩
theorem Kept.grown {row : Option Nat} (hg : w.grownBy w' row) : Kept row.toList w w' :=
  ⟨hg.os, hg.tape, hg.output, hg.size, fun k hk hn => hg.block k hk (fun e => hn (by rw [← e]; simp))⟩
theorem Kept.below (h : Kept [] w w') : Below w.heap.size w w' := ⟨h.os, h.tape, h.output, h.size, fun k hk => h.block k hk (by simp)⟩
theorem Kept.of_below (h : Below w.heap.size w w') : Kept [] w w' := ⟨h.os, h.tape, h.output, h.size, fun k hk _ => h.block k hk⟩
/-- What was written lies among what was not there yet. -/
theorem Kept.fresh {w0 : World} (h0 : Kept [] w0 w) (h : Kept S w w') (hs : ∀ k, k ∈ S → w0.heap.size ≤ k) : Kept [] w0 w' :=
  h0.trans h (fun _ _ h => h) (fun k hk h => by have := hs k h; omega)
theorem Kept.lt (h : Kept S w w') {k : Nat} (hk : k < w.heap.size) : k < w'.heap.size := Nat.lt_of_lt_of_le hk h.size
theorem Kept.cell (h : Kept S w w') {b o : Nat} {v : Value} (hc : w.cell? ⟨b, o, none⟩ = some v) (hb : b ∉ S) : w'.cell? ⟨b, o, none⟩ = some v :=
  (World.cell?_of_block (a := ⟨b, o, none⟩) (h.block b (World.block_lt_of_cell? w _ hc) hb)).trans hc
theorem Kept.frozen (h : Kept S w w') {b o : Nat} (hlt : b < w.heap.size) (hb : b ∉ S) : w'.frozen? ⟨b, o, none⟩ = w.frozen? ⟨b, o, none⟩ :=
  World.frozen?_of_block (a := ⟨b, o, none⟩) (h.block b hlt hb)
end

/-! ### A block known whole -/

def Blk (w : World) (g : Nat) (t : TypeId) (cs : Array Value) : Prop := w.heap[g]? = some (.cells cs t (0, 0))

section
variable {S : List Nat} {w w' : World} {g : Nat} {t : TypeId} {cs : Array Value}
theorem Blk.lt (h : Blk w g t cs) : g < w.heap.size := by
  rcases Nat.lt_or_ge g w.heap.size with hlt | hge
  · exact hlt
  · unfold Blk at h; rw [Array.getElem?_eq_none hge] at h; cases h
theorem Blk.cell (h : Blk w g t cs) (i : Nat) : w.cell? ⟨g, i, none⟩ = cs[i]? := cell_of_row w g i cs t (0, 0) h
theorem Blk.frozen (h : Blk w g t cs) (i : Nat) : w.frozen? ⟨g, i, none⟩ = false := by
  unfold Blk at h
  simp [World.frozen?, h]
theorem Blk.new (w : World) (t : TypeId) (cs : Array Value) : Blk (w.alloc (.cells cs t)) w.heap.size t cs := heap_alloc_new w _
theorem Blk.drew (h : Blk w g t cs) : Blk w.drew g t cs := h
theorem Blk.drewN (h : Blk w g t cs) (n : Nat) : Blk (w.drewN n) g t cs := h
theorem Blk.alloc (h : Blk w g t cs) (o : Obj) : Blk (w.alloc o) g t cs := (Below.heap_alloc w o g h.lt).trans h
theorem Blk.set_ (h : Blk w g t cs) (i : Nat) (u : Value) : Blk (w.setCell ⟨g, i, none⟩ u) g t (cs.setIfInBounds i u) := by
  unfold Blk at h ⊢
  simp [World.setCell, Array.getElem?_modify, h]
theorem Blk.far (h : Blk w g t cs) {p : Addr} (hp : g ≠ p.block) (u : Value) : Blk (w.setCell p u) g t cs := (Below.heap_setCell w p u g hp).trans h
theorem Blk.kept (h : Blk w g t cs) (hk : Kept S w w') (hg : g ∉ S) : Blk w' g t cs := (hk.block g h.lt hg).trans h
theorem Blk.setRow_ (h : Blk w g t cs) (cs' : Array Value) : Blk (w.setRow g cs') g t cs' := by unfold Blk; exact setRow_heap w g cs cs' t (0, 0) h
theorem Blk.setRow_far (h : Blk w g t cs) {g' : Nat} (hne : g ≠ g') (cs' : Array Value) : Blk (w.setRow g' cs') g t cs := (setRow_other w g' g cs' hne).trans h
theorem Blk.ne_ {g' : Nat} {t' : TypeId} {cs' : Array Value} (h : Blk w g t cs) (h' : Blk w g' t' cs') (hne : t ≠ t') : g ≠ g' := by
  rintro rfl
  unfold Blk at h h'
  rw [h] at h'
  injection h' with h'
  injection h' with _ ht
  exact hne ht
theorem own_blk_ne {base : Nat} {e : TypeId} {size n : Nat} {v : Value} {xs : List Value} (h : w.ownsRow base e size v n xs) (hg : Blk w g t cs) (hne : e ≠ t) : v.ownBlock ≠ some g := by
  rcases h.2 with ⟨rfl, _⟩ | ⟨g', cap, cur, rfl, _, hh, _⟩
  · simp [Value.ownBlock]
  · intro he
    have : g' = g := by simpa [Value.ownBlock] using he
    subst this
    exact Blk.ne_ (t := e) hh hg hne rfl
end

/-! ### A slice that reads as a list of cells -/

/-- The slice value v has n elements of s cells each, and they read as xs. -/
def Rd (w : World) (s : Nat) (v : Value) (n : Nat) (xs : List Value) : Prop :=
  ∃ A c, v = .slice A n c ∧ xs.length = n * s ∧ n ≤ c ∧ (0 < n → ∃ b o, A = some ⟨b, o, none⟩ ∧ ∀ j u, xs[j]? = some u → w.cell? ⟨b, o + j, none⟩ = some u)

theorem add_none (b o n : Nat) : (⟨b, o, none⟩ : Addr).add n = ⟨b, o + n, none⟩ := by
  unfold Addr.add; split
  · simp_all
  · rfl

section
variable {S : List Nat} {w w' : World} {s n : Nat} {v : Value} {xs : List Value}

theorem Rd.nil (w : World) (s : Nat) : Rd w s (.slice none 0 0) 0 [] := ⟨none, 0, rfl, by simp, Nat.le_refl _, fun h => absurd h (by omega)⟩
theorem Rd.len (h : Rd w s v n xs) : xs.length = n * s := by obtain ⟨_, _, _, h, _⟩ := h; exact h
theorem Rd.keep (h : Rd w s v n xs) (hk : ∀ b o u, v.ownBlock = some b → w.cell? ⟨b, o, none⟩ = some u → w'.cell? ⟨b, o, none⟩ = some u) : Rd w' s v n xs := by
  obtain ⟨A, c, rfl, hl, hc, hx⟩ := h
  refine ⟨A, c, rfl, hl, hc, fun hn => ?_⟩
  obtain ⟨b, o, rfl, hcell⟩ := hx hn
  exact ⟨b, o, rfl, fun j u hu => hk b _ u rfl (hcell j u hu)⟩
theorem Rd.kept (h : Rd w s v n xs) (hk : Kept S w w') (hS : 0 < n → ∀ k, v.ownBlock = some k → k ∉ S) : Rd w' s v n xs := by
  obtain ⟨A, c, rfl, hl, hc, hx⟩ := h
  refine ⟨A, c, rfl, hl, hc, fun hn => ?_⟩
  obtain ⟨b, o, rfl, hcell⟩ := hx hn
  exact ⟨b, o, rfl, fun j u hu => hk.cell (hcell j u hu) (hS hn _ rfl)⟩
theorem Rd.kept0 (h : Rd w s v n xs) (hk : Kept [] w w') : Rd w' s v n xs := h.kept hk (by simp)
theorem Rd.drew (h : Rd w s v n xs) : Rd w.drew s v n xs := h
theorem Rd.drewN (h : Rd w s v n xs) (k : Nat) : Rd (w.drewN k) s v n xs := h
theorem Rd.alloc (h : Rd w s v n xs) (o : Obj) : Rd (w.alloc o) s v n xs := h.kept0 ((Kept.refl [] w).alloc o)
/-- Its block is there, if there is an element. -/
theorem Rd.lt (h : Rd w s v n xs) (hs : 0 < s) (hn : 0 < n) : ∃ b, v.ownBlock = some b ∧ b < w.heap.size := by
  obtain ⟨A, c, rfl, hl, _, hx⟩ := h
  obtain ⟨b, o, rfl, hcell⟩ := hx hn
  have h0 : 0 < xs.length := by rw [hl]; exact Nat.mul_pos hn hs
  exact ⟨b, rfl, World.block_lt_of_cell? w _ (hcell 0 xs[0] (by simp [h0]))⟩
/-- It was there before, so it lies in none of the blocks that came since. -/
theorem Rd.old (h : Rd w s v n xs) (hs : 0 < s) (hS : ∀ k ∈ S, w.heap.size ≤ k) : 0 < n → ∀ k, v.ownBlock = some k → k ∉ S := by
  intro hn k hk hm
  obtain ⟨b, hb, hlt⟩ := h.lt hs hn
  rw [hk] at hb
  cases hb
  have := hS k hm
  omega
theorem Rd.at_ (h : Rd w s v n xs) (hn : 0 < n) : ∃ b o c, v = .slice (some ⟨b, o, none⟩) n c ∧ n ≤ c ∧ ∀ j u, xs[j]? = some u → w.cell? ⟨b, o + j, none⟩ = some u := by
  obtain ⟨A, c, rfl, hl, hc, hx⟩ := h
  obtain ⟨b, o, rfl, hcell⟩ := hx hn
  exact ⟨b, o, c, rfl, hc, hcell⟩
theorem Rd.of_own {base : Nat} {e : TypeId} (h : w.ownsRow base e s v n xs) : Rd w s v n xs := by
  obtain ⟨h1, h2⟩ := h
  rcases h2 with ⟨rfl, rfl⟩ | ⟨g, cap, cur, rfl, _, hg, hnc, _, hcs, htake⟩
  · exact ⟨none, 0, rfl, h1, Nat.le_refl _, fun h => absurd h (by omega)⟩
  · refine ⟨some ⟨g, 0, none⟩, cap, rfl, h1, hnc, fun _ => ⟨g, 0, rfl, fun j u hu => ?_⟩⟩
    rw [cell_of_row w g (0 + j) cur e (0, 0) hg, Nat.zero_add]
    rw [← htake, List.getElem?_take] at hu
    split at hu
    · simpa using hu
    · cases hu
/-- A part: 'x[lo:hi]' as the model makes it. -/
theorem Rd.cut {A : Option Addr} {c : Nat} (h : Rd w s (.slice A n c) n xs) {lo hi m : Nat} (hlo : lo ≤ hi) (hhi : hi ≤ n) (hm : hi ≤ m) :
    Rd w s (.slice (if m = lo then A else A.map (·.add (lo * s))) (hi - lo) (m - lo)) (hi - lo) ((xs.drop (lo * s)).take ((hi - lo) * s)) := by
  obtain ⟨A', c', hv, hl, _, hx⟩ := h
  cases hv
  have hle : lo * s + (hi - lo) * s ≤ n * s := by rw [← Nat.add_mul]; exact Nat.mul_le_mul_right _ (by omega)
  refine ⟨_, _, rfl, by rw [List.length_take, List.length_drop, hl]; omega, by omega, fun hn => ?_⟩
  obtain ⟨b, o, rfl, hcell⟩ := hx (by omega)
  rw [if_neg (by omega)]
  refine ⟨b, o + lo * s, by simp [add_none], fun j u hu => ?_⟩
  rw [Nat.add_assoc]
  refine hcell _ u ?_
  rw [List.getElem?_take] at hu
  split at hu
  · rw [← hu, List.getElem?_drop]
  · cases hu
end

/-! ### New rows, marked or not -/

abbrev Own (w : World) (e : TypeId) (s : Nat) (v : Value) (n : Nat) (xs : List Value) : Prop := w.ownsRow 0 e s v n xs

theorem heap_alloc_at (w : World) (o : Obj) {n : Nat} (hn : n = w.heap.size) : (w.alloc o).heap[n]? = some o := by subst hn; exact heap_alloc_new w o

theorem Rd.alloc_at {w : World} {cs : Array Value} {e : TypeId} {fr : Nat × Nat} {g n c s : Nat} {xs : List Value} (hg : g = w.heap.size) (hx : cs.toList = xs) (hl : xs.length = n * s) (hc : n ≤ c) :
    Rd (w.alloc (.cells cs e fr)) s (.slice (some ⟨g, 0, none⟩) n c) n xs := by
  refine ⟨_, _, rfl, hl, hc, fun _ => ⟨g, 0, rfl, fun j u hu => ?_⟩⟩
  rw [cell_of_row _ g (0 + j) cs e fr (heap_alloc_at w _ hg), Nat.zero_add, ← hu, ← hx]
  simp

theorem own_alloc_at {w : World} {cs : Array Value} {e : TypeId} {g n s : Nat} {xs : List Value} (hg : g = w.heap.size) (hx : cs.toList = xs) (hl : xs.length = n * s) (hm : n ≤ 9223372036854775807) :
    Own (w.alloc (.cells cs e)) e s (.slice (some ⟨g, 0, none⟩) n n) n xs := by
  refine ⟨hl, .inr ⟨g, n, cs, rfl, Nat.zero_le _, heap_alloc_at w _ hg, Nat.le_refl _, by simp only [maxLen]; exact hm, ?_, ?_⟩⟩
  · rw [← hl, ← hx]; simp
  · rw [hx, ← hl]; exact List.take_length

@[go_sem] theorem cell?_alloc_marked_at (w : World) (c : Array Value) (t : TypeId) (fr : Nat × Nat) (n i : Nat) (hn : n = w.heap.size) : (w.alloc (.cells c t fr)).cell? ⟨n, i, none⟩ = c[i]? :=
  cell_of_row _ n i c t fr (heap_alloc_at w _ hn)

theorem run_const {P : Program} {t e : TypeId} (ht : P.underlying t = some (.slice e)) (he : P.underlying e = some (.int .u8)) (w : World) (C : Array Value) (m n c : Nat) (hm : m = w.heap.size) :
    (convert t t (.slice (some ⟨m, 0, none⟩) n c)).run P (w.alloc (.cells C e)) = .ok (.slice (some ⟨m, 0, none⟩) n c) (w.alloc (.cells C e (C.size, C.size + 1))) := by
  subst hm; exact Lib.run_convert_bytes_const w t e C n c ht he

/-! ### Laws of operations -/

/-- A slice type and what there is to know of its elements. -/
structure SliceT (P : Program) (t e : TypeId) (size bytes : Nat) (z : Value) : Prop where
  under : P.underlying t = some (.slice e)
  info : (P.info? e).map (fun i => (i.zero, i.size, i.bytes)) = some (some z, size, bytes)
  zs : z.cells.size = size
  pos : 0 < size

theorem SliceT.get {P : Program} {t e : TypeId} {size bytes : Nat} {z : Value} (T : SliceT P t e size bytes z) : ∃ i, P.info? e = some i ∧ i.zero = some z ∧ i.size = size ∧ i.bytes = bytes := by
  have h := T.info
  cases hi : P.info? e with
  | none => simp [hi] at h
  | some i =>
    simp only [hi, Option.map_some, Option.some.injEq, Prod.mk.injEq] at h
    exact ⟨i, rfl, h.1, h.2.1, h.2.2⟩


theorem notin_own {v : Value} {b : Nat} (h : v.ownBlock ≠ some b) : b ∉ v.ownBlock.toList := by
  intro hb
  apply h
  cases hv : v.ownBlock with
  | none => rw [hv] at hb; simp at hb
  | some g => rw [hv] at hb; simp at hb; rw [hb]
theorem mem_own {v : Value} {b : Nat} (h : b ∈ v.ownBlock.toList) : v.ownBlock = some b := by
  cases hv : v.ownBlock with
  | none => rw [hv] at h; simp at h
  | some g => rw [hv] at h; simp at h; rw [h]

section
variable {S : List Nat} {w w' : World} {e : TypeId} {s n : Nat} {v : Value} {xs : List Value}
theorem own_kept (h : Own w e s v n xs) (hk : Kept S w w') (hS : ∀ k, v.ownBlock = some k → k ∉ S) : Own w' e s v n xs := by
  refine ⟨h.1, ?_⟩
  rcases h.2 with hn | ⟨g, cap, cur, rfl, hb, hgg, rest⟩
  · exact .inl hn
  · exact .inr ⟨g, cap, cur, rfl, hb, (hk.block g (Array.getElem?_eq_some_iff.1 hgg).1 (hS g rfl)).trans hgg, rest⟩
theorem own_setCell (h : Own w e s v n xs) {p : Addr} (hp : v.ownBlock ≠ some p.block) (u : Value) : Own (w.setCell p u) e s v n xs :=
  own_kept h ((Kept.refl [p.block] w).setCell (.inl (by simp)) u) (fun k hk hm => hp (by simp at hm; rw [hk, hm]))
theorem own_alloc (h : Own w e s v n xs) (o : Obj) : Own (w.alloc o) e s v n xs := own_kept h ((Kept.refl [] w).alloc o) (by simp)
theorem own_lt (h : Own w e s v n xs) {k : Nat} (hk : v.ownBlock = some k) : k < w.heap.size := (World.ownsRow.lt h k hk).2
/-- Cut at its end: 'v[:m]'. -/
theorem own_cut {A : Option Addr} {c m : Nat} (h : Own w e s (.slice A n c) n xs) (hm : m ≤ n) : Own w e s (.slice A m c) m (xs.take (m * s)) := by
  obtain ⟨h1, h2⟩ := h
  have hle : m * s ≤ n * s := Nat.mul_le_mul_right _ hm
  refine ⟨by rw [List.length_take, h1]; omega, ?_⟩
  rcases h2 with ⟨hv, hn⟩ | ⟨g, cap, cur, hv, hb, hg, hnc, hcm, hcs, htake⟩
  · subst hn
    have : m = 0 := by omega
    subst this
    exact .inl ⟨hv, rfl⟩
  · cases hv
    refine .inr ⟨g, c, cur, rfl, hb, hg, by omega, hcm, hcs, ?_⟩
    rw [← htake, List.take_take, Nat.min_eq_left hle]
end

/-- The old row, or one that was not there yet. -/
def Near (vb : Option Nat) (H : Nat) (v : Value) : Prop := v.ownBlock = vb ∨ ∃ g, v.ownBlock = some g ∧ H ≤ g
theorem Near.refl (H : Nat) (v : Value) : Near v.ownBlock H v := .inl rfl
theorem Near.step {vb : Option Nat} {H H' : Nat} {v v' : Value} (h : Near vb H v) (h2 : v'.ownBlock = v.ownBlock ∨ v'.ownBlock = some H') (hH : H ≤ H') : Near vb H v' := by
  rcases h2 with h2 | h2
  · rcases h with h | ⟨g, h, hg⟩
    · exact .inl (h2.trans h)
    · exact .inr ⟨g, h2.trans h, hg⟩
  · exact .inr ⟨H', h2, hH⟩
theorem Near.trans {vb : Option Nat} {H H' : Nat} {v v' : Value} (h : Near vb H v) (h2 : Near v.ownBlock H' v') (hH : H ≤ H') : Near vb H v' := by
  rcases h2 with h2 | ⟨g, h2, hg⟩
  · exact h.step (.inl h2) (Nat.le_refl H)
  · exact .inr ⟨g, h2, by omega⟩
theorem Near.mem {vb : Option Nat} {H : Nat} {v : Value} (h : Near vb H v) : ∀ k, k < H → k ∈ v.ownBlock.toList → k ∈ vb.toList := by
  intro k hk hm
  rcases h with h | ⟨g, h, hg⟩
  · rwa [h] at hm
  · rw [h] at hm; simp at hm; omega

section
variable {P : Program} {w : World} {ops : Array Oper} {rest : List Oper} {o : Oper} {a : Act} {Q : Exit → Act → World → Prop}

theorem run_app {t e : TypeId} {size bytes : Nat} {z : Value} (T : SliceT P t e size bytes z) (ty : TypeId) {v : Value} {n : Nat} {xs : List Value} (hown : Own w e size v n xs)
    {x : Value} {m : Nat} {news : List Value} (hr : Rd w size x m news) (h1 : ∀ u ∈ news, u.oneCell' = true) (hbytes : (n + m) * bytes ≤ 140737488355328) (h63 : n + m ≤ 9223372036854775807) :
    ∃ v' w', (Builtin.append_ #[t, t] ty #[v, x]).run P w = .ok v' w' ∧ Own w' e size v' (n + m) (xs ++ news) ∧ Kept v.ownBlock.toList w w' ∧ (v'.ownBlock = v.ownBlock ∨ v'.ownBlock = some w.heap.size) := by
  obtain ⟨i, hi, hz, hsz, hby⟩ := T.get
  obtain ⟨A, c, rfl, hl, _, hx⟩ := hr
  by_cases hm : m = 0
  · subst hm
    have hn : news = [] := List.eq_nil_of_length_eq_zero (by simpa using hl)
    subst hn
    refine ⟨v, w, ?_, by simpa using hown, Kept.refl _ _, .inl rfl⟩
    rcases hown.2 with ⟨rfl, rfl⟩ | ⟨g, cap, cur, rfl, _, _, hnc, _⟩
    · cases A <;> simp [Builtin.append_, run_underlying T.under, sizeOf, typeInfo, hi, Builtin.lenOf, Builtin.firstCells, loadCells, loadCellsFrom]
    · cases A <;> simp [Builtin.append_, run_underlying T.under, sizeOf, typeInfo, hi, Builtin.lenOf, Builtin.firstCells, hnc, storeCells, loadCells, loadCellsFrom]
  · obtain ⟨b, o, rfl, hcell⟩ := hx (by omega)
    obtain ⟨v', w', hrun, h2, h3, _, h5⟩ := run_append_own_at (P := P) w 0 t ty e i z size bytes T.under hi hz hsz hby T.zs T.pos v n xs hown ⟨b, o, none⟩ m c news hl
      (fun j u hu => by rw [add_none]; exact hcell j u hu) h1 (by simp only [maxLen]; exact h63) hbytes (Nat.zero_le _)
    exact ⟨v', w', hrun, h2, Kept.grown h3, h5⟩

/-- append(s, x...). -/
theorem wpl_append {t e : TypeId} {size bytes : Nat} {z : Value} (T : SliceT P t e size bytes z) (hgd : o.guard = none) (s x : Operand)
    (ho : o.op = .call { callee := .builtin .append, args := #[s, x], argTypes := #[t, t] }) {v : Value} (hs : a.eval s = v) {n : Nat} {xs : List Value} (hown : Own w e size v n xs)
    {xv : Value} (hx : a.eval x = xv) {m : Nat} {news : List Value} (hr : Rd w size xv m news) (h1 : ∀ u ∈ news, u.oneCell' = true) (hbytes : (n + m) * bytes ≤ 140737488355328) (h63 : n + m ≤ 9223372036854775807)
    (h : ∀ v' w', Own w' e size v' (n + m) (xs ++ news) → Kept v.ownBlock.toList w w' → (v'.ownBlock = v.ownBlock ∨ v'.ownBlock = some w.heap.size) → wpList P ops Q rest (a.put o.dst v') w') : wpList P ops Q (o :: rest) a w := by
  refine wpList_plain hgd fun K hK => ?_
  obtain ⟨v', w', hrun, h2, h3, h4⟩ := run_app T o.type hown hr h1 hbytes h63
  unfold Oper.wp execOp
  simp only [ho, resolve, invoke, builtin, Sem.run_bind, Sem.run_pure, Result.andThen_ok, List.map_toArray, List.map_cons, List.map_nil, hs, hx, hrun]
  exact hK _ _ (h v' w' h2 h3 h4)

theorem run_cat (a b : List UInt8) (h : a.length + b.length ≤ 140737488355328) (w : World) : (Op.stringOp .add (mkS a) (mkS b)).run P w = .ok (.string (mkS (a ++ b))) w := by
  rw [run_string_add_sum w (mkS a) (mkS b) (by rw [size_mkS, size_mkS]; omega), mkS_append]

theorem run_eqnil {t e : TypeId} (h : P.underlying t = some (.slice e)) (A : Option Addr) (n c n' c' : Nat) (w : World) : (binOp .eql t (.slice A n c) (.slice none n' c')).run P w = .ok (.bool A.isNone) w := by
  have key : ∀ d, (Op.equalIn (d + 1) t (.slice A n c) (.slice none n' c')).run P w = .ok A.isNone w := fun d => by
    cases A <;> simp [Op.equalIn, run_underlying h]
  simp only [binOp, Op.equal, Op.maxDepth, Sem.run_bind]
  rw [key 9999]
  rfl
theorem run_neqnil {t e : TypeId} (h : P.underlying t = some (.slice e)) (A : Option Addr) (n c n' c' : Nat) (w : World) : (binOp .neq t (.slice A n c) (.slice none n' c')).run P w = .ok (.bool (!A.isNone)) w := by
  have key : ∀ d, (Op.equalIn (d + 1) t (.slice A n c) (.slice none n' c')).run P w = .ok A.isNone w := fun d => by
    cases A <;> simp [Op.equalIn, run_underlying h]
  simp only [binOp, Op.equal, Op.maxDepth, Sem.run_bind]
  rw [key 9999]
  rfl

/-- string(b). -/
theorem run_toS {s d e : TypeId} (hs : P.underlying s = some (.slice e)) (he : P.underlying e = some (.int .u8)) (hd : P.underlying d = some .string) {v : Value} {bs : List UInt8} (hr : Rd w 1 v bs.length (bv bs)) :
    (convert s d v).run P w = .ok (.string (mkS bs)) w := by
  obtain ⟨A, c, rfl, hl, _, hx⟩ := hr
  rw [run_convert_bytes_string w s d e A _ c hs he hd]
  have key : ∀ (l : List UInt8) (acc : ByteArray), (l.map (fun b : UInt8 => (b.toNat : Int))).foldl (fun r n => r.push (UInt8.ofNat n.toNat)) acc = acc ++ mkS l := by
    intro l
    induction l with
    | nil => intro acc; show acc = acc ++ mkS []; rw [mkS_nil]; simp
    | cons b l ih =>
      intro acc
      simp only [List.map_cons, List.foldl_cons, Int.toNat_natCast, UInt8.ofNat_toNat]
      rw [ih]
      apply ByteArray.ext
      simp [mkS, ByteArray.push, ByteArray.data_append]
  rcases Nat.eq_zero_or_pos bs.length with h0 | h0
  · have : bs = [] := List.eq_nil_of_length_eq_zero h0
    subst this
    cases A <;> simp [Conv.bytesToString, mkS_nil, loadCells, loadCellsFrom]
  · obtain ⟨b, o, rfl, hcell⟩ := hx h0
    have hload : (loadCells ⟨b, o, none⟩ bs.length).run P w = .ok ((bs.map (fun b : UInt8 => (b.toNat : Int))).map (Value.int .u8)).toArray w := by
      have := run_firstCells_some (P := P) w 1 bs.length ⟨b, o, none⟩ bs.length c (bv bs) (by simp) (fun j u hu => by rw [add_none]; exact hcell j u hu)
      simp only [Builtin.firstCells, Nat.mul_one] at this
      rw [this]
      simp [bv, byteV, Function.comp_def]
    rw [run_bytesToString w ⟨b, o, none⟩ _ c _ hload, key]
    simp

theorem wpl_toS {s d e : TypeId} (hs : P.underlying s = some (.slice e)) (he : P.underlying e = some (.int .u8)) (hd : P.underlying d = some .string) (hgd : Region.wanted o (yielded ops a.tmps) = true) (x : Operand) (ho : o.op = .convert s d x)
    {v : Value} (hx : a.eval x = v) {bs : List UInt8} (hr : Rd w 1 v bs.length (bv bs)) (h : wpList P ops Q rest (a.put o.dst (.string (mkS bs))) w) : wpList P ops Q (o :: rest) a w := by
  refine wpList_step fun K hK => ?_
  rw [if_pos hgd]
  unfold Oper.wp execOp
  simp only [ho, hx, Sem.run_bind, run_toS hs he hd hr, Result.andThen_ok, Sem.run_pure]
  exact hK _ _ h

end
end Go.Mem
