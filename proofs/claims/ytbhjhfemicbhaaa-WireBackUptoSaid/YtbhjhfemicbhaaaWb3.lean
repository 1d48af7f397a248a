/-
  The wire: what is written is read again (WireBack): the plain law; the walk.
-/
import Derived.Test.YtbhjhfemicbhaaaWb2
namespace Go.Proofs.Ytbhjhfemicbhaaa
open Go.RowKit Go.Mem Go.Txt

abbrev It := Int × Nat × Value × List UInt8
/-- Of which kind. -/
def kd (o : It) : Nat := (o.1 % 18446744073709551616 % 5).toNat
theorem kd_lt (o : It) : kd o < 5 := by unfold kd; omega
theorem kd_q (o : It) : (IntKind.u64.wrap o.1).tmod 5 = ((kd o : Nat) : Int) := by
  rw [IntKind.wrap_u64]
  have h0 : 0 ≤ o.1 % 18446744073709551616 := Int.emod_nonneg _ (by omega)
  rw [Int.tmod_eq_emod_of_nonneg h0]
  unfold kd
  omega
/-- What is written of it. -/
def pc (o : It) : List UInt8 :=
  if kd o = 0 then be8 o.2.1 else if kd o = 1 then form o.2.2.2 else if kd o = 2 then fixB 32 o.2.2.2 else if kd o = 3 then fixB 64 o.2.2.2 else be8 (o.2.1 % 65537)
def pcs (l : List It) : List UInt8 := l.flatMap pc
theorem pcs_nil : pcs [] = [] := rfl
theorem pcs_succ (l : List It) (k : Nat) (h : k < l.length) : pcs (l.take (k + 1)) = pcs (l.take k) ++ pc l[k] := by
  unfold pcs
  rw [List.take_succ_eq_append_getElem h, List.flatMap_append]
  simp
theorem pcs_drop (l : List It) (k : Nat) (h : k < l.length) : pcs (l.drop k) = pc l[k] ++ pcs (l.drop (k + 1)) := by
  unfold pcs
  rw [List.drop_eq_getElem_cons h, List.flatMap_cons]
theorem pc_len (o : It) (h : o.2.2.2.length ≤ 1048576) : (pc o).length ≤ 1048584 := by
  unfold pc
  split
  · rw [be8_len]; omega
  · split
    · rw [form, List.length_append, be8_len]; omega
    · split
      · rw [fixB_len]; omega
      · split
        · rw [fixB_len]; omega
        · rw [be8_len]; omega
theorem pcs_len : ∀ (l : List It), (∀ o ∈ l, o.2.2.2.length ≤ 1048576) → (pcs l).length ≤ l.length * 1048584
  | [], _ => by simp [pcs]
  | o :: l, h => by
    have h1 := pc_len o (h o (by simp))
    have h2 := pcs_len l fun x hx => h x (by simp [hx])
    have e : pcs (o :: l) = pc o ++ pcs l := by simp [pcs]
    rw [e, List.length_append, List.length_cons]
    omega
/-- What is read of it. -/
theorem rd_take (n : Nat) (x r : List UInt8) (h : x.length = n) : sTake n (0, x ++ r) = (x, (0, r)) := by
  unfold sTake
  rw [if_pos rfl, if_pos (by simp; omega)]
  simp [← h]
theorem sArr_fix (n : Nat) (xs r : List UInt8) : sArr n (0, fixB n xs ++ r) = (fixB n xs, (0, r)) := by
  unfold sArr
  rw [rd_take n _ _ (fixB_len n xs)]
  simp only
  rw [over_all _ _ (by rw [fixB_len]; simp)]
theorem sBytes_form (xs r : List UInt8) (h : xs.length ≤ 1048576) : sBytes (0, form xs ++ r) = (xs, (0, r)) := by
  have e := sNum_be8' xs.length (xs ++ r) (by omega)
  have e2 : sBnd 1048576 (0, form xs ++ r) = (xs.length, (0, xs ++ r)) := by
    unfold sBnd form
    rw [List.append_assoc, e, if_neg (by simp only; omega)]
  unfold sBytes
  rw [e2]
  exact rd_take _ _ _ rfl
theorem sBnd_num (n : Nat) (r : List UInt8) (h : n ≤ 65536) : sBnd 65536 (0, be8 n ++ r) = (n, (0, r)) := by
  unfold sBnd
  rw [sNum_be8' n r (by omega), if_neg (by simp only; omega)]

/-- What was written, and what the document wrote. -/
def Sep (a b : Value) : Prop := ∀ g, a.ownBlock = some g → b.ownBlock ≠ some g
structure Wr (w1 wk : World) (p q : Value) (X : List UInt8) : Prop where
  b : New w1 wk p X
  w : New w1 wk q X
  sep : Sep p q
/-- Between the two. -/
structure Md (w1 wk : World) (p q : Value) (X Y : List UInt8) (g : Nat) (cs : Array Value) : Prop where
  b : New w1 wk p (X ++ Y)
  w : New w1 wk q X
  sep : Sep p q
  i : Blk wk g 52 cs
theorem New.pre {w w1 w2 : World} {v : Value} {xs : List UInt8} (hk : Kept [] w w1) (h : New w1 w2 v xs) : New w w2 v xs := by
  refine ⟨h.ow, hk.then0 h.kept, ?_⟩
  rcases h.near with h3 | ⟨g, h3, hg⟩
  · exact .inl h3
  · exact .inr ⟨g, h3, by have := hk.size; omega⟩
theorem Wr.next {w1 wk w2 : World} {b v ov : Value} {X Y : List UInt8} (H : Wr w1 wk b v X) {g : Nat} {cs : Array Value} (hi : Blk wk g 52 cs) (h : New wk w2 ov (X ++ Y)) : Md w1 w2 ov v X Y g cs := by
  refine ⟨h.pre H.b.kept, H.w.then0 h.kept, fun x hx hv => ?_, hi.kept h.kept (by simp)⟩
  have := H.w.ow.lt hv
  rcases h.near with h3 | ⟨g', h3, hg⟩
  · rw [hx] at h3; cases h3
  · rw [hx] at h3; have : x = g' := by simpa using h3
    omega
theorem Md.kept {w1 wk w2 : World} {b v : Value} {X Y : List UInt8} {g : Nat} {cs : Array Value} (H : Md w1 wk b v X Y g cs) (hk : Kept [] wk w2) : Md w1 w2 b v X Y g cs := ⟨H.b.then0 hk, H.w.then0 hk, H.sep, H.i.kept hk (by simp)⟩
theorem Wr.kept {w1 wk w2 : World} {b v : Value} {X : List UInt8} (H : Wr w1 wk b v X) (hk : Kept [] wk w2) : Wr w1 w2 b v X := ⟨H.b.then0 hk, H.w.then0 hk, H.sep⟩
theorem Wr.put {w1 wk w2 : World} {b v : Value} {X : List UInt8} {g : Nat} {cs : Array Value} (H : Wr w1 wk b v X) (hb : Blk wk g 52 cs) (hg : w1.heap.size ≤ g) (hk : Kept [g] wk w2) : Wr w1 w2 b v X := by
  have hn : ∀ y, y = b ∨ y = v → ∀ k, y.ownBlock = some k → k ∉ [g] := fun y hy k hk2 hm => by
    have hkg : k = g := by simpa using hm
    subst hkg
    rcases hy with rfl | rfl
    · exact H.b.ow.blk_ne hb (by decide) hk2
    · exact H.w.ow.blk_ne hb (by decide) hk2
  exact ⟨⟨H.b.ow.kept hk (hn _ (.inl rfl)), H.b.kept.then1 hk hg, H.b.near⟩, ⟨H.w.ow.kept hk (hn _ (.inr rfl)), H.w.kept.then1 hk hg, H.w.near⟩, H.sep⟩
theorem Md.app {w1 w2 w4 : World} {b v v' : Value} {X Y : List UInt8} {g : Nat} {cs : Array Value} (H : Md w1 w2 b v X Y g cs) {n m : Nat} (hn : n = X.length) (hm : m = Y.length) (hown : Ow w4 5 1 v' (n + m) (bv X ++ bv Y)) (hk : Kept v.ownBlock.toList w2 w4) (hb2 : v'.ownBlock = v.ownBlock ∨ v'.ownBlock = some w2.heap.size) : Wr w1 w4 b v' (X ++ Y) := by
  subst hn hm
  refine ⟨⟨H.b.ow.kept hk fun k hk2 hm => ?_, ?_, H.b.near⟩, H.w.step (by rw [List.length_append]; simpa [bv] using hown) hk H.w.old ?_, fun k hk2 hv => ?_⟩
  · exact H.sep k hk2 (mem_own hm)
  · exact H.w.kept.fresh hk H.w.old
  · rcases hb2 with h | h
    · exact .inl h
    · exact .inr ⟨_, h, H.b.kept.size⟩
  · rcases hb2 with h | h
    · rw [h] at hv; exact H.sep k hk2 hv
    · rw [h] at hv
      have := H.b.ow.lt hk2
      have : w2.heap.size = k := by simpa using hv
      omega
theorem parts2 (W : World) {a b : Value} {xs ys : List UInt8} (ha : Rd W 1 a xs.length (bv xs)) (hb : Rd W 1 b ys.length (bv ys)) : Parts (W.alloc (.cells #[a, b] 24)) (.slice (some ⟨W.heap.size, 0, none⟩) 2 2) [(a, xs), (b, ys)] := by
  refine ⟨Rd.alloc_at (n := 2) rfl rfl rfl (by omega), fun y hy => ?_⟩
  simp only [List.mem_cons, List.mem_nil_iff, or_false] at hy
  rcases hy with rfl | rfl
  · exact ha.alloc _
  · exact hb.alloc _
theorem parts3 (W : World) {a b : Value} {xs ys : List UInt8} (ha : Rd W 1 a xs.length (bv xs)) (hb : Rd W 1 b ys.length (bv ys)) : Parts (W.alloc (.cells #[a, .slice none 0 0, b] 24)) (.slice (some ⟨W.heap.size, 0, none⟩) 3 3) [(a, xs), (.slice none 0 0, []), (b, ys)] := by
  refine ⟨Rd.alloc_at (n := 3) rfl rfl rfl (by omega), fun y hy => ?_⟩
  simp only [List.mem_cons, List.mem_nil_iff, or_false] at hy
  rcases hy with rfl | rfl | rfl
  · exact ha.alloc _
  · exact Rd.nil _ _
  · exact hb.alloc _
theorem structIt : RowT Try.prog 52 3 := ⟨⟨_, Try.underlying52, rfl⟩, by kernel_rfl⟩
theorem zeroIt : (Try.prog.info? 52).map (·.zero) = some (some (itemV 0 0 (.slice none 0 0))) := by kernel_rfl
end Go.Proofs.Ytbhjhfemicbhaaa
