/-
  The document's disk: cut, bytes, how many are safe.
-/
import Derived.Test.YtfdioobkbdgbmaaDisk7
namespace Go.Proofs.Ytfdioobkbdgbmaa
open Go.RowKit Go.Mem

set_option maxHeartbeats 1000000 in
theorem ref_cut_bad (r : Nat) (size : Int) (n : Int) (v : Value) (L : List (UInt8 × Bool)) (w : World) (hd : RefIs w r size v L) (hn : n < 0 ∨ (L.length : Int) < n) :
    Calls Try.prog 17 #[.pointer (some ⟨r, 0, none⟩), .int .i64 n] w fun e w' => e = .returned (.bool false) ∧ Kept [] w w' := by
  obtain ⟨A, c, rfl, hc⟩ := hd.shape
  have c1 := hd.blk.cell 1
  simp at c1
  rcases hn with hn | hn
  · go_enter Try.func17, Try.ntmps17
    go_wp2
    go_ret
    exact ⟨rfl, Kept.refl _ _⟩
  · have h0 : ¬ n < 0 := by omega
    go_enter Try.func17, Try.ntmps17
    go_wp2
    go_ret
    exact ⟨rfl, Kept.refl _ _⟩

theorem refCells_take (L : List (UInt8 × Bool)) (n : Nat) : (refCells L).take (n * 2) = refCells (L.take n) := by
  induction L generalizing n with
  | nil => simp [refCells]
  | cons x L ih =>
    cases n with
    | zero => simp [refCells]
    | succ n =>
      have e : ∀ (x : UInt8 × Bool) M, refCells (x :: M) = byteV x.1 :: Value.bool x.2 :: refCells M := by intro x M; simp [refCells]
      rw [e, show (n + 1) * 2 = n * 2 + 1 + 1 from by omega, List.take_succ_cons, List.take_succ_cons, ih, List.take_succ_cons, e]

set_option maxHeartbeats 1000000 in
theorem ref_cut_ok (r : Nat) (size : Int) (n : Nat) (v : Value) (L : List (UInt8 × Bool)) (w : World) (hd : RefIs w r size v L) (hn : n ≤ L.length) :
    Calls Try.prog 17 #[.pointer (some ⟨r, 0, none⟩), .int .i64 n] w fun e w' => e = .returned (.bool true) ∧ ∃ v', RefIs w' r size v' (L.take n) ∧ Kept [r] w w' ∧ v'.ownBlock = v.ownBlock := by
  obtain ⟨A, c, rfl, hc⟩ := hd.shape
  have c1 := hd.blk.cell 1
  have f1 := hd.blk.frozen 1
  simp at c1
  have h0 : ¬ (n : Int) < 0 := by omega
  have h1 : ¬ (L.length : Int) < n := by omega
  have hcut := hd.own.cut (lo := 0) (hi := n) (m := n) (Nat.zero_le _) hn (Nat.le_refl _) (by omega)
  simp only [Nat.zero_mul, map_add_zero, ite_self, Nat.sub_zero, List.drop_zero, refCells_take] at hcut
  have hcut2 := Lib.hid hcut
  clear hcut
  go_enter Try.func17, Try.ntmps17
  go_wp2
  go_ret
  have hob : (Value.slice A n n).ownBlock = (Value.slice A L.length c).ownBlock := by cases A <;> rfl
  have hne : (Value.slice A n n).ownBlock ≠ some r := by rw [hob]; exact hd.ne
  have hlen : (L.take n).length = n := by rw [List.length_take]; omega
  refine ⟨rfl, _, ⟨hd.blk.set_ 1 _, ?_⟩, (Kept.refl _ _).setCell (.inl (by simp)) _, hob⟩
  have := hcut2.out.setCell (p := ⟨r, 1, none⟩) hne (.slice A n n)
  rw [hlen]
  exact this

set_option maxRecDepth 100000 in
set_option maxHeartbeats 1000000 in
theorem ref_bytes (r : Nat) (size : Int) (v : Value) (L : List (UInt8 × Bool)) (w : World) (hd : RefIs w r size v L) (hb : L.length ≤ 1099511627776) :
    Calls Try.prog 18 #[.pointer (some ⟨r, 0, none⟩)] w fun e w' => ∃ v', e = .returned v' ∧ Ow w' 5 1 v' L.length (bv (L.map (·.1))) ∧ Kept [] w w' := by
  have hsh := hd.shape
  have c1 := hd.blk.cell 1
  simp at c1
  obtain ⟨A, c, hv, hc⟩ := hsh
  have hdw := Lib.hid hd
  clear hd
  subst hv
  go_enter Try.func18, Try.ntmps18
  go_wp2
  go_loopw [3, 11] (fun out i wr => ∃ k : Nat, k ≤ L.length ∧ i = .int .i64 k ∧ Ow wr 5 1 out k (bv ((L.take k).map (·.1))) ∧ Kept [] w wr ∧ Near none w.heap.size out) (fun _ i _ => L.length - (intOf i).toNat)
  case atStart => exact ⟨0, Nat.zero_le _, rfl, Ow.nil _ _ _, Kept.refl _ _, .inl rfl⟩
  case round =>
    obtain ⟨k, hk, rfl, ho, hk1, hn1⟩ := hrel
    by_cases hlt : k < L.length
    · have hs : bv ((L.take (k + 1)).map (·.1)) = bv ((L.take k).map (·.1)) ++ bv [L[k].1] := by rw [List.take_succ_eq_append_getElem hlt]; simp only [List.map_append, List.map_cons, List.map_nil, bv]
      have hd1 := hdw.out.kept hk1 (by simp) (by simp)
      obtain ⟨g, o, c2, heq, hcell, _, _, _⟩ := hd1.cells (by omega)
      have hcl := (hcell k (by omega)).1
      have hcl2 := (hcell k (by omega)).2
      cases heq
      clear hcell hd1
      generalize hx : L[k] = x at *
      have hx2 := Lib.hid hx
      clear hx
      obtain ⟨x1, x2⟩ := x
      dsimp only at hcl hcl2 hs
      have ho2 := Lib.hid ho
      have hk2 := Lib.hid hk1
      have hn2 := Lib.hid hn1
      have hs2 := Lib.hid hs
      clear ho hk1 hn1 hs
      go_wp2_with (at_builtin; refine wpl_app bytesT rfl (.tmp 15) (.tmp 18) rfl rfl (ho2.out.alloc _ |>.alloc _) rfl (m := 1) (news := bv [x1]) (Rd.alloc_at (by simp) rfl rfl (by omega)) (one_bv _) ?_ ?_ ?_)
      case refine_1 => omega
      case refine_2 => omega
      intro v' w2 hown2 hkk hnn
      have hkk2 := Lib.hid (Kept.fresh ((hk2.out.alloc (.cells #[.int .u8 x1.toNat, .bool x2] 51)).alloc (.cells #[.int .u8 x1.toNat] 5)) hkk (fun k hm => by
        have hm := mem_own hm
        rcases hn2.out with h | ⟨g, h, hg⟩
        · rw [h] at hm; cases hm
        · rw [h] at hm; cases hm; exact hg))
      have hnn2 := Lib.hid (hn2.out.step hnn (by have := hk2.out.size; simp; omega))
      have ho3 := Lib.hid hown2
      clear hkk hnn hown2
      go_wp2
      go_roundw
      case rel => exact ⟨k + 1, by omega, by go_num, by rw [hs2.out]; have := ho3.out; simpa [bv, List.map_take] using this, hkk2.out, hnn2.out⟩
      case measure => simp [intOf]; omega
    · have hkl : k = L.length := by omega
      subst hkl
      rw [List.take_length] at ho
      have ho2 := Lib.hid ho
      have hk2 := Lib.hid hk1
      clear ho hk1 hn1
      go_wp2
      go_ret
      exact ⟨_, rfl, ho2.out, hk2.out⟩

def safes (L : List (UInt8 × Bool)) : Nat := (L.filter (·.2)).length
theorem safes_take_succ (L : List (UInt8 × Bool)) (k : Nat) (h : k < L.length) : safes (L.take (k + 1)) = safes (L.take k) + if L[k].2 = true then 1 else 0 := by
  rw [List.take_succ_eq_append_getElem h]
  simp only [safes, List.filter_append, List.length_append]
  congr 1
  cases hx : L[k].2 <;> simp [List.filter, hx]
theorem safes_le (L : List (UInt8 × Bool)) : safes L ≤ L.length := List.length_filter_le _ _

set_option maxRecDepth 100000 in
set_option maxHeartbeats 1000000 in
theorem ref_safe (r : Nat) (size : Int) (v : Value) (L : List (UInt8 × Bool)) (w : World) (hd : RefIs w r size v L) (hb : L.length ≤ 1099511627776) :
    Calls Try.prog 20 #[.pointer (some ⟨r, 0, none⟩)] w fun e w' => e = .returned (.int .i64 (safes L)) ∧ Kept [] w w' := by
  have hsh := hd.shape
  have c1 := hd.blk.cell 1
  simp at c1
  obtain ⟨A, c, hv, hc⟩ := hsh
  have hdw := Lib.hid hd
  clear hd
  subst hv
  go_enter Try.func20, Try.ntmps20
  go_wp2
  go_loopw [3, 11] (fun out i wr => ∃ k : Nat, k ≤ L.length ∧ i = .int .i64 k ∧ out = .int .i64 (safes (L.take k)) ∧ Kept [] w wr) (fun _ i _ => L.length - (intOf i).toNat)
  case atStart => exact ⟨0, Nat.zero_le _, rfl, rfl, Kept.refl _ _⟩
  case round =>
    obtain ⟨k, hk, rfl, rfl, hk1⟩ := hrel
    have hsl := safes_le (L.take k)
    have hll : (L.take k).length ≤ k := by rw [List.length_take]; omega
    by_cases hlt : k < L.length
    · have hs := safes_take_succ L k hlt
      have hd1 := hdw.out.kept hk1 (by simp) (by simp)
      obtain ⟨g, o, c2, heq, hcell, _, _, _⟩ := hd1.cells (by omega)
      have hcl := (hcell k (by omega)).1
      have hcl2 := (hcell k (by omega)).2
      cases heq
      clear hcell hd1
      generalize hx : L[k] = x at *
      have hx2 := Lib.hid hx
      clear hx
      obtain ⟨x1, x2⟩ := x
      dsimp only at hcl hcl2 hs
      have hk2 := Lib.hid hk1
      have hs2 := Lib.hid hs
      clear hk1 hs
      have hcc : (safes (L.take k) : Int) ≤ 1099511627776 := by omega
      cases x2
      all_goals
        go_wp2
        go_roundw
        case rel => exact ⟨k + 1, by omega, by go_num, by rw [hs2.out]; rfl, hk2.out.alloc _⟩
        case measure => simp [intOf]; omega
    · have hkl : k = L.length := by omega
      subst hkl
      rw [List.take_length]
      have hk2 := Lib.hid hk1
      clear hk1
      go_wp2
      go_ret
      exact ⟨rfl, hk2.out⟩

end Go.Proofs.Ytfdioobkbdgbmaa
