/-
  The document's disk, the other methods.
-/
import Derived.Test.YtfdioobkbdgbmaaDisk6
namespace Go.Proofs.Ytfdioobkbdgbmaa
open Go.RowKit Go.Mem

theorem RefIs.cells {w : World} {r : Nat} {size : Int} {v : Value} {L : List (UInt8 × Bool)} (h : RefIs w r size v L) (hL : 0 < L.length) :
    ∃ g o c, v = .slice (some ⟨g, o, none⟩) L.length c ∧ (∀ k (hk : k < L.length), w.cell? ⟨g, o + k * 2, none⟩ = some (.int .u8 L[k].1.toNat) ∧ w.cell? ⟨g, o + k * 2 + 1, none⟩ = some (.bool L[k].2)) ∧ (∀ i, w.frozen? ⟨g, i, none⟩ = false) ∧
      (∀ k (hk : k < L.length) (b : Bool), RefIs (w.setCell ⟨g, o + k * 2 + 1, none⟩ (.bool b)) r size v (L.set k (L[k].1, b))) ∧ g ≠ r := by
  obtain ⟨g, o, c, hv, _, hcell, hfr, hset⟩ := h.own.at_ hL
  refine ⟨g, o, c, hv, fun k hk => ?_, hfr, fun k hk b => ⟨h.blk.far ?_ _, ?_⟩, ?_⟩
  · have := refCells_at L k hk
    exact ⟨hcell _ _ this.1, by rw [Nat.add_assoc]; exact hcell _ _ this.2⟩
  · have := h.ne; rw [hv] at this; simpa [Value.ownBlock, eq_comm] using this
  · have := hset (k * 2 + 1) (.bool b) (by rw [refCells_length]; omega)
    rw [refCells_set L k hk b, ← Nat.add_assoc] at this
    simpa using this
  · have := h.ne; rw [hv] at this; simpa [Value.ownBlock] using this

def allSafe (L : List (UInt8 × Bool)) : List (UInt8 × Bool) := L.map (fun x => (x.1, true))
def partSafe (L : List (UInt8 × Bool)) (k : Nat) : List (UInt8 × Bool) := allSafe (L.take k) ++ L.drop k
theorem partSafe_length (L : List (UInt8 × Bool)) (k : Nat) : (partSafe L k).length = L.length := by simp [partSafe, allSafe]; omega
theorem partSafe_get (L : List (UInt8 × Bool)) (k : Nat) (h : k < L.length) (h' : k < (partSafe L k).length) : (partSafe L k)[k] = L[k] := by
  simp [partSafe, allSafe, List.getElem_append]
  rw [dif_neg (by omega)]
  congr 1
  omega
theorem partSafe_succ (L : List (UInt8 × Bool)) (k : Nat) (h : k < L.length) : (partSafe L k).set k (L[k].1, true) = partSafe L (k + 1) := by
  unfold partSafe allSafe
  rw [List.set_append, if_neg (by simp; omega)]
  rw [show k - (List.map (fun x => (x.fst, true)) (List.take k L)).length = 0 from by simp; omega]
  rw [List.drop_eq_getElem_cons h, List.set_cons_zero, List.take_succ_eq_append_getElem h]
  simp only [List.map_append, List.map_cons, List.map_nil, List.append_assoc, List.cons_append, List.nil_append]

set_option maxRecDepth 100000 in
set_option maxHeartbeats 1000000 in
theorem ref_sync (r : Nat) (size : Int) (v : Value) (L : List (UInt8 × Bool)) (w : World) (hd : RefIs w r size v L) (hb : L.length ≤ 1099511627776) :
    Calls Try.prog 14 #[.pointer (some ⟨r, 0, none⟩)] w fun e w' => e = .returned (.tuple #[]) ∧ RefIs w' r size v (allSafe L) ∧ Kept (r :: v.ownBlock.toList) w w' := by
  have hsh := hd.shape
  have c1 := hd.blk.cell 1
  simp at c1
  obtain ⟨A, c, hv, hc⟩ := hsh
  have hdw := Lib.hid hd
  clear hd
  generalize hS : r :: v.ownBlock.toList = S at *
  have hS2 := Lib.hid hS
  clear hS
  have hv2 := Lib.hid hv
  subst hv
  go_enter Try.func14, Try.ntmps14
  go_wp2
  go_loopw [8] (fun i wr => ∃ k : Nat, k ≤ L.length ∧ i = .int .i64 k ∧ RefIs wr r size (.slice A L.length c) (partSafe L k) ∧ Kept S w wr) (fun i _ => L.length - (intOf i).toNat)
  case atStart => exact ⟨0, Nat.zero_le _, rfl, by simpa [partSafe, allSafe] using hdw.out, Kept.refl _ _⟩
  case round =>
    obtain ⟨k, hk, rfl, hd1, hk1⟩ := hrel
    have hl := partSafe_length L k
    by_cases hlt : k < L.length
    · obtain ⟨g, o, c2, heq, hcell, hfr, hset, hgr⟩ := hd1.cells (by omega)
      have hcl := (hcell k (by omega)).2
      have hst := hset k (by omega) true
      have hfr2 := hfr (o + k * 2 + 1)
      rw [partSafe_get L k hlt (by omega), partSafe_succ L k hlt] at hst
      rw [partSafe_get L k hlt (by omega)] at hcl
      rw [hl] at heq
      cases heq
      have c1' := hd1.blk.cell 1
      simp at c1'
      have hst2 := Lib.hid hst
      have hk2 := Lib.hid hk1
      clear hcell hset hst hd1 hk1 hfr hl
      go_wp2
      go_roundw
      case rel => exact ⟨k + 1, by omega, by go_num, hst2.out, hk2.out.setCell (.inl (by rw [← hS2.out]; simp [Value.ownBlock])) _⟩
      case measure => simp [intOf]; omega
    · have hkl : k = L.length := by omega
      subst hkl
      clear hl
      go_wp2
      go_end0
      exact ⟨rfl, by simpa [partSafe] using hd1, hk1⟩

/-- What a crash leaves. -/
def crashStep (x : UInt8 × Bool) (s : List (UInt8 × Bool) × Int) : List (UInt8 × Bool) × Int :=
  if x.2 then (s.1 ++ [(x.1, true)], s.2) else if 0 < s.2 then (s.1 ++ [(x.1, true)], s.2 - 1) else s
def crashed (L : List (UInt8 × Bool)) (k : Int) : List (UInt8 × Bool) × Int := L.foldl (fun s x => crashStep x s) ([], k)
theorem crashed_take_succ (L : List (UInt8 × Bool)) (k : Int) (i : Nat) (h : i < L.length) : crashed (L.take (i + 1)) k = crashStep L[i] (crashed (L.take i) k) := by
  rw [List.take_succ_eq_append_getElem h]; simp only [crashed, List.foldl_append, List.foldl_cons, List.foldl_nil]
theorem crashed_length (L : List (UInt8 × Bool)) (k : Int) (i : Nat) (h : i ≤ L.length) : (crashed (L.take i) k).1.length ≤ i := by
  induction i with
  | zero => simp [crashed]
  | succ i ih =>
    rw [crashed_take_succ L k i (by omega)]
    have := ih (by omega)
    unfold crashStep
    split
    · simp; omega
    · split
      · simp; omega
      · omega
theorem crashed_low (L : List (UInt8 × Bool)) (k : Int) (i : Nat) (h : i ≤ L.length) (lo : -9223372036854775808 ≤ k) (hi : k ≤ 9223372036854775807) : -9223372036854775808 ≤ (crashed (L.take i) k).2 ∧ (crashed (L.take i) k).2 ≤ 9223372036854775807 := by
  induction i with
  | zero => simp [crashed]; omega
  | succ i ih =>
    rw [crashed_take_succ L k i (by omega)]
    have := ih (by omega)
    unfold crashStep
    split
    · exact this
    · split
      · simp; omega
      · exact this

set_option maxRecDepth 100000 in
set_option maxHeartbeats 2000000 in
theorem ref_crash (r : Nat) (size : Int) (v : Value) (kp : Int) (L : List (UInt8 × Bool)) (w : World) (hd : RefIs w r size v L) (hb : L.length ≤ 1099511627776) (lo : -9223372036854775808 ≤ kp) (hi : kp ≤ 9223372036854775807) :
    Calls Try.prog 15 #[.pointer (some ⟨r, 0, none⟩), .int .i64 kp] w fun e w' => e = .returned (.tuple #[]) ∧ ∃ v', RefIs w' r size v' (crashed L kp).1 ∧ Kept [r] w w' ∧ Near none w.heap.size v' := by
  have hsh := hd.shape
  have c1 := hd.blk.cell 1
  simp at c1
  obtain ⟨A, c, hv, hc⟩ := hsh
  have hdw := Lib.hid hd
  clear hd
  subst hv
  go_enter Try.func15, Try.ntmps15
  go_wp2
  go_loopw [1, 4, 12] (fun kk out i wr => ∃ k : Nat, k ≤ L.length ∧ i = .int .i64 k ∧ kk = .int .i64 (crashed (L.take k) kp).2 ∧ Ow wr 51 2 out (crashed (L.take k) kp).1.length (refCells (crashed (L.take k) kp).1) ∧ Kept [] w wr ∧ Near none w.heap.size out) (fun _ _ i _ => L.length - (intOf i).toNat)
  case atStart => exact ⟨0, Nat.zero_le _, rfl, by simp [crashed], Ow.nil _ _ _, Kept.refl _ _, .inl rfl⟩
  case round =>
    obtain ⟨k, hk, rfl, rfl, ho, hk1, hn1⟩ := hrel
    have hlow := crashed_low L kp k hk lo hi
    have hlen := crashed_length L kp k hk
    by_cases hlt : k < L.length
    · have hs := crashed_take_succ L kp k hlt
      have hd1 := hdw.out.kept hk1 (by simp) (by simp)
      obtain ⟨g, o, c2, heq, hcell, _, _, _⟩ := hd1.cells (by omega)
      have hcl := (hcell k (by omega)).1
      have hcl2 := (hcell k (by omega)).2
      cases heq
      clear hcell hd1
      generalize hx : L[k] = x at *
      have hx2 := Lib.hid hx
      clear hx
      obtain ⟨x1, x2⟩ := x
      dsimp only at hcl hcl2
      have ho2 := Lib.hid ho
      have hk2 := Lib.hid hk1
      have hn2 := Lib.hid hn1
      have hs2 := Lib.hid hs
      clear ho hk1 hn1 hs
      cases x2 with
      | true =>
        go_wp2_with (at_builtin; refine wpl_app refT rfl (.tmp 27) (.tmp 31) rfl rfl (ho2.out.alloc _ |>.alloc _) rfl (m := 1) (news := refCells [(x1, true)]) (Rd.alloc_at (by simp) rfl rfl (by omega)) (refCells_one _) ?_ ?_ ?_)
        case refine_1 => omega
        case refine_2 => omega
        intro v' w2 hown2 hkk hnn
        have hkk2 := Lib.hid (Kept.fresh ((hk2.out.alloc (.cells #[.int .u8 x1.toNat, .bool true] 51)).alloc (.cells #[.int .u8 x1.toNat, .bool true] 51)) hkk (fun k hm => by
          have hm := mem_own hm
          rcases hn2.out with h | ⟨g, h, hg⟩
          · rw [h] at hm; cases hm
          · rw [h] at hm; cases hm; exact hg))
        have hnn2 := Lib.hid (hn2.out.step hnn (by have := hk2.out.size; simp; omega))
        have ho3 := Lib.hid hown2
        clear hkk hnn hown2
        go_wp2
        go_roundw
        case rel =>
          refine ⟨k + 1, by omega, by go_num, ?_, ?_, hkk2.out, hnn2.out⟩
          · rw [hs2.out]; rfl
          · rw [hs2.out]; have := ho3.out; rw [← refCells_append] at this; simpa [crashStep] using this
        case measure => simp [intOf]; omega
      | false =>
        by_cases hpos : 0 < (crashed (L.take k) kp).2
        · go_wp2_with (at_builtin; refine wpl_app refT rfl (.tmp 27) (.tmp 31) rfl rfl (ho2.out.alloc _ |>.alloc _) rfl (m := 1) (news := refCells [(x1, true)]) (Rd.alloc_at (by simp) rfl rfl (by omega)) (refCells_one _) ?_ ?_ ?_)
          case refine_1 => omega
          case refine_2 => omega
          intro v' w2 hown2 hkk hnn
          have hkk2 := Lib.hid (Kept.fresh ((hk2.out.alloc (.cells #[.int .u8 x1.toNat, .bool false] 51)).alloc (.cells #[.int .u8 x1.toNat, .bool true] 51)) hkk (fun k hm => by
            have hm := mem_own hm
            rcases hn2.out with h | ⟨g, h, hg⟩
            · rw [h] at hm; cases hm
            · rw [h] at hm; cases hm; exact hg))
          have hnn2 := Lib.hid (hn2.out.step hnn (by have := hk2.out.size; simp; omega))
          have ho3 := Lib.hid hown2
          clear hkk hnn hown2
          go_wp2
          go_roundw
          case rel =>
            refine ⟨k + 1, by omega, by go_num, ?_, ?_, hkk2.out, hnn2.out⟩
            · rw [hs2.out]; simp [crashStep, hpos]
            · rw [hs2.out]; have := ho3.out; rw [← refCells_append] at this; simpa [crashStep, hpos] using this
          case measure => simp [intOf]; omega
        · go_wp2
          go_roundw
          case rel =>
            refine ⟨k + 1, by omega, by go_num, ?_, ?_, (hk2.out.alloc _), hn2.out⟩
            · rw [hs2.out]; simp [crashStep, hpos]
            · rw [hs2.out]; simpa [crashStep, hpos] using ho2.out.alloc _
          case measure => simp [intOf]; omega
    · have hkl : k = L.length := by omega
      subst hkl
      rw [List.take_length] at ho
      have hd1 := hdw.out.kept hk1 (by simp) (by simp)
      have c1' := hd1.blk.cell 1
      have f1' := hd1.blk.frozen 1
      simp at c1'
      obtain ⟨A2, c2, rfl, _⟩ := ho.shape
      have ho2 := Lib.hid ho
      have hk2 := Lib.hid hk1
      have hn2 := Lib.hid hn1
      have hb1 := Lib.hid hd1.blk
      clear ho hk1 hn1 hd1 hlow hlen
      go_wp2
      go_end0
      have hne := ho2.out.blk_ne hb1.out (by decide)
      exact ⟨rfl, _, ⟨hb1.out.set_ 1 _, ho2.out.setCell (p := ⟨r, 1, none⟩) hne _⟩, (Kept.of0 hk2.out).setCell (.inl (by simp)) _, hn2.out⟩

end Go.Proofs.Ytfdioobkbdgbmaa
