/-
  The document's disk: what each call does to the world.
-/
import Derived.Test.YtfdioobkbdgbmaaDisk5
import Derived.Test.YtfdioobkbdgbmaaMem3
namespace Go.Proofs.Ytfdioobkbdgbmaa
open Go.RowKit Go.Mem

theorem refT : SliceT Try.prog 35 51 2 2 (.agg #[.int .u8 0, .bool false]) := ⟨Try.underlying35, by kernel_rfl, rfl, by omega⟩

def refCells (L : List (UInt8 × Bool)) : List Value := L.flatMap (fun x => [byteV x.1, .bool x.2])
theorem refCells_append (L M : List (UInt8 × Bool)) : refCells (L ++ M) = refCells L ++ refCells M := by simp [refCells]
theorem refCells_length (L : List (UInt8 × Bool)) : (refCells L).length = L.length * 2 := by
  induction L with
  | nil => rfl
  | cons x L ih => simp [refCells] at ih ⊢; omega
theorem refCells_one (L : List (UInt8 × Bool)) : ∀ u ∈ refCells L, u.oneCell' = true := by
  intro u hu
  obtain ⟨x, _, hx⟩ := List.mem_flatMap.1 hu
  simp at hx
  rcases hx with rfl | rfl <;> rfl
theorem refCells_at : ∀ (L : List (UInt8 × Bool)) (k : Nat) (h : k < L.length), (refCells L)[k * 2]? = some (byteV L[k].1) ∧ (refCells L)[k * 2 + 1]? = some (.bool L[k].2)
  | [], _, h => by simp at h
  | x :: L, 0, _ => by simp [refCells]
  | x :: L, k + 1, h => by
    have := refCells_at L k (by simpa using h)
    have e : refCells (x :: L) = byteV x.1 :: Value.bool x.2 :: refCells L := by simp [refCells]
    rw [e]
    rw [show (k + 1) * 2 = k * 2 + 1 + 1 from by omega, show k * 2 + 1 + 1 + 1 = (k * 2 + 1) + 1 + 1 from by omega]
    simp only [List.getElem?_cons_succ]
    simpa using this
theorem refCells_set : ∀ (L : List (UInt8 × Bool)) (k : Nat) (h : k < L.length) (c : Bool), (refCells L).set (k * 2 + 1) (.bool c) = refCells (L.set k (L[k].1, c))
  | [], _, h, _ => by simp at h
  | x :: L, 0, _, _ => by simp [refCells]
  | x :: L, k + 1, h, c => by
    have := refCells_set L k (by simpa using h) c
    have e : ∀ (x : UInt8 × Bool) M, refCells (x :: M) = byteV x.1 :: Value.bool x.2 :: refCells M := by intro x M; simp [refCells]
    rw [e, show (k + 1) * 2 + 1 = (k * 2 + 1) + 1 + 1 from by omega]
    simp only [List.set_cons_succ, List.getElem_cons_succ, e]
    rw [this]

structure RefIs (w : World) (r : Nat) (size : Int) (v : Value) (L : List (UInt8 × Bool)) : Prop where
  blk : Blk w r 37 #[.int .i64 size, v]
  own : Ow w 51 2 v L.length (refCells L)

theorem RefIs.ne {w : World} {r : Nat} {size : Int} {v : Value} {L : List (UInt8 × Bool)} (h : RefIs w r size v L) : v.ownBlock ≠ some r := h.own.blk_ne h.blk (by decide)
theorem RefIs.shape {w : World} {r : Nat} {size : Int} {v : Value} {L : List (UInt8 × Bool)} (h : RefIs w r size v L) : ∃ A c, v = .slice A L.length c ∧ L.length ≤ c := h.own.shape
theorem RefIs.kept {S : List Nat} {w w' : World} {r : Nat} {size : Int} {v : Value} {L : List (UInt8 × Bool)} (h : RefIs w r size v L) (hk : Kept S w w') (h1 : r ∉ S) (h2 : ∀ k, v.ownBlock = some k → k ∉ S) : RefIs w' r size v L := ⟨h.blk.kept hk h1, h.own.kept hk h2⟩
theorem RefIs.drew {w : World} {r : Nat} {size : Int} {v : Value} {L : List (UInt8 × Bool)} (h : RefIs w r size v L) : RefIs w.drew r size v L := ⟨h.blk, h.own⟩
theorem RefIs.alloc {w : World} {r : Nat} {size : Int} {v : Value} {L : List (UInt8 × Bool)} (h : RefIs w r size v L) (o : Obj) : RefIs (w.alloc o) r size v L := ⟨h.blk.alloc o, h.own.alloc o⟩

def unsafeB (l : List UInt8) : List (UInt8 × Bool) := l.map (fun b => (b, false))

set_option maxHeartbeats 1000000 in
theorem ref_append_full (r : Nat) (size : Int) (v pv : Value) (L : List (UInt8 × Bool)) (ps : List (Value × List UInt8)) (S : List Nat) (w : World)
    (hd : RefIs w r size v L) (hp : Parts w S pv ps) (hn : (ps.length : Int) ≤ 9223372036854775807) (hb : (L.length : Int) + total ps ≤ 9223372036854775807) (hf : size < (L.length : Int) + total ps) :
    Calls Try.prog 13 #[.pointer (some ⟨r, 0, none⟩), pv] w fun e w' => e = .returned (.bool false) ∧ Kept [] w w' := by
  obtain ⟨A, c, rfl, hc⟩ := hd.shape
  have c0 := hd.blk.cell 0
  have c1 := hd.blk.cell 1
  simp at c0 c1
  obtain ⟨PA, pc, rfl, hpl, hpc, hpx⟩ := hp.outer
  clear hpl hpc
  go_enter Try.func13, Try.ntmps13
  go_wp2
  go_loop [5, 14] (fun n i => ∃ k : Nat, k ≤ ps.length ∧ i = .int .i64 k ∧ n = .int .i64 (total (ps.take k))) (fun _ i => ps.length - (intOf i).toNat)
  case atStart => exact ⟨0, Nat.zero_le _, rfl, by simp [total]⟩
  case round =>
    obtain ⟨k, hk, rfl, rfl⟩ := hrel
    have ht := total_take_le ps k
    by_cases hlt : k < ps.length
    · obtain ⟨pb, po, rfl, hcell⟩ := hpx (by omega)
      obtain ⟨p1, p2, hpk⟩ : ∃ p1 p2, ps[k] = (p1, p2) := ⟨_, _, rfl⟩
      have ht1 := total_take_succ ps k hlt
      have ht2 := total_take_le ps (k + 1)
      rw [hpk] at ht1
      have hcl := hcell k p1 (by simp [hlt, hpk])
      obtain ⟨B, pc', hB, _, _, _⟩ := (hp.inner (p1, p2) (hpk ▸ List.getElem_mem _)).1
      dsimp only at hB ht1
      have hk1 : (total (ps.take k) + p2.length : Int) = total (ps.take (k + 1)) := by omega
      have hk1 := Lib.hid hk1
      have hle : (total (ps.take k) : Int) + p2.length ≤ 9223372036854775807 := by omega
      clear hpk ht1 hcell
      subst hB
      go_wp2
      refine ⟨⟨k + 1, by omega, by go_num, by rw [← hk1.out]⟩, by simp [intOf]; omega⟩
    · have hkl : k = ps.length := by omega
      subst hkl
      simp only [List.take_length]
      go_wp2
      refine Txt.wp_text (by kernel_rfl) (by kernel_rfl) ?_
      go_wp2
      refine ⟨rfl, by kernel_rfl, ?_⟩
      go_wp2
      go_ret
      exact ⟨rfl, (Kept.refl _ _).drew⟩

theorem unsafe_take_succ (p : List UInt8) (j : Nat) (h : j < p.length) : unsafeB (p.take (j + 1)) = unsafeB (p.take j) ++ [(p[j], false)] := by
  rw [List.take_succ_eq_append_getElem h]; simp only [unsafeB, List.map_append, List.map_cons, List.map_nil]

set_option maxRecDepth 100000 in
set_option maxHeartbeats 2000000 in
theorem ref_append_ok (r : Nat) (size : Int) (v pv : Value) (L : List (UInt8 × Bool)) (ps : List (Value × List UInt8)) (w : World)
    (hd : RefIs w r size v L) (hp : Parts w (r :: v.ownBlock.toList) pv ps) (hn : (ps.length : Int) ≤ 9223372036854775807) (hb : L.length + total ps ≤ 1099511627776) (hf : (L.length : Int) + total ps ≤ size) :
    Calls Try.prog 13 #[.pointer (some ⟨r, 0, none⟩), pv] w fun e w' => e = .returned (.bool true) ∧ ∃ v', RefIs w' r size v' (L ++ unsafeB (joined ps)) ∧ Kept (r :: v.ownBlock.toList) w w' ∧ Near v.ownBlock w.heap.size v' := by
  obtain ⟨A, c, hv, hc⟩ := hd.shape
  have c0 := hd.blk.cell 0
  have c1 := hd.blk.cell 1
  simp at c0 c1
  have hpw := Lib.hid hp
  obtain ⟨PA, pc, hpv, hpl, hpc, hpx⟩ := hp.outer
  have hdw := Lib.hid hd
  clear hpl hpc hd
  generalize hS : r :: v.ownBlock.toList = S at *
  have hS2 := Lib.hid hS
  generalize hvb : v.ownBlock = vb at *
  have hvb2 := Lib.hid hvb
  clear hS hvb
  subst hpv
  subst hv
  go_enter Try.func13, Try.ntmps13
  go_wp2
  go_loop [5, 14] (fun n i => ∃ k : Nat, k ≤ ps.length ∧ i = .int .i64 k ∧ n = .int .i64 (total (ps.take k))) (fun _ i => ps.length - (intOf i).toNat)
  case atStart => exact ⟨0, Nat.zero_le _, rfl, by simp [total]⟩
  case round =>
    obtain ⟨k, hk, rfl, rfl⟩ := hrel
    have ht := total_take_le ps k
    by_cases hlt : k < ps.length
    · obtain ⟨pb, po, rfl, hcell⟩ := hpx (by omega)
      obtain ⟨p1, p2, hpk⟩ : ∃ p1 p2, ps[k] = (p1, p2) := ⟨_, _, rfl⟩
      have ht1 := total_take_succ ps k hlt
      have ht2 := total_take_le ps (k + 1)
      rw [hpk] at ht1
      have hcl := hcell k p1 (by simp [hlt, hpk])
      obtain ⟨B, pc', hB, _, _, _⟩ := (hp.inner (p1, p2) (hpk ▸ List.getElem_mem _)).1
      dsimp only at hB ht1
      have hk1 : (total (ps.take k) + p2.length : Int) = total (ps.take (k + 1)) := by omega
      have hk2 := Lib.hid hk1
      have hle : (total (ps.take k) : Int) + p2.length ≤ 9223372036854775807 := by omega
      clear hpk ht1 hcell hk1
      subst hB
      go_wp2
      refine ⟨⟨k + 1, by omega, by go_num, by rw [← hk2.out]⟩, by simp [intOf]; omega⟩
    · have hkl : k = ps.length := by omega
      subst hkl
      simp only [List.take_length]
      clear hpx hp
      go_wp2
      refine Txt.wp_text (by kernel_rfl) (by kernel_rfl) ?_
      go_wp2
      refine ⟨rfl, by kernel_rfl, ?_⟩
      go_wp2
      go_loopw [37] (fun i wr => ∃ k : Nat, k ≤ ps.length ∧ i = .int .i64 k ∧ ∃ v', RefIs wr r size v' (L ++ unsafeB (joined (ps.take k))) ∧ Kept S w wr ∧ Near vb w.heap.size v') (fun i _ => ps.length - (intOf i).toNat)
      case atStart => exact ⟨0, Nat.zero_le _, rfl, _, by simpa [joined, unsafeB] using hdw.out.drew, (Kept.refl _ _).drew, .inl hvb2.out⟩
      case round =>
        obtain ⟨k, hk, rfl, v', hd', hk', hb'⟩ := hrel
        by_cases hlt : k < ps.length
        · have ht1 := total_take_succ ps k hlt
          have hj1 := joined_take_succ ps k hlt
          have hjl := joined_length (ps.take k)
          have ht2 := total_take_le ps (k + 1)
          have hp' := hpw.out.kept hk'
          obtain ⟨pb, po, pc2, heq, _, hcell⟩ := hp'.outer.at_ (by omega)
          cases heq
          obtain ⟨p1, p2, hpk⟩ : ∃ p1 p2, ps[k] = (p1, p2) := ⟨_, _, rfl⟩
          have hcl := hcell k p1 (by simp [hlt, hpk])
          have hin := hpw.out.inner (p1, p2) (hpk ▸ List.getElem_mem _)
          rw [hpk] at ht1 hj1
          dsimp only at hin ht1 hj1
          have hyl : (L ++ unsafeB (joined (ps.take k))).length + p2.length ≤ 1099511627776 := by rw [List.length_append, unsafeB, List.length_map, hjl]; omega
          have hgoal : L ++ unsafeB (joined (ps.take (k + 1))) = (L ++ unsafeB (joined (ps.take k))) ++ unsafeB p2 := by rw [hj1]; simp [unsafeB]
          have hgoal2 := Lib.hid hgoal
          clear hj1 hjl ht1 hcell hpk hgoal hp'
          generalize L ++ unsafeB (joined (ps.take k)) = M at *
          have hin1 := Lib.hid hin.1
          have hin2 := Lib.hid hin.2
          obtain ⟨B, pc', hB, _, _, _⟩ := hin.1
          subst hB
          clear hin
          have hd2 := Lib.hid hd'
          have hk3 := Lib.hid hk'
          have hb3 := Lib.hid hb'
          clear hd' hk' hb'
          go_wp2
          obtain ⟨wo, rfl⟩ : ∃ wo : World, wo = wr := ⟨_, rfl⟩
          go_loopw [43] (fun i wr => ∃ j : Nat, j ≤ p2.length ∧ i = .int .i64 j ∧ ∃ v', RefIs wr r size v' (M ++ unsafeB (p2.take j)) ∧ Kept S w wr ∧ Near vb w.heap.size v') (fun i _ => p2.length - (intOf i).toNat)
          case atStart => exact ⟨0, Nat.zero_le _, rfl, _, by simpa [unsafeB] using hd2.out, hk3.out, hb3.out⟩
          case round =>
            obtain ⟨j, hj, rfl, v1, hd1, hk1, hb1⟩ := hrel
            by_cases hlt2 : j < p2.length
            · have hr1 := hin1.out.kept hk1 hin2.out
              obtain ⟨xb, xo, xc, heq, _, hcell⟩ := hr1.at_ (by omega)
              cases heq
              have hcl2 := hcell j (byteV p2[j]) (by simp [hlt2])
              have hj2 := Lib.hid (unsafe_take_succ p2 j hlt2)
              have hml : (M ++ unsafeB (p2.take j)).length ≤ M.length + p2.length := by rw [List.length_append, unsafeB, List.length_map, List.length_take]; omega
              clear hcell hr1
              generalize hx : p2[j] = x at *
              have hx2 := Lib.hid hx
              clear hx
              have hg2 : ∀ v2 w2, RefIs w2 r size v2 ((M ++ unsafeB (p2.take j)) ++ [(x, false)]) → RefIs w2 r size v2 (M ++ unsafeB (p2.take (j + 1))) := fun v2 w2 h => by rw [hj2.out, ← List.append_assoc]; exact h
              have hg3 := Lib.hid hg2
              clear hg2 hj2
              generalize M ++ unsafeB (p2.take j) = N at *
              have c1' := hd1.blk.cell 1
              simp at c1'
              obtain ⟨A1, cc1, rfl, _⟩ := hd1.shape
              have hd4 := Lib.hid hd1
              have hk4 := Lib.hid hk1
              have hb4 := Lib.hid hb1
              clear hd1 hk1 hb1
              unfold byteV at hcl2
              go_wp2_with (at_builtin; refine wpl_app refT rfl (.tmp 51) (.tmp 54) rfl rfl (hd4.out.own.alloc _) rfl (m := 1) (news := refCells [(x, false)]) (Rd.alloc_at rfl rfl rfl (by omega)) (refCells_one _) ?_ ?_ ?_)
              case refine_1 => omega
              case refine_2 => omega
              intro v2 w2 hown2 hk2 hn2
              have hk2' := ((Kept.refl [] wr).alloc (.cells #[.int .u8 x.toNat, .bool false] 51)).trans hk2 (S := (Value.slice A1 N.length cc1).ownBlock.toList) (by simp) (fun _ _ h => h)
              have hd5 := hd4.out.blk.kept hk2' (notin_own hd4.out.ne)
              have e2 := hd5.cell 1
              simp at e2
              have f2 := hd5.frozen 1
              obtain ⟨A2, c2, rfl, _⟩ := hown2.shape
              have hne : (Value.slice A2 (N.length + 1) c2).ownBlock ≠ some r := hown2.blk_ne hd5 (by decide)
              have hkk := hk4.out.trans hk2' (S := S) (fun _ _ h => h) (fun k hk hm => by rw [← hS2.out]; exact List.mem_cons_of_mem _ (hb4.out.mem k hk hm))
              have hkk2 := Lib.hid hkk
              have hnn : Near vb w.heap.size (.slice A2 (N.length + 1) c2) := by
                rcases hn2 with hn2 | hn2
                · exact hb4.out.step (H' := w.heap.size) (.inl hn2) (Nat.le_refl _)
                · refine .inr ⟨_, hn2, ?_⟩
                  have := hk4.out.size
                  simp; omega
              have hnn2 := Lib.hid hnn
              have ho2 := Lib.hid hown2
              clear hkk hnn hown2 hk2' hk2 hn2
              go_wp2
              go_roundw
              case rel =>
                refine ⟨j + 1, by omega, by go_num, _, hg3.out _ _ ⟨hd5.set_ 1 _, ?_⟩, hkk2.out.setCell (.inl ?_) _, hnn2.out⟩
                · have := ho2.out.setCell (p := ⟨r, 1, none⟩) hne (.slice A2 (N.length + 1) c2)
                  rw [← refCells_append] at this
                  simpa using this
                · rw [← hS2.out]; simp
              case measure => simp [intOf]; omega
            · have hjl : j = p2.length := by omega
              subst hjl
              rw [List.take_length] at hd1
              have hd4 := Lib.hid hd1
              have hk4 := Lib.hid hk1
              have hb4 := Lib.hid hb1
              clear hd1 hk1 hb1
              go_wp2
              go_roundw
              case rel => exact ⟨k + 1, by omega, by go_num, _, by rw [hgoal2.out]; exact hd4.out, hk4.out, hb4.out⟩
              case measure => simp [intOf]; omega
        · go_wp2
          go_ret
          have : k = ps.length := by omega
          subst this
          simp only [List.take_length] at hd'
          exact ⟨rfl, v', hd', hk', hb'⟩

end Go.Proofs.Ytfdioobkbdgbmaa
