/-
  The disk's methods: what each call does to the world.
-/
import Derived.Test.YtfdioobkbdgbmaaRows
import Derived.Test.YtfdioobkbdgbmaaMem
import Derived.Test.YtfdioobkbdgbmaaText2
import Derived.WalkKit
import Derived.WalkSpells
import Derived.WalkLawsBesides
namespace Go.Proofs.Ytfdioobkbdgbmaa
open Go.RowKit Go.Mem

theorem bytesT : SliceT Try.prog 22 5 1 1 (.int .u8 0) := ⟨Try.underlying22, by kernel_rfl, rfl, by omega⟩

/-- The disk at block b. -/
structure DiskIs (w : World) (b size safe : Nat) (v : Value) (xs : List UInt8) : Prop where
  blk : Blk w b 48 #[.int .i64 size, .int .i64 safe, v]
  own : Own w 5 1 v xs.length (bv xs)

theorem DiskIs.ne {w : World} {b size safe : Nat} {v : Value} {xs : List UInt8} (h : DiskIs w b size safe v xs) : v.ownBlock ≠ some b := own_blk_ne h.own h.blk (by decide)
theorem DiskIs.drew {w : World} {b size safe : Nat} {v : Value} {xs : List UInt8} (h : DiskIs w b size safe v xs) : DiskIs w.drew b size safe v xs := ⟨h.blk, h.own⟩
theorem DiskIs.shape {w : World} {b size safe : Nat} {v : Value} {xs : List UInt8} (h : DiskIs w b size safe v xs) : ∃ A c, v = .slice A xs.length c ∧ xs.length ≤ c := by
  obtain ⟨A, c, hv, _, hc, _⟩ := Rd.of_own h.own
  exact ⟨A, c, hv, hc⟩

set_option maxHeartbeats 400000 in
theorem new_neg (n : Int) (w : World) (h : n < 0) :
    Calls Try.prog 7 #[.int .i64 n] w fun e w' => e = .returned (.tuple #[.pointer none, .int .i64 2]) ∧ w = w' := by
  go_enter Try.func7, Try.ntmps7
  go_wp2
  go_ret2
  exact ⟨rfl, rfl⟩

set_option maxHeartbeats 400000 in
theorem new_pos (n : Nat) (w : World) (h : (n : Int) ≤ 9223372036854775807) :
    Calls Try.prog 7 #[.int .i64 n] w fun e w' => e = .returned (.tuple #[.pointer (some ⟨w.heap.size, 0, none⟩), .int .i64 0]) ∧ w.alloc (.cells #[.int .i64 n, .int .i64 0, .slice none 0 0] 48) = w' := by
  have h0 : (0 : Int) ≤ n := by omega
  go_enter Try.func7, Try.ntmps7
  go_wp2
  go_ret2
  exact ⟨rfl, rfl⟩

theorem new_is (w : World) (n : Nat) : DiskIs (w.alloc (.cells #[.int .i64 n, .int .i64 0, .slice none 0 0] 48)) w.heap.size n 0 (.slice none 0 0) [] :=
  ⟨Blk.new _ _ _, World.ownsRow_nil _ _ _ _⟩

/-- Slices of bytes in a slice, none of them in a block of S. -/
structure Parts (w : World) (S : List Nat) (pv : Value) (ps : List (Value × List UInt8)) : Prop where
  outer : Rd w 1 pv ps.length (ps.map (·.1))
  far : 0 < ps.length → ∀ k, pv.ownBlock = some k → k ∉ S
  inner : ∀ x ∈ ps, Rd w 1 x.1 x.2.length (bv x.2) ∧ (0 < x.2.length → ∀ k, x.1.ownBlock = some k → k ∉ S)

theorem Parts.kept {w w' : World} {S : List Nat} {pv : Value} {ps : List (Value × List UInt8)} (h : Parts w S pv ps) (hk : Kept S w w') : Parts w' S pv ps :=
  ⟨h.outer.kept hk h.far, h.far, fun x hx => ⟨(h.inner x hx).1.kept hk (h.inner x hx).2, (h.inner x hx).2⟩⟩

def total (ps : List (Value × List UInt8)) : Nat := (ps.map (fun x => x.2.length)).sum
def joined (ps : List (Value × List UInt8)) : List UInt8 := (ps.map (·.2)).flatten

theorem total_take_succ (ps : List (Value × List UInt8)) (k : Nat) (h : k < ps.length) : total (ps.take (k + 1)) = total (ps.take k) + ps[k].2.length := by
  rw [List.take_succ_eq_append_getElem h]; simp only [total, List.map_append, List.map_cons, List.map_nil, List.sum_append, List.sum_cons, List.sum_nil, Nat.add_zero]
theorem joined_take_succ (ps : List (Value × List UInt8)) (k : Nat) (h : k < ps.length) : joined (ps.take (k + 1)) = joined (ps.take k) ++ ps[k].2 := by
  rw [List.take_succ_eq_append_getElem h]; simp only [joined, List.map_append, List.map_cons, List.map_nil, List.flatten_append, List.flatten_cons, List.flatten_nil, List.append_nil]
theorem joined_length (ps : List (Value × List UInt8)) : (joined ps).length = total ps := by
  simp [joined, total, List.length_flatten, Function.comp_def]
theorem total_take_le (ps : List (Value × List UInt8)) (k : Nat) : total (ps.take k) ≤ total ps := by
  have : total ps = total (ps.take k) + total (ps.drop k) := by
    conv => lhs; rw [← List.take_append_drop k ps]
    simp only [total, List.map_append, List.sum_append]
  omega

set_option maxHeartbeats 400000 in
theorem append_full (b size safe : Nat) (v pv : Value) (xs : List UInt8) (ps : List (Value × List UInt8)) (S : List Nat) (w : World)
    (hd : DiskIs w b size safe v xs) (hp : Parts w S pv ps) (hx : xs.length ≤ size) (hsz : (size : Int) ≤ 9223372036854775807) (hn : (ps.length : Int) ≤ 9223372036854775807) (hf : size < xs.length + total ps) :
    Calls Try.prog 8 #[.pointer (some ⟨b, 0, none⟩), pv] w fun e w' => e = .returned (.int .i64 140) ∧ Kept [] w w' := by
  obtain ⟨A, c, rfl, hc⟩ := hd.shape
  have c0 := hd.blk.cell 0
  have c2 := hd.blk.cell 2
  simp at c0 c2
  obtain ⟨PA, pc, rfl, hpl, hpc, hpx⟩ := hp.outer
  clear hpl hpc
  go_enter Try.func8, Try.ntmps8
  go_wp2
  refine Txt.wp_text (by kernel_rfl) (by kernel_rfl) ?_
  go_wp2
  refine ⟨rfl, by kernel_rfl, ?_⟩
  go_wp2
  go_loop [5, 24] (fun r i => ∃ k : Nat, k ≤ ps.length ∧ i = .int .i64 k ∧ r = .int .i64 ((size : Int) - xs.length - total (ps.take k)) ∧ (total (ps.take k) : Int) ≤ (size : Int) - xs.length) (fun _ i => ps.length - (intOf i).toNat)
  case atStart => exact ⟨0, Nat.zero_le _, rfl, by simp [total], by simp [total]; omega⟩
  case round =>
    obtain ⟨k, hk, rfl, rfl, ht⟩ := hrel
    by_cases hlt : k < ps.length
    · obtain ⟨pb, po, rfl, hcell⟩ := hpx (by omega)
      obtain ⟨p1, p2, hpk⟩ : ∃ p1 p2, ps[k] = (p1, p2) := ⟨_, _, rfl⟩
      have ht1 := total_take_succ ps k hlt
      rw [hpk] at ht1
      have hcl := hcell k p1 (by simp [hlt, hpk])
      obtain ⟨B, pc', hB, _, _, _⟩ := (hp.inner (p1, p2) (hpk ▸ List.getElem_mem _)).1
      dsimp only at hB ht1
      have hk1 : (total (ps.take k) + p2.length : Int) = total (ps.take (k + 1)) := by omega
      have hk1 := Lib.hid hk1
      clear hpk ht1 hcell
      subst hB
      go_wp2
      · go_ret
        exact ⟨rfl, (Kept.refl _ _).drew⟩
      · have hk1 := hk1.out
        refine ⟨⟨k + 1, by omega, by go_num, ?_, by omega⟩, by simp [intOf]; omega⟩
        rw [← hk1]; congr 1; omega
    · exfalso
      have : k = ps.length := by omega
      subst this
      simp only [List.take_length] at ht
      omega

set_option maxHeartbeats 1000000 in
theorem append_ok (b size safe : Nat) (v pv : Value) (xs : List UInt8) (ps : List (Value × List UInt8)) (w : World)
    (hd : DiskIs w b size safe v xs) (hp : Parts w (b :: v.ownBlock.toList) pv ps) (hsz : (size : Int) ≤ 9223372036854775807) (hn : (ps.length : Int) ≤ 9223372036854775807) (hf : xs.length + total ps ≤ size) (hroom : xs.length + total ps ≤ 140737488355328) :
    Calls Try.prog 8 #[.pointer (some ⟨b, 0, none⟩), pv] w fun e w' => e = .returned (.int .i64 0) ∧ ∃ v', DiskIs w' b size safe v' (xs ++ joined ps) ∧ Kept (b :: v.ownBlock.toList) w w' ∧ Near v.ownBlock w.heap.size v' := by
  have hsh := hd.shape
  have c0 := hd.blk.cell 0
  have c2 := hd.blk.cell 2
  simp at c0 c2
  have hpw := Lib.hid hp
  obtain ⟨PA, pc, hpv, hpl, hpc, hpx⟩ := hp.outer
  obtain ⟨A, c, hv, hc⟩ := hsh
  have hdw := Lib.hid hd
  clear hpl hpc hd
  generalize hS : b :: v.ownBlock.toList = S at *
  have hS := Lib.hid hS
  generalize hvb : v.ownBlock = vb at *
  have hvb := Lib.hid hvb
  subst hpv
  subst hv
  go_enter Try.func8, Try.ntmps8
  go_wp2
  refine Txt.wp_text (by kernel_rfl) (by kernel_rfl) ?_
  go_wp2
  refine ⟨rfl, by kernel_rfl, ?_⟩
  go_wp2
  go_loop [5, 24] (fun r i => ∃ k : Nat, k ≤ ps.length ∧ i = .int .i64 k ∧ r = .int .i64 ((size : Int) - xs.length - total (ps.take k))) (fun _ i => ps.length - (intOf i).toNat)
  case atStart => exact ⟨0, Nat.zero_le _, rfl, by simp [total]⟩
  case round =>
    obtain ⟨k, hk, rfl, rfl⟩ := hrel
    have ht := total_take_le ps k
    by_cases hlt : k < ps.length
    · obtain ⟨pb, po, rfl, hcell⟩ := hpx (by omega)
      obtain ⟨p1, p2, hpk⟩ : ∃ p1 p2, ps[k] = (p1, p2) := ⟨_, _, rfl⟩
      have ht1 := total_take_succ ps k hlt
      have ht2 := total_take_le ps (k + 1)
      rw [hpk] at ht1
      have hcl := hcell k p1 (by simp [hlt, hpk])
      obtain ⟨B, pc', hB, _, _, _⟩ := (hp.inner (p1, p2) (hpk ▸ List.getElem_mem _)).1
      dsimp only at hB ht1
      have hk1 : (total (ps.take k) + p2.length : Int) = total (ps.take (k + 1)) := by omega
      have hle : (p2.length : Int) ≤ (size : Int) - xs.length - total (ps.take k) := by omega
      have hk1 := Lib.hid hk1
      clear hpk ht1 hcell
      subst hB
      go_wp2
      have hk1 := hk1.out
      refine ⟨⟨k + 1, by omega, by go_num, ?_⟩, by simp [intOf]; omega⟩
      rw [← hk1]; congr 1; omega
    · have hpx2 := Lib.hid hpx
      clear hpx hp
      go_wp2
      go_loopw [39] (fun i wr => ∃ k : Nat, k ≤ ps.length ∧ i = .int .i64 k ∧ ∃ v', DiskIs wr b size safe v' (xs ++ joined (ps.take k)) ∧ Kept S w wr ∧ Near vb w.heap.size v') (fun i _ => ps.length - (intOf i).toNat)
      case atStart => exact ⟨0, Nat.zero_le _, rfl, _, by simpa [joined] using hdw.out.drew, (Kept.refl _ _).drew, .inl hvb.out⟩
      case round =>
        obtain ⟨k, hk, rfl, v', hd', hk', hb'⟩ := hrel
        by_cases hlt : k < ps.length
        · have ht1 := total_take_succ ps k hlt
          have hj1 := Lib.hid (joined_take_succ ps k hlt)
          have hjl := joined_length (ps.take k)
          have ht2 := total_take_le ps (k + 1)
          have hp' := hpw.out.kept hk'
          obtain ⟨pb, po, pc2, heq, _, hcell⟩ := hp'.outer.at_ (by omega)
          cases heq
          obtain ⟨p1, p2, hpk⟩ : ∃ p1 p2, ps[k] = (p1, p2) := ⟨_, _, rfl⟩
          have hcl := hcell k p1 (by simp [hlt, hpk])
          have hin := (hp'.inner (p1, p2) (hpk ▸ List.getElem_mem _)).1
          rw [hpk] at ht1 hj1
          dsimp only at hin ht1 hj1
          obtain ⟨A', c', rfl, hc'⟩ := hd'.shape
          have hyl : (xs ++ joined (List.take k ps)).length + p2.length ≤ xs.length + total ps := by rw [List.length_append, hjl]; omega
          have hgoal : ∀ v2 w2, DiskIs w2 b size safe v2 ((xs ++ joined (List.take k ps)) ++ p2) → DiskIs w2 b size safe v2 (xs ++ joined (List.take (k + 1) ps)) := fun v2 w2 h => by rw [hj1.out, ← List.append_assoc]; exact h
          have hgoal := Lib.hid hgoal
          have hpkout := hpk
          clear hj1 hjl ht1 hcell hpk hpkout
          generalize xs ++ joined (List.take k ps) = ys at *
          have c0' := hd'.blk.cell 0
          have c2' := hd'.blk.cell 2
          simp at c0' c2'
          have hlb := hd'.blk.lt
          have hin2 := Lib.hid hin
          obtain ⟨B, pc', hB, _, _, _⟩ := hin
          subst hB
          have hd2 := Lib.hid hd'
          clear hd' hp'
          go_wp2_with (at_builtin; refine wpl_append bytesT rfl (.tmp 47) (.tmp 48) rfl rfl hd2.out.own rfl hin2.out (one_bv _) ?_ ?_ ?_)
          case refine_1 => omega
          case refine_2 => omega
          intro v2 w2 hown2 hk2 hb2
          have hd3 := hd2.out.blk.kept hk2 (notin_own hd2.out.ne)
          have d2 := hd3.cell 2
          simp at d2
          have f2 := hd3.frozen 2
          obtain ⟨A2, c2, rfl, _, _, _⟩ := Rd.of_own hown2
          go_wp2
          go_roundw
          case rel =>
            have hne : (Value.slice A2 (ys.length + p2.length) c2).ownBlock ≠ some b := own_blk_ne hown2 hd3 (by decide)
            refine ⟨k + 1, by omega, by go_num, _, hgoal.out _ _ ⟨hd3.set_ 2 _, ?_⟩, ?_, hb'.step hb2 hk'.size⟩
            · have := own_setCell (p := ⟨b, 2, none⟩) hown2 hne (.slice A2 (ys.length + p2.length) c2)
              simpa [bv] using this
            · refine (hk'.trans hk2 (fun _ _ h => h) (fun k hk hm => ?_)).setCell (.inl ?_) _
              · rw [← hS.out]; exact List.mem_cons_of_mem _ (hb'.mem k hk hm)
              · rw [← hS.out]; simp
          case measure => simp [intOf]; omega
        · go_wp2
          go_ret
          have : k = ps.length := by omega
          subst this
          simp only [List.take_length] at hd'
          exact ⟨rfl, v', hd', hk', hb'⟩

end Go.Proofs.Ytfdioobkbdgbmaa
