/-
  The disk, for programs that use it: what each call does to the world (the disk's texts, in a namespace of their own).
-/
import Derived.Test.YtjdfnhfankcodaaWb0
namespace Go.Proofs.Ytjdfnhfankcodaa.Dk
open Go.RowKit Go.Mem

theorem bytesT : SliceT Try.prog 22 5 1 1 (.int .u8 0) := ⟨Try.underlying22, by kernel_rfl, rfl, by omega⟩

/-- The disk at block b. -/
structure DiskIs (w : World) (b size safe : Nat) (v : Value) (xs : List UInt8) : Prop where
  blk : Blk w b 51 #[.int .i64 size, .int .i64 safe, v]
  own : Own w 5 1 v xs.length (bv xs)

theorem DiskIs.ne {w : World} {b size safe : Nat} {v : Value} {xs : List UInt8} (h : DiskIs w b size safe v xs) : v.ownBlock ≠ some b := own_blk_ne h.own h.blk (by decide)
theorem DiskIs.drew {w : World} {b size safe : Nat} {v : Value} {xs : List UInt8} (h : DiskIs w b size safe v xs) : DiskIs w.drew b size safe v xs := ⟨h.blk, h.own⟩
theorem DiskIs.shape {w : World} {b size safe : Nat} {v : Value} {xs : List UInt8} (h : DiskIs w b size safe v xs) : ∃ A c, v = .slice A xs.length c ∧ xs.length ≤ c := by
  obtain ⟨A, c, hv, _, hc, _⟩ := Rd.of_own h.own
  exact ⟨A, c, hv, hc⟩

set_option maxHeartbeats 400000 in
theorem new_neg (n : Int) (w : World) (h : n < 0) :
    Calls Try.prog 8 #[.int .i64 n] w fun e w' => e = .returned (.tuple #[.pointer none, .int .i64 2]) ∧ w = w' := by
  go_enter Try.func8, Try.ntmps8
  go_wp2
  go_ret2
  exact ⟨rfl, rfl⟩

set_option maxHeartbeats 400000 in
theorem new_pos (n : Nat) (w : World) (h : (n : Int) ≤ 9223372036854775807) :
    Calls Try.prog 8 #[.int .i64 n] w fun e w' => e = .returned (.tuple #[.pointer (some ⟨w.heap.size, 0, none⟩), .int .i64 0]) ∧ w.alloc (.cells #[.int .i64 n, .int .i64 0, .slice none 0 0] 51) = w' := by
  have h0 : (0 : Int) ≤ n := by omega
  go_enter Try.func8, Try.ntmps8
  go_wp2
  go_ret2
  exact ⟨rfl, rfl⟩

theorem new_is (w : World) (n : Nat) : DiskIs (w.alloc (.cells #[.int .i64 n, .int .i64 0, .slice none 0 0] 51)) w.heap.size n 0 (.slice none 0 0) [] :=
  ⟨Blk.new _ _ _, World.ownsRow_nil _ _ _ _⟩

/-- Slices of bytes in a slice, none of them in a block of S. -/
structure Parts (w : World) (S : List Nat) (pv : Value) (ps : List (Value × List UInt8)) : Prop where
  outer : Rd w 1 pv ps.length (ps.map (·.1))
  far : 0 < ps.length → ∀ k, pv.ownBlock = some k → k ∉ S
  inner : ∀ x ∈ ps, Rd w 1 x.1 x.2.length (bv x.2) ∧ (0 < x.2.length → ∀ k, x.1.ownBlock = some k → k ∉ S)

theorem Parts.kept {w w' : World} {S : List Nat} {pv : Value} {ps : List (Value × List UInt8)} (h : Parts w S pv ps) (hk : Kept S w w') : Parts w' S pv ps :=
  ⟨h.outer.kept hk h.far, h.far, fun x hx => ⟨(h.inner x hx).1.kept hk (h.inner x hx).2, (h.inner x hx).2⟩⟩

def total (ps : List (Value × List UInt8)) : Nat := (ps.map (fun x => x.2.length)).sum
def joined (ps : List (Value × List UInt8)) : List UInt8 := (ps.map (·.2)).flatten

theorem total_take_succ (ps : List (Value × List UInt8)) (k : Nat) (h : k < ps.length) : total (ps.take (k + 1)) = total (ps.take k) + ps[k].2.length := by
  rw [List.take_succ_eq_append_getElem h]; simp only [total, List.map_append, List.map_cons, List.map_nil, List.sum_append, List.sum_cons, List.sum_nil, Nat.add_zero]
theorem joined_take_succ (ps : List (Value × List UInt8)) (k : Nat) (h : k < ps.length) : joined (ps.take (k + 1)) = joined (ps.take k) ++ ps[k].2 := by
  rw [List.take_succ_eq_append_getElem h]; simp only [joined, List.map_append, List.map_cons, List.map_nil, List.flatten_append, List.flatten_cons, List.flatten_nil, List.append_nil]
theorem joined_length (ps : List (Value × List UInt8)) : (joined ps).length = total ps := by
  simp [joined, total, List.length_flatten, Function.comp_def]
theorem total_take_le (ps : List (Value × List UInt8)) (k : Nat) : total (ps.take k) ≤ total ps := by
  have : total ps = total (ps.take k) + total (ps.drop k) := by
    conv => lhs; rw [← List.take_append_drop k ps]
    simp only [total, List.map_append, List.sum_append]
  omega

set_option maxHeartbeats 400000 in
theorem append_full (b size safe : Nat) (v pv : Value) (xs : List UInt8) (ps : List (Value × List UInt8)) (S : List Nat) (w : World)
    (hd : DiskIs w b size safe v xs) (hp : Parts w S pv ps) (hx : xs.length ≤ size) (hsz : (size : Int) ≤ 9223372036854775807) (hn : (ps.length : Int) ≤ 9223372036854775807) (hf : size < xs.length + total ps) :
    Calls Try.prog 9 #[.pointer (some ⟨b, 0, none⟩), pv] w fun e w' => e = .returned (.int .i64 140) ∧ Kept [] w w' := by
  obtain ⟨A, c, rfl, hc⟩ := hd.shape
  have c0 := hd.blk.cell 0
  have c2 := hd.blk.cell 2
  simp at c0 c2
  obtain ⟨PA, pc, rfl, hpl, hpc, hpx⟩ := hp.outer
  clear hpl hpc
  go_enter Try.func9, Try.ntmps9
  go_wp2
  refine Txt.wp_text (by kernel_rfl) (by kernel_rfl) ?_
  go_wp2
  refine ⟨rfl, by kernel_rfl, ?_⟩
  go_wp2
  go_loop [5, 24] (fun r i => ∃ k : Nat, k ≤ ps.length ∧ i = .int .i64 k ∧ r = .int .i64 ((size : Int) - xs.length - total (ps.take k)) ∧ (total (ps.take k) : Int) ≤ (size : Int) - xs.length) (fun _ i => ps.length - (intOf i).toNat)
  case atStart => exact ⟨0, Nat.zero_le _, rfl, by simp [total], by simp [total]; omega⟩
  case round =>
    obtain ⟨k, hk, rfl, rfl, ht⟩ := hrel
    by_cases hlt : k < ps.length
    · obtain ⟨pb, po, rfl, hcell⟩ := hpx (by omega)
      obtain ⟨p1, p2, hpk⟩ : ∃ p1 p2, ps[k] = (p1, p2) := ⟨_, _, rfl⟩
      have ht1 := total_take_succ ps k hlt
      rw [hpk] at ht1
      have hcl := hcell k p1 (by simp [hlt, hpk])
      obtain ⟨B, pc', hB, _, _, _⟩ := (hp.inner (p1, p2) (hpk ▸ List.getElem_mem _)).1
      dsimp only at hB ht1
      have hk1 : (total (ps.take k) + p2.length : Int) = total (ps.take (k + 1)) := by omega
      have hk1 := Lib.hid hk1
      clear hpk ht1 hcell
      subst hB
      go_wp2
      · go_ret
        exact ⟨rfl, (Kept.refl _ _).drew⟩
      · have hk1 := hk1.out
        refine ⟨⟨k + 1, by omega, by go_num, ?_, by omega⟩, by simp [intOf]; omega⟩
        rw [← hk1]; congr 1; omega
    · exfalso
      have : k = ps.length := by omega
      subst this
      simp only [List.take_length] at ht
      omega

set_option maxHeartbeats 1000000 in
theorem append_ok (b size safe : Nat) (v pv : Value) (xs : List UInt8) (ps : List (Value × List UInt8)) (w : World)
    (hd : DiskIs w b size safe v xs) (hp : Parts w (b :: v.ownBlock.toList) pv ps) (hsz : (size : Int) ≤ 9223372036854775807) (hn : (ps.length : Int) ≤ 9223372036854775807) (hf : xs.length + total ps ≤ size) (hroom : xs.length + total ps ≤ 140737488355328) :
    Calls Try.prog 9 #[.pointer (some ⟨b, 0, none⟩), pv] w fun e w' => e = .returned (.int .i64 0) ∧ ∃ v', DiskIs w' b size safe v' (xs ++ joined ps) ∧ Kept (b :: v.ownBlock.toList) w w' ∧ Near v.ownBlock w.heap.size v' := by
  have hsh := hd.shape
  have c0 := hd.blk.cell 0
  have c2 := hd.blk.cell 2
  simp at c0 c2
  have hpw := Lib.hid hp
  obtain ⟨PA, pc, hpv, hpl, hpc, hpx⟩ := hp.outer
  obtain ⟨A, c, hv, hc⟩ := hsh
  have hdw := Lib.hid hd
  clear hpl hpc hd
  generalize hS : b :: v.ownBlock.toList = S at *
  have hS := Lib.hid hS
  generalize hvb : v.ownBlock = vb at *
  have hvb := Lib.hid hvb
  subst hpv
  subst hv
  go_enter Try.func9, Try.ntmps9
  go_wp2
  refine Txt.wp_text (by kernel_rfl) (by kernel_rfl) ?_
  go_wp2
  refine ⟨rfl, by kernel_rfl, ?_⟩
  go_wp2
  go_loop [5, 24] (fun r i => ∃ k : Nat, k ≤ ps.length ∧ i = .int .i64 k ∧ r = .int .i64 ((size : Int) - xs.length - total (ps.take k))) (fun _ i => ps.length - (intOf i).toNat)
  case atStart => exact ⟨0, Nat.zero_le _, rfl, by simp [total]⟩
  case round =>
    obtain ⟨k, hk, rfl, rfl⟩ := hrel
    have ht := total_take_le ps k
    by_cases hlt : k < ps.length
    · obtain ⟨pb, po, rfl, hcell⟩ := hpx (by omega)
      obtain ⟨p1, p2, hpk⟩ : ∃ p1 p2, ps[k] = (p1, p2) := ⟨_, _, rfl⟩
      have ht1 := total_take_succ ps k hlt
      have ht2 := total_take_le ps (k + 1)
      rw [hpk] at ht1
      have hcl := hcell k p1 (by simp [hlt, hpk])
      obtain ⟨B, pc', hB, _, _, _⟩ := (hp.inner (p1, p2) (hpk ▸ List.getElem_mem _)).1
      dsimp only at hB ht1
      have hk1 : (total (ps.take k) + p2.length : Int) = total (ps.take (k + 1)) := by omega
      have hle : (p2.length : Int) ≤ (size : Int) - xs.length - total (ps.take k) := by omega
      have hk1 := Lib.hid hk1
      clear hpk ht1 hcell
      subst hB
      go_wp2
      have hk1 := hk1.out
      refine ⟨⟨k + 1, by omega, by go_num, ?_⟩, by simp [intOf]; omega⟩
      rw [← hk1]; congr 1; omega
    · have hpx2 := Lib.hid hpx
      clear hpx hp
      go_wp2
      go_loopw [39] (fun i wr => ∃ k : Nat, k ≤ ps.length ∧ i = .int .i64 k ∧ ∃ v', DiskIs wr b size safe v' (xs ++ joined (ps.take k)) ∧ Kept S w wr ∧ Near vb w.heap.size v') (fun i _ => ps.length - (intOf i).toNat)
      case atStart => exact ⟨0, Nat.zero_le _, rfl, _, by simpa [joined] using hdw.out.drew, (Kept.refl _ _).drew, .inl hvb.out⟩
      case round =>
        obtain ⟨k, hk, rfl, v', hd', hk', hb'⟩ := hrel
        by_cases hlt : k < ps.length
        · have ht1 := total_take_succ ps k hlt
          have hj1 := Lib.hid (joined_take_succ ps k hlt)
          have hjl := joined_length (ps.take k)
          have ht2 := total_take_le ps (k + 1)
          have hp' := hpw.out.kept hk'
          obtain ⟨pb, po, pc2, heq, _, hcell⟩ := hp'.outer.at_ (by omega)
          cases heq
          obtain ⟨p1, p2, hpk⟩ : ∃ p1 p2, ps[k] = (p1, p2) := ⟨_, _, rfl⟩
          have hcl := hcell k p1 (by simp [hlt, hpk])
          have hin := (hp'.inner (p1, p2) (hpk ▸ List.getElem_mem _)).1
          rw [hpk] at ht1 hj1
          dsimp only at hin ht1 hj1
          obtain ⟨A', c', rfl, hc'⟩ := hd'.shape
          have hyl : (xs ++ joined (List.take k ps)).length + p2.length ≤ xs.length + total ps := by rw [List.length_append, hjl]; omega
          have hgoal : ∀ v2 w2, DiskIs w2 b size safe v2 ((xs ++ joined (List.take k ps)) ++ p2) → DiskIs w2 b size safe v2 (xs ++ joined (List.take (k + 1) ps)) := fun v2 w2 h => by rw [hj1.out, ← List.append_assoc]; exact h
          have hgoal := Lib.hid hgoal
          have hpkout := hpk
          clear hj1 hjl ht1 hcell hpk hpkout
          generalize xs ++ joined (List.take k ps) = ys at *
          have c0' := hd'.blk.cell 0
          have c2' := hd'.blk.cell 2
          simp at c0' c2'
          have hlb := hd'.blk.lt
          have hin2 := Lib.hid hin
          obtain ⟨B, pc', hB, _, _, _⟩ := hin
          subst hB
          have hd2 := Lib.hid hd'
          clear hd' hp'
          go_wp2_with (at_builtin; refine wpl_append bytesT rfl (.tmp 47) (.tmp 48) rfl rfl hd2.out.own rfl hin2.out (one_bv _) ?_ ?_ ?_)
          case refine_1 => omega
          case refine_2 => omega
          intro v2 w2 hown2 hk2 hb2
          have hd3 := hd2.out.blk.kept hk2 (notin_own hd2.out.ne)
          have d2 := hd3.cell 2
          simp at d2
          have f2 := hd3.frozen 2
          obtain ⟨A2, c2, rfl, _, _, _⟩ := Rd.of_own hown2
          go_wp2
          go_roundw
          case rel =>
            have hne : (Value.slice A2 (ys.length + p2.length) c2).ownBlock ≠ some b := own_blk_ne hown2 hd3 (by decide)
            refine ⟨k + 1, by omega, by go_num, _, hgoal.out _ _ ⟨hd3.set_ 2 _, ?_⟩, ?_, hb'.step hb2 hk'.size⟩
            · have := own_setCell (p := ⟨b, 2, none⟩) hown2 hne (.slice A2 (ys.length + p2.length) c2)
              simpa [bv] using this
            · refine (hk'.trans hk2 (fun _ _ h => h) (fun k hk hm => ?_)).setCell (.inl ?_) _
              · rw [← hS.out]; exact List.mem_cons_of_mem _ (hb'.mem k hk hm)
              · rw [← hS.out]; simp
          case measure => simp [intOf]; omega
        · go_wp2
          go_ret
          have : k = ps.length := by omega
          subst this
          simp only [List.take_length] at hd'
          exact ⟨rfl, v', hd', hk', hb'⟩


@[go_sem] theorem eqnilD (A : Option Addr) (n c n' c' : Nat) (w : World) : (binOp .eql 22 (.slice A n c) (.slice none n' c')).run Try.prog w = .ok (.bool A.isNone) w := run_eqnil Try.underlying22 A n c n' c' w

set_option maxHeartbeats 400000 in
theorem sync_nil (w : World) : Calls Try.prog 28 #[.pointer none] w fun e w' => e = .returned (.tuple #[]) ∧ w = w' := by
  go_enter Try.func28, Try.ntmps28
  go_wp2
  go_end0
  exact ⟨rfl, rfl⟩

set_option maxHeartbeats 400000 in
theorem sync_any (b size safe : Nat) (v : Value) (xs : List UInt8) (w : World) (hd : DiskIs w b size safe v xs) :
    Calls Try.prog 28 #[.pointer (some ⟨b, 0, none⟩)] w fun e w' => e = .returned (.tuple #[]) ∧ DiskIs w' b size xs.length v xs ∧ Kept [b] w w' := by
  obtain ⟨A, c, rfl, hc⟩ := hd.shape
  have c1 := hd.blk.cell 1
  have c2 := hd.blk.cell 2
  have f1 := hd.blk.frozen 1
  simp at c1 c2
  go_enter Try.func28, Try.ntmps28
  go_wp2
  go_end0
  exact ⟨rfl, ⟨hd.blk.set_ 1 _, own_setCell hd.own hd.ne _⟩, (Kept.refl _ _).setCell (.inl (by simp)) _⟩

set_option maxHeartbeats 400000 in
theorem crash_nil (k : Int) (w : World) : Calls Try.prog 20 #[.pointer none, .int .i64 k] w fun e w' => e = .returned (.tuple #[]) ∧ w = w' := by
  go_enter Try.func20, Try.ntmps20
  go_wp2
  go_end0
  exact ⟨rfl, rfl⟩

/-- How many bytes a crash leaves. -/
def left (n safe : Nat) (k : Int) : Nat := safe + min k.toNat (n - safe)
theorem left_le {n safe : Nat} (h : safe ≤ n) (k : Int) : left n safe k ≤ n := by unfold left; omega

theorem map_add_zero (A : Option Addr) : A.map (fun x => x.add 0) = A := by
  cases A <;> rfl

theorem crash_end (b size c m : Nat) {m' safe : Nat} (A : Option Addr) (xs : List UInt8) (w : World) (hd : DiskIs w b size safe (.slice A xs.length c) xs) (hm : m ≤ xs.length) (e : m = m') :
    Ending.returned (.tuple #[]) = .returned (.tuple #[]) ∧ ∃ v', DiskIs ((w.setCell ⟨b, 2, none⟩ (.slice A m c)).setCell ⟨b, 1, none⟩ (.int .i64 m)).drew b size m' v' (xs.take m') ∧
      Kept [b] w ((w.setCell ⟨b, 2, none⟩ (.slice A m c)).setCell ⟨b, 1, none⟩ (.int .i64 m)).drew ∧ v'.ownBlock = (Value.slice A xs.length c).ownBlock := by
  subst e
  have ho := own_cut hd.own hm
  have hob : (Value.slice A m c).ownBlock = (Value.slice A xs.length c).ownBlock := by cases A <;> rfl
  refine ⟨rfl, .slice A m c, ⟨((hd.blk.set_ 2 _).set_ 1 _).drew, ?_⟩, ((((Kept.refl [b] w).setCell (.inl (by simp)) _).setCell (.inl (by simp)) _).drew), hob⟩
  have hne : (Value.slice A m c).ownBlock ≠ some b := by rw [hob]; exact hd.ne
  have := own_setCell (p := ⟨b, 1, none⟩) (own_setCell (p := ⟨b, 2, none⟩) ho hne (.slice A m c)) hne (.int .i64 m)
  have hl : (xs.take m).length = m := by rw [List.length_take]; omega
  show World.ownsRow _ 0 5 1 _ _ _
  rw [hl, bv, List.map_take]
  rw [Nat.mul_one] at this
  exact this

set_option maxHeartbeats 400000 in
theorem crash_any (b size safe : Nat) (k : Int) (v : Value) (xs : List UInt8) (w : World) (hd : DiskIs w b size safe v xs) (hs : safe ≤ xs.length) (hx : xs.length ≤ 9223372036854775807) :
    Calls Try.prog 20 #[.pointer (some ⟨b, 0, none⟩), .int .i64 k] w fun e w' => e = .returned (.tuple #[]) ∧ ∃ v', DiskIs w' b size (left xs.length safe k) v' (xs.take (left xs.length safe k)) ∧ Kept [b] w w' ∧ v'.ownBlock = v.ownBlock := by
  obtain ⟨A, c, rfl, hc⟩ := hd.shape
  have c1 := hd.blk.cell 1
  have c2 := hd.blk.cell 2
  have f1 := hd.blk.frozen 1
  have f2 := hd.blk.frozen 2
  simp at c1 c2
  have hl := left_le hs k
  go_enter Try.func20, Try.ntmps20
  go_wp2
  refine Txt.wp_text (by kernel_rfl) (by kernel_rfl) ?_
  go_wp2
  all_goals
    refine ⟨rfl, by kernel_rfl, ?_⟩
    go_wp2
    go_end0
  · have e : safe = left xs.length safe k := by unfold left; omega
    exact crash_end b size c _ A xs w hd (by omega) e
  · have e : xs.length = left xs.length safe k := by unfold left; omega
    exact crash_end b size c _ A xs w hd (by omega) e
  · have e1 : ((safe : Int) + k).toNat = left xs.length safe k := by unfold left; omega
    have e2 : max ((safe : Int) + k) 0 = ((left xs.length safe k : Nat) : Int) := by unfold left; omega
    rw [e1, e2]
    exact crash_end b size c _ A xs w hd hl rfl

set_option maxHeartbeats 400000 in
theorem bytes_nil (w : World) : Calls Try.prog 14 #[.pointer none] w fun e w' => e = .returned (.slice none 0 0) ∧ w = w' := by
  go_enter Try.func14, Try.ntmps14
  go_wp2
  go_ret
  exact ⟨rfl, rfl⟩
set_option maxHeartbeats 400000 in
theorem len_nil (w : World) : Calls Try.prog 17 #[.pointer none] w fun e w' => e = .returned (.int .i64 0) ∧ w = w' := by
  go_enter Try.func17, Try.ntmps17
  go_wp2
  go_ret
  exact ⟨rfl, rfl⟩
set_option maxHeartbeats 400000 in
theorem safe_nil (w : World) : Calls Try.prog 22 #[.pointer none] w fun e w' => e = .returned (.int .i64 0) ∧ w = w' := by
  go_enter Try.func22, Try.ntmps22
  go_wp2
  go_ret
  exact ⟨rfl, rfl⟩
set_option maxHeartbeats 400000 in
theorem cut_nil (n : Int) (w : World) : Calls Try.prog 18 #[.pointer none, .int .i64 n] w fun e w' => e = .returned (.int .i64 1) ∧ w = w' := by
  go_enter Try.func18, Try.ntmps18
  go_wp2
  go_ret
  exact ⟨rfl, rfl⟩
set_option maxHeartbeats 400000 in
theorem append_nil (pv : Value) (w : World) : Calls Try.prog 9 #[.pointer none, pv] w fun e w' => e = .returned (.int .i64 1) ∧ w = w' := by
  go_enter Try.func9, Try.ntmps9
  go_wp2
  go_ret
  exact ⟨rfl, rfl⟩

set_option maxHeartbeats 400000 in
theorem len_any (b size safe : Nat) (v : Value) (xs : List UInt8) (w : World) (hd : DiskIs w b size safe v xs) :
    Calls Try.prog 17 #[.pointer (some ⟨b, 0, none⟩)] w fun e w' => e = .returned (.int .i64 xs.length) ∧ w = w' := by
  obtain ⟨A, c, rfl, hc⟩ := hd.shape
  have c2 := hd.blk.cell 2
  simp at c2
  go_enter Try.func17, Try.ntmps17
  go_wp2
  go_ret
  exact ⟨rfl, rfl⟩
set_option maxHeartbeats 400000 in
theorem safe_any (b size safe : Nat) (v : Value) (xs : List UInt8) (w : World) (hd : DiskIs w b size safe v xs) :
    Calls Try.prog 22 #[.pointer (some ⟨b, 0, none⟩)] w fun e w' => e = .returned (.int .i64 safe) ∧ w = w' := by
  have c1 := hd.blk.cell 1
  simp at c1
  go_enter Try.func22, Try.ntmps22
  go_wp2
  go_ret
  exact ⟨rfl, rfl⟩

set_option maxHeartbeats 400000 in
theorem clone_any (v : Value) (xs : List UInt8) (w : World) (hr : Rd w 1 v xs.length (bv xs)) (hx : xs.length ≤ 140737488355328) :
    Calls Try.prog 27 #[v] w fun e w' => ∃ v', e = .returned v' ∧ Own w' 5 1 v' xs.length (bv xs) ∧ Kept [] w w' ∧ Near none w.heap.size v' := by
  obtain ⟨A, c, hv, hl, hc, hcell⟩ := hr
  cases A with
  | none =>
    have h0 : xs = [] := by
      rcases Nat.eq_zero_or_pos xs.length with h | h
      · exact List.eq_nil_of_length_eq_zero h
      · obtain ⟨b, o, h, _⟩ := hcell h; cases h
    subst h0
    subst hv
    go_enter Try.func27, Try.ntmps27
    go_wp2
    go_ret
    exact ⟨_, rfl, World.ownsRow_nil _ _ _ _, Kept.refl _ _, .inl rfl⟩
  | some ad =>
    have hrd : Rd w 1 (.slice (some ad) xs.length c) xs.length (bv xs) := ⟨_, _, rfl, hl, hc, hcell⟩
    have H := Lib.hid hrd
    clear hrd hl hcell
    subst hv
    go_enter Try.func27, Try.ntmps27
    go_wp2_with (at_builtin; go_loud (refine wpl_append bytesT rfl (.tmp 5) (.tmp 6) rfl rfl (xs := []) (n := 0) ?_ rfl (H.out.alloc _) (one_bv _) ?_ ?_ ?_))
    case refine_1 => exact World.ownsRow_made w #[] 0 (Nat.zero_le _) (by simp [maxLen]) rfl
    case refine_2 => omega
    case refine_3 => omega
    intro v' w' hown hk hb
    go_wp2
    go_ret
    have hk0 : Kept [] w w' := Kept.fresh ((Kept.refl [] w).alloc _) hk (by simp [Value.ownBlock])
    refine ⟨_, rfl, by simpa using hown, hk0, ?_⟩
    rcases hb with hb | hb
    · exact .inr ⟨_, hb, Nat.le_refl _⟩
    · exact .inr ⟨_, hb, by simp⟩

/-- What 'Bytes' answers: bytes of the caller's own. -/
def Fresh (w : World) (v : Value) (xs : List UInt8) (w' : World) : Prop := Own w' 5 1 v xs.length (bv xs) ∧ Kept [] w w' ∧ Near none w.heap.size v

set_option maxHeartbeats 400000 in
theorem bytes_any (b size safe : Nat) (v : Value) (xs : List UInt8) (w : World) (hd : DiskIs w b size safe v xs) (hx : xs.length ≤ 140737488355328) :
    Calls Try.prog 14 #[.pointer (some ⟨b, 0, none⟩)] w fun e w' => ∃ v', e = .returned v' ∧ Own w' 5 1 v' xs.length (bv xs) ∧ Kept [] w w' ∧ Near none w.heap.size v' := by
  obtain ⟨A, c, rfl, hc⟩ := hd.shape
  have c2 := hd.blk.cell 2
  simp at c2
  have H := Lib.hid (clone_any _ xs w (Rd.of_own hd.own) hx)
  go_enter Try.func14, Try.ntmps14
  go_wp2_with (go_at_call 27; refine H.out.mono ?_)
  rintro e w' ⟨v', rfl, h1, h2, h3⟩
  go_wp2
  go_ret
  exact ⟨_, rfl, h1, h2, h3⟩

theorem cut_end (b size safe c n : Nat) {s' : Nat} (A : Option Addr) (xs : List UInt8) (w : World) (hd : DiskIs w b size safe (.slice A xs.length c) xs) (hn : n ≤ xs.length) (e : s' = min safe n) :
    Ending.returned (.int .i64 0) = .returned (.int .i64 0) ∧ ∃ v', DiskIs ((w.setCell ⟨b, 2, none⟩ (.slice A n c)).setCell ⟨b, 1, none⟩ (.int .i64 s')).drew b size (min safe n) v' (xs.take n) ∧
      Kept [b] w ((w.setCell ⟨b, 2, none⟩ (.slice A n c)).setCell ⟨b, 1, none⟩ (.int .i64 s')).drew ∧ v'.ownBlock = (Value.slice A xs.length c).ownBlock := by
  subst e
  have ho := own_cut hd.own hn
  have hob : (Value.slice A n c).ownBlock = (Value.slice A xs.length c).ownBlock := by cases A <;> rfl
  refine ⟨rfl, .slice A n c, ⟨((hd.blk.set_ 2 _).set_ 1 _).drew, ?_⟩, ((((Kept.refl [b] w).setCell (.inl (by simp)) _).setCell (.inl (by simp)) _).drew), hob⟩
  have hne : (Value.slice A n c).ownBlock ≠ some b := by rw [hob]; exact hd.ne
  have := own_setCell (p := ⟨b, 1, none⟩) (own_setCell (p := ⟨b, 2, none⟩) ho hne (.slice A n c)) hne (.int .i64 (min safe n : Nat))
  have hl : (xs.take n).length = n := by rw [List.length_take]; omega
  show World.ownsRow _ 0 5 1 _ _ _
  rw [hl, bv, List.map_take]
  rw [Nat.mul_one] at this
  exact this

set_option maxHeartbeats 400000 in
theorem cut_bad (b size safe : Nat) (n : Int) (v : Value) (xs : List UInt8) (w : World) (hd : DiskIs w b size safe v xs) (hn : n < 0 ∨ (xs.length : Int) < n) :
    Calls Try.prog 18 #[.pointer (some ⟨b, 0, none⟩), .int .i64 n] w fun e w' => e = .returned (.int .i64 2) ∧ Kept [] w w' := by
  obtain ⟨A, c, rfl, hc⟩ := hd.shape
  have c2 := hd.blk.cell 2
  simp at c2
  rcases hn with hn | hn
  · go_enter Try.func18, Try.ntmps18
    go_wp2
    go_ret
    exact ⟨rfl, Kept.refl _ _⟩
  · have h0 : ¬ n < 0 := by omega
    go_enter Try.func18, Try.ntmps18
    go_wp2
    go_ret
    exact ⟨rfl, Kept.refl _ _⟩

set_option maxHeartbeats 400000 in
theorem cut_ok (b size safe n : Nat) (v : Value) (xs : List UInt8) (w : World) (hd : DiskIs w b size safe v xs) (hn : n ≤ xs.length) :
    Calls Try.prog 18 #[.pointer (some ⟨b, 0, none⟩), .int .i64 n] w fun e w' => e = .returned (.int .i64 0) ∧ ∃ v', DiskIs w' b size (min safe n) v' (xs.take n) ∧ Kept [b] w w' ∧ v'.ownBlock = v.ownBlock := by
  obtain ⟨A, c, rfl, hc⟩ := hd.shape
  have c1 := hd.blk.cell 1
  have c2 := hd.blk.cell 2
  have f1 := hd.blk.frozen 1
  have f2 := hd.blk.frozen 2
  simp at c1 c2
  have h0 : ¬ (n : Int) < 0 := by omega
  have h1 : ¬ (xs.length : Int) < n := by omega
  go_enter Try.func18, Try.ntmps18
  go_wp2
  refine Txt.wp_text (by kernel_rfl) (by kernel_rfl) ?_
  go_wp2
  all_goals
    refine ⟨rfl, by kernel_rfl, ?_⟩
    go_wp2
    go_ret
    exact cut_end b size safe c n A xs w hd hn (by omega)

theorem DiskIs.kept {S : List Nat} {w w' : World} {b size safe : Nat} {v : Value} {xs : List UInt8} (h : DiskIs w b size safe v xs) (hk : Kept S w w') (h1 : b ∉ S) (h2 : ∀ k, v.ownBlock = some k → k ∉ S) : DiskIs w' b size safe v xs := ⟨h.blk.kept hk h1, own_kept h.own hk h2⟩
theorem DiskIs.kept0 {w w' : World} {b size safe : Nat} {v : Value} {xs : List UInt8} (h : DiskIs w b size safe v xs) (hk : Kept [] w w') : DiskIs w' b size safe v xs := h.kept hk (by simp) (by simp)
end Go.Proofs.Ytjdfnhfankcodaa.Dk
