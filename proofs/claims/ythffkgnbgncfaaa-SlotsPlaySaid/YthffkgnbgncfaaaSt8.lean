/-
  Slots: the first votes taken out.
-/
import Derived.Test.YthffkgnbgncfaaaSt7
namespace Go.Proofs.Ythffkgnbgncfaaa
open Go.RowKit Go.Mem Go.Txt

theorem del_eq {α : Type} (cur xs ns : List α) (o : Nat) (h : o + xs.length + ns.length ≤ cur.length) : ((over (over cur o xs) (o + xs.length) ns).drop o).take xs.length = xs := by
  have z : (over cur o xs).length = cur.length := over_len _ _ _ (by omega)
  apply List.ext_getElem?
  intro j
  rw [List.getElem?_take, List.getElem?_drop]
  by_cases h1 : j < xs.length
  · rw [if_pos h1, over_get2 _ _ _ (by omega), if_neg (by omega), over_get2 _ _ _ (by omega), if_pos (by omega), Nat.add_sub_cancel_left]
  · rw [if_neg h1, List.getElem?_eq_none (by omega)]
theorem vz_one : vz.cells.all (·.oneCell') = true := by kernel_rfl
/-- What Delete does. -/
abbrev DelP (w : World) (v : Value) (n : Nat) (xs : List Value) (e : Ending) (w' : World) : Prop :=
  ∃ v', e = .returned v' ∧ Ow w' 63 98 v' n xs ∧ Kept v.ownBlock.toList w w' ∧ v'.ownBlock = v.ownBlock
theorem del_bounds {n c j : Nat} (A : Option Addr) (hj : j ≤ n) (hn : n ≤ c) (W : World) : (Instr.sliceAt 56 (.slice A n c) (some (.int .i64 0)) (some (.int .i64 (j : Int))) (some (.int .i64 (n : Int)))).run Try.prog W = .ok (.slice (if n = 0 then A else A.map (·.add (0 * 98))) (j - 0) (n - 0)) W := by
  have h0 := fun y c' h => run_bound (P := Try.prog) .i64 0 y c' h W
  simp only [Int.cast_ofNat_Int] at h0
  exact run_cutAt votesT A n c _ _ _ 0 j n W (by unfold Instr.sliceBounds; simp [run_bound .i64 n c _ hn W, run_bound .i64 j n _ hj W, h0])
set_option maxRecDepth 100000 in
set_option maxHeartbeats 1600000 in
theorem delete_any {l : List Vt} (hok : ∀ v ∈ l, v.ok) (hn : l.length < 1099511627776) {j : Nat} (hj : j ≤ l.length) {v : Value} {w : World} (ho : Ow w 63 98 v l.length (vcs l)) :
    Calls Try.prog 23 #[v, .int .i64 0, .int .i64 (j : Nat)] w (DelP w v (l.length - j) (vcs (l.drop j))) := by
  rcases Nat.eq_zero_or_pos j with rfl | hp
  · obtain ⟨A, c, rfl, hnc⟩ := ho.shape
    have f0 := del_bounds A (Nat.zero_le l.length) hnc
    simp only [Int.cast_ofNat_Int] at f0
    replace ho := Lib.hid ho
    generalize (if l.length = 0 then A else A.map (·.add (0 * 98))) = B at *
    go_enter Try.func23, Try.ntmps23
    go_wp2_with fail
    go_ret
    exact ⟨_, rfl, ho.out, Kept.refl _ _, rfl⟩
  · obtain ⟨g, o, c, cur, rfl, hg, hnc, hc, hsz, ht⟩ := ho.open_ (by omega)
    have f0 := del_bounds (some ⟨g, o, none⟩) hj hnc
    have l2 : (vcs (l.drop j)).length = (l.length - j) * 98 := by rw [vcs_len fun v hv => hok v (List.mem_of_mem_drop hv), List.length_drop]
    have r2 : (cur.toList.drop (o + j * 98)).take (vcs (l.drop j)).length = vcs (l.drop j) := by
      rw [l2, ← vcs_drop hok j (by omega), ← ht, List.drop_take, List.drop_drop, Nat.sub_mul]
    obtain ⟨p, hpn⟩ : ∃ p, p + j = l.length := ⟨l.length - j, by omega⟩
    have hp2 : l.length - j = p := by omega
    have hp3 : l.length - p = j := by omega
    have f1 := fun W => run_uptoS (g := g) (off := o) (n := l.length) votesT .i64 (k := 0) (c := c) (by omega) W
    have f3 := fun W => run_partS (g := g) (off := o) (n := p) votesT .i64 .i64 (k := p) (m := l.length) (c := c) (by omega) hnc (by omega) W
    have f2 : ∃ o2, (∀ W, (Instr.sliceAt 56 (.slice (some ⟨g, o, none⟩) l.length c) (some (.int .i64 (j : Int))) none none).run Try.prog W = .ok (.slice (some ⟨g, o2, none⟩) (l.length - j) (c - j)) W) ∧ w.rangeAt g o2 (vcs (l.drop j)) := by
      by_cases hjc : j < c
      · exact ⟨_, fun W => run_fromS (g := g) (off := o) votesT .i64 (k := j) (n := l.length) (c := c) hj hnc hjc W, hg.rng r2⟩
      · have e : vcs (l.drop j) = [] := List.eq_nil_of_length_eq_zero (by rw [l2]; omega)
        refine ⟨o, fun W => ?_, by rw [e]; intro k u hu; simp at hu⟩
        rw [run_cutAt votesT (some ⟨g, o, none⟩) l.length c _ none none j l.length c W (by unfold Instr.sliceBounds; simp [run_bound .i64 j l.length _ hj W]), if_pos (by omega)]
    obtain ⟨o2, f2, hr⟩ := f2
    simp only [Int.cast_ofNat_Int] at f1
    rw [hp3] at f3
    simp only [hp2] at f2
    rw [hp2] at l2 ⊢
    replace hg := Lib.hid hg
    replace hr := Lib.hid hr
    replace ht := Lib.hid ht
    replace r2 := Lib.hid r2
    have o2' := Lib.hid (one_vcs (l.drop j))
    replace hsz := Lib.hid hsz
    replace hpn := Lib.hid hpn
    have hlt : ¬ j = 0 := by omega
    clear hok hp2 hp3
    generalize vcs (l.drop j) = xs2 at *
    generalize vcs l = xs0 at *
    generalize l.length = n at *
    replace l2 := Lib.hid l2
    simp only [Nat.sub_zero] at f0
    generalize (if n = 0 then (some ⟨g, o, none⟩ : Option Addr) else (some ⟨g, o, none⟩ : Option Addr).map (·.add (0 * 98))) = B at *
    go_enter Try.func23, Try.ntmps23
    go_wp2_with fail
    refine Txt.wp_text (by kernel_rfl) (by kernel_rfl) ?_
    go_wp2_with (first
      | (at_builtin
         refine wpl_app_room (xs := xs2) (n := 0) (m := p) votesT rfl (.tmp 22) (.tmp 25) rfl rfl rfl hg.out.drew l2.out (by have := hpn.out; omega) hsz.out hr.out o2'.out ?_
         intro w3 p1 p2
         have t1 := Lib.hid p1
         have t2 := Lib.hid p2
         clear p1 p2))
    refine ⟨rfl, by kernel_rfl, ?_⟩
    have z1 : (over cur.toList (o + 0 * 98) xs2).length = cur.size := by rw [over_len _ _ _ (by rw [l2.out, Array.length_toList]; have := hsz.out; have := hpn.out; omega), Array.length_toList]
    replace z1 := Lib.hid z1
    go_wp2_with (first
      | (refine wpl_clearS (n := j) (off := o + p * 98) votesT vz_one rfl (.tmp 31) rfl rfl t1.out (by rw [List.size_toArray, z1.out]; have := hsz.out; have := hpn.out; omega) ?_
         intro w4 ns p0 p1 p2
         have t3 := Lib.hid p0
         have t4 := Lib.hid p1
         have t5 := Lib.hid p2
         clear p0 p1 p2))
    go_ret
    have hpn2 := hpn.out
    have hsz2 := hsz.out
    have z2 := del_eq cur.toList xs2 ns o (by rw [l2.out, t3.out, Array.length_toList]; omega)
    have z3 : (over (over cur.toList o xs2) (o + p * 98) ns).length = cur.size := by
      have z1' := z1.out
      rw [Nat.zero_mul, Nat.add_zero] at z1'
      rw [over_len _ _ _ (by rw [t3.out, z1']; omega), z1']
    have b := t4.out
    simp only [Nat.zero_mul, Nat.add_zero] at b
    rw [l2.out] at z2
    refine ⟨_, rfl, Ow.close b (by omega) (by omega) (by rw [List.size_toArray, z3]; omega) z2, ?_, rfl⟩
    exact ((Kept.refl _ w).drew.trans' (t2.out.more (by simp [Value.ownBlock]))).trans' (t5.out.more (by simp [Value.ownBlock]))
end Go.Proofs.Ythffkgnbgncfaaa
