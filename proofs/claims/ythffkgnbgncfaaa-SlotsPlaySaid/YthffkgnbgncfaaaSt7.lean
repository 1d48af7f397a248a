/-
  Slots: a vote put in.
-/
import Derived.Test.YthffkgnbgncfaaaSt6
import Derived.Lib.Overlaps
namespace Go.Proofs.Ythffkgnbgncfaaa
open Go.RowKit Go.Mem Go.Txt

/-- What Insert does. -/
abbrev InsP (w : World) (v : Value) (n : Nat) (xs : List Value) (e : Ending) (w' : World) : Prop :=
  ∃ v', e = .returned v' ∧ Ow w' 63 98 v' n xs ∧ Kept v.ownBlock.toList w w' ∧ (v'.ownBlock = v.ownBlock ∨ ∃ k, v'.ownBlock = some k ∧ w.heap.size ≤ k)
theorem ins_cells {l : List Vt} (x : Vt) (i : Nat) : vcs (l.take i ++ x :: l.drop i) = vcs (l.take i) ++ (x.c ++ vcs (l.drop i)) := by simp [vcs]
set_option maxRecDepth 100000 in
set_option maxHeartbeats 1600000 in
theorem insert_end {l : List Vt} {x : Vt} (hx : x.ok) (hn : l.length < 1099511627776) {v : Value} {w : World} (ho : Ow w 63 98 v l.length (vcs l)) {g5 : Nat} (hb : Blk w g5 63 x.c.toArray) :
    Calls Try.prog 20 #[v, .int .i64 (l.length : Nat), .slice (some ⟨g5, 0, none⟩) 1 1] w (InsP w v (l.length + 1) (vcs l ++ x.c)) := by
  obtain ⟨A, c, rfl, hnc⟩ := ho.shape
  obtain ⟨B, d, h1, _⟩ := cut_from votesT (Rd.of_ow ho) .i64 l.length (Nat.le_refl _)
  have hr := Lib.hid (show Rd w 98 (.slice (some ⟨g5, 0, none⟩) 1 1) 1 x.c from ⟨_, _, rfl, by rw [Vt.len hx], by omega, fun _ => ⟨g5, 0, rfl, fun j u hu => by rw [hb.cell]; simpa using hu⟩⟩)
  replace ho := Lib.hid ho
  have hxl := Lib.hid hx
  clear hb hx
  have hone := Lib.hid (one_vc x)
  go_enter Try.func20, Try.ntmps20
  go_wp2_with (at_builtin; (refine wpl_app (n := l.length) (m := 1) votesT rfl (.tmp 23) (.tmp 24) rfl rfl ho.out rfl hr.out hone.out (by omega) (by omega) ?_); rintro v' w' p1 p2 p3; obtain ⟨A', c', rfl, hnc'⟩ := p1.shape; have p1' := Lib.hid p1; have p2' := Lib.hid p2; have p3' := Lib.hid p3; clear p1 p2 p3)
  go_ret
  refine ⟨_, rfl, p1'.out, p2'.out, ?_⟩
  rcases p3'.out with h | h
  · exact .inl h
  · exact .inr ⟨_, h, Nat.le_refl _⟩
set_option maxRecDepth 100000 in
set_option maxHeartbeats 3200000 in
theorem insert_grow {l : List Vt} (hok : ∀ v ∈ l, v.ok) {x : Vt} (hx : x.ok) (hn : l.length < 1099511627776) {i : Nat} (hi : i < l.length) {g o c : Nat} {cur : Array Value} {w : World} (hg : Blk w g 63 cur) (hnc : l.length ≤ c) (hno : c < l.length + 1)
    (ht : (cur.toList.drop o).take (l.length * 98) = vcs l) {g5 : Nat} (hb : Blk w g5 63 x.c.toArray) :
    Calls Try.prog 20 #[.slice (some ⟨g, o, none⟩) l.length c, .int .i64 (i : Nat), .slice (some ⟨g5, 0, none⟩) 1 1] w (InsP w (.slice (some ⟨g, o, none⟩) l.length c) (l.length + 1) (vcs (l.take i) ++ (x.c ++ vcs (l.drop i)))) := by
  obtain ⟨k, hk⟩ : ∃ k, i + k = l.length + 1 := ⟨l.length + 1 - i, by omega⟩
  have ek : ((l.length : Int) + 1 - i) = (k : Int) := by omega
  have f0 := fun W => run_fromS (g := g) (off := o) votesT .i64 (k := i) (n := l.length) (c := c) (by omega) hnc (by omega) W
  have f1 := fun W => run_uptoS (g := g) (off := o) (n := l.length) votesT .i64 (k := i) (c := c) (by omega) W
  have lx := Vt.len hx
  have l1 : (vcs (l.take i)).length = i * 98 := by rw [vcs_len fun v hv => hok v (List.mem_of_mem_take hv), List.length_take, Nat.min_eq_left (by omega)]
  have l2 : (vcs (l.drop i)).length = (l.length - i) * 98 := by rw [vcs_len fun v hv => hok v (List.mem_of_mem_drop hv), List.length_drop]
  have l3 : (cur.toList.drop o).take (i * 98) = vcs (l.take i) := by rw [← vcs_take hok i (by omega), ← ht, List.take_take, Nat.min_eq_left (by omega)]
  have r1 : w.rangeAt g o (vcs (l.take i)) := hg.rng (by rw [l1, l3])
  have r2 : (cur.toList.drop (o + i * 98)).take (vcs (l.drop i)).length = vcs (l.drop i) := by
    rw [l2, ← vcs_drop hok i (by omega), ← ht, List.drop_take, List.drop_drop, Nat.sub_mul]
  have hxr : w.rangeAt g5 0 x.c := hb.rng (by simp)
  have s5 : g5 < w.heap.size := hb.lt
  have s6 : g < w.heap.size := hg.lt
  replace hg := Lib.hid hg
  replace hb := Lib.hid hb
  replace r1 := Lib.hid r1
  replace r2 := Lib.hid r2
  replace hxr := Lib.hid hxr
  replace l3 := Lib.hid l3
  replace ht := Lib.hid ht
  have o1 := Lib.hid (one_vc x)
  have o2 := Lib.hid (one_vcs (l.drop i))
  clear hx hok
  generalize vcs (l.take i) = xs1 at *
  generalize vcs (l.drop i) = xs2 at *
  generalize vcs l = xs0 at *
  generalize x.c = xc at *
  generalize l.length = n at *
  replace l1 := Lib.hid l1
  replace l2 := Lib.hid l2
  replace lx := Lib.hid lx
  go_enter Try.func20, Try.ntmps20
  go_wp2_with (first
    | ((with_reducible refine wpl_made_grow (o := ⟨some 40, _, _, _, _, _⟩) (ti := 3) (kd := .i64) (k := k) votesT Try.underlying3 rfl (.tmp 34) (.tmp 39) rfl rfl rfl l1.out r1.out (by omega) (by omega) (by omega) (by omega) ?_); rintro w1 g1 c1 cur1 p1 p2 p3 p4 p5 p6 p7
       have t1 := Lib.hid (show Blk w1 g1 63 cur1 from p1)
       have t2 := Lib.hid p2
       have t3 := Lib.hid p3
       have t6 := Lib.hid p6
       have t7 := Lib.hid p7
       clear p1 p2 p3 p6 p7
       have f2 := fun W => run_fromS (g := g1) (off := 0) votesT .i64 (k := i) (n := i + k) (c := c1) (by omega) p4 (by omega) W
       have f3 := fun W => (run_fromS (g := g1) (off := 0) votesT .i64 (k := i + 1) (n := i + k) (c := c1) (by omega) p4 (by omega) W)
       simp only [Int.natCast_add, Int.cast_ofNat_Int, hk, Nat.zero_add] at f2 f3)
    | ((refine wpl_cpyS (o := ⟨some 45, _, _, _, _, _⟩) (xs := xc) (off := i * 98) (n := n + 1 - i) (m := 1) votesT rfl (.tmp 43) (.tmp 44) rfl rfl rfl t1.out (by have := lx.out; rw [Nat.min_eq_left (by omega)]; omega) (by rw [lx.out, t6.out]; omega) (fun j u hu => t2.out.cell (hxr.out j u hu) (by simp)) o1.out ?_); intro w2 p1 p2
       have t4 := Lib.hid p1
       have t5 := Lib.hid p2
       clear p1 p2))
  refine Txt.wp_text (by kernel_rfl) (by kernel_rfl) ?_
  go_wp2_with (first
    | ((refine wpl_cpyS (o := ⟨some 54, _, _, _, _, _⟩) (xs := xs2) (off := (i + 1) * 98) (n := n - i) (m := n - i) votesT rfl (.tmp 50) (.tmp 53) rfl rfl rfl t4.out.drew (by rw [Nat.min_self]; exact l2.out) (by rw [l2.out, List.size_toArray, over_len _ _ _ (by rw [lx.out, Array.length_toList, t6.out]; omega), Array.length_toList, t6.out]; omega) (fun j u hu => (t2.out.then1 t5.out t3.out).drew.cell (hg.out.rng r2.out j u hu) (by simp)) o2.out ?_); intro w3 p1 p2
       have t8 := Lib.hid p1
       have t9 := Lib.hid p2
       clear p1 p2))
  refine ⟨rfl, by kernel_rfl, ?_⟩
  go_wp2_with fail
  go_ret
  have z1 : (over cur1.toList (i * 98) xc).length = c1 * 98 := by rw [over_len _ _ _ (by rw [lx.out, Array.length_toList, t6.out]; omega), Array.length_toList, t6.out]
  have z2 : (over (over cur1.toList (i * 98) xc) ((i + 1) * 98) xs2).length = c1 * 98 := by rw [over_len _ _ _ (by rw [l2.out, z1]; omega), z1]
  have z3 := ins_last cur1.toList xs1 xc xs2 0 (i * 98) 98 ((n - i) * 98) lx.out l2.out (by rw [Array.length_toList, t6.out]; omega) (by simpa using t7.out) l1.out
  rw [show 0 + i * 98 + 98 = (i + 1) * 98 from by omega, show i * 98 + 98 + (n - i) * 98 = (n + 1) * 98 from by omega, Nat.zero_add] at z3
  refine ⟨_, rfl, Ow.close t8.out (by omega) (by omega) (by rw [List.size_toArray]; simp only [z2]; omega) z3, (((t2.out.then1 t5.out t3.out).drew).then1 t9.out t3.out).of0, .inr ⟨g1, rfl, t3.out⟩⟩
set_option maxRecDepth 100000 in
set_option maxHeartbeats 3200000 in
theorem insert_room {l : List Vt} (hok : ∀ v ∈ l, v.ok) {x : Vt} (hx : x.ok) (hn : l.length < 1099511627776) {i : Nat} (hi : i < l.length) {g o c : Nat} {cur : Array Value} {w : World} (hg : Blk w g 63 cur) (hc : c ≤ 9223372036854775807) (hro : l.length + 1 ≤ c) (hsz : o + c * 98 ≤ cur.size)
    (ht : (cur.toList.drop o).take (l.length * 98) = vcs l) {g5 : Nat} (hb : Blk w g5 63 x.c.toArray) (hne : g5 ≠ g) :
    Calls Try.prog 20 #[.slice (some ⟨g, o, none⟩) l.length c, .int .i64 (i : Nat), .slice (some ⟨g5, 0, none⟩) 1 1] w (InsP w (.slice (some ⟨g, o, none⟩) l.length c) (l.length + 1) (vcs (l.take i) ++ (x.c ++ vcs (l.drop i)))) := by
  have f0 := fun W => run_fromS (g := g) (off := o) votesT .i64 (k := i) (n := l.length) (c := c) (by omega) (by omega) (by omega) W
  have f1 := fun W => run_uptoS (g := g) (off := o) (n := l.length) votesT .i64 (k := l.length + 1) (c := c) (by omega) W
  have f2 := fun W => run_fromS (g := g) (off := o) votesT .i64 (k := i + 1) (n := l.length + 1) (c := c) (by omega) (by omega) (by omega) W
  have f3 := fun W => run_fromS (g := g) (off := o) votesT .i64 (k := i) (n := l.length + 1) (c := c) (by omega) (by omega) (by omega) W
  simp only [Int.natCast_add, Int.cast_ofNat_Int] at f1 f2
  have lx := Vt.len hx
  have hov : ∀ lb cb, (callFunc 29 #[.slice (some ⟨g5, 0, none⟩) 1 1, .slice (some ⟨g, o + (i + 1) * 98, none⟩) lb cb]).run Try.prog w = .ok (.value (.bool false)) w := fun lb cb => by
    obtain ⟨inf, hinf, _, hs, _⟩ := votesT.get
    rw [run_callFunc_extern Try.func29 (by kernel_rfl) (by kernel_rfl) (by kernel_rfl) (e := Extern.SlicesOverlaps.overlaps #[56, 56] #[4]) (by kernel_rfl),
      Lib.run_overlaps_apart w 56 4 63 votesT.under 98 (fun w => by simp [Go.sizeOf, typeInfo, hinf, hs]) ⟨g5, 0, none⟩ ⟨g, o + (i + 1) * 98, none⟩ 1 1 lb cb hne 63 63 98 cur.size
        (by unfold Blk at hb; simp [World.shape?, hb, lx]) (by unfold Blk at hg; simp [World.shape?, hg]) (by omega) (hb.frozen _) (hb.frozen _)]
    rfl
  have l1 : (vcs (l.take i)).length = i * 98 := by rw [vcs_len fun v hv => hok v (List.mem_of_mem_take hv), List.length_take, Nat.min_eq_left (by omega)]
  have l2 : (vcs (l.drop i)).length = (l.length - i) * 98 := by rw [vcs_len fun v hv => hok v (List.mem_of_mem_drop hv), List.length_drop]
  have l3 : (cur.toList.drop o).take (i * 98) = vcs (l.take i) := by rw [← vcs_take hok i (by omega), ← ht, List.take_take, Nat.min_eq_left (by omega)]
  have r2 : (cur.toList.drop (o + i * 98)).take (vcs (l.drop i)).length = vcs (l.drop i) := by
    rw [l2, ← vcs_drop hok i (by omega), ← ht, List.drop_take, List.drop_drop, Nat.sub_mul]
  have hxr : w.rangeAt g5 0 x.c := hb.rng (by simp)
  replace hg := Lib.hid hg
  replace hb := Lib.hid hb
  replace r2 := Lib.hid r2
  replace hxr := Lib.hid hxr
  replace l3 := Lib.hid l3
  replace ht := Lib.hid ht
  replace hne := Lib.hid hne
  have o1 := Lib.hid (one_vc x)
  have o2 := Lib.hid (one_vcs (l.drop i))
  clear hx hok
  generalize vcs (l.take i) = xs1 at *
  generalize vcs (l.drop i) = xs2 at *
  generalize vcs l = xs0 at *
  generalize x.c = xc at *
  generalize l.length = n at *
  replace l1 := Lib.hid l1
  replace l2 := Lib.hid l2
  replace lx := Lib.hid lx
  replace hsz := Lib.hid hsz
  have hfit1 := Lib.hid (show o + (i + 1) * 98 + xs2.length ≤ cur.size from by have := hsz.out; rw [l2.out]; omega)
  go_enter Try.func20, Try.ntmps20
  go_wp2_with (simp only [hov])
  refine Txt.wp_text (by kernel_rfl) (by kernel_rfl) ?_
  go_wp2_with (first
    | ((refine wpl_cpyS (o := ⟨some 77, _, _, _, _, _⟩) (xs := xs2) (off := o + (i + 1) * 98) (n := n - i) (m := n + 1 - i) votesT rfl (.tmp 73) (.tmp 76) rfl rfl rfl hg.out.drew (by rw [Nat.min_eq_right (by omega)]; exact l2.out) hfit1.out (hg.out.drew.rng r2.out) o2.out ?_); intro w3 p1 p2
       have t8 := Lib.hid p1
       have t9 := Lib.hid p2
       clear p1 p2))
  refine ⟨rfl, by kernel_rfl, ?_⟩
  go_wp2_with (first
    | ((refine wpl_cpyS (o := ⟨some 82, _, _, _, _, _⟩) (xs := xc) (off := o + i * 98) (n := n + 1 - i) (m := 1) votesT rfl (.tmp 80) (.tmp 81) rfl rfl rfl t8.out (by have := lx.out; rw [Nat.min_eq_left (by omega)]; omega) (by rw [lx.out, List.size_toArray, over_len _ _ _ (by rw [Array.length_toList]; exact hfit1.out), Array.length_toList]; have := hsz.out; omega) (fun j u hu => t9.out.cell ((Kept.refl [] w).drew.cell (hxr.out j u hu) (by simp)) (by simpa using hne.out)) o1.out ?_); intro w4 p1 p2
       have t4 := Lib.hid p1
       have t5 := Lib.hid p2
       clear p1 p2))
  go_ret
  have z1 : (over cur.toList (o + (i + 1) * 98) xs2).length = cur.size := by rw [over_len _ _ _ (by rw [Array.length_toList]; exact hfit1.out), Array.length_toList]
  have z2 : (over (over cur.toList (o + (i + 1) * 98) xs2) (o + i * 98) xc).length = cur.size := by rw [over_len _ _ _ (by rw [lx.out, z1]; have := hsz.out; omega), z1]
  have z3 := ins_first cur.toList xs1 xc xs2 o (i * 98) 98 ((n - i) * 98) lx.out l2.out (by rw [Array.length_toList]; have := hsz.out; omega) l3.out l1.out
  rw [show o + i * 98 + 98 = o + (i + 1) * 98 from by omega, show i * 98 + 98 + (n - i) * 98 = (n + 1) * 98 from by omega] at z3
  refine ⟨_, rfl, Ow.close t4.out (by omega) (by omega) (by rw [List.size_toArray]; simp only [z2]; exact hsz.out) z3, ?_, .inl rfl⟩
  exact ((Kept.refl _ w).drew.trans' (t9.out.more (by simp [Value.ownBlock]))).trans' (t5.out.more (by simp [Value.ownBlock]))
/-- A vote is put in. -/
theorem insert_any {l : List Vt} (hok : ∀ v ∈ l, v.ok) {x : Vt} (hx : x.ok) (hn : l.length < 1099511627776) {i : Nat} (hi : i ≤ l.length) {v : Value} {w : World} (ho : Ow w 63 98 v l.length (vcs l)) {g5 : Nat} (hb : Blk w g5 63 x.c.toArray) (hne : v.ownBlock ≠ some g5) :
    Calls Try.prog 20 #[v, .int .i64 (i : Nat), .slice (some ⟨g5, 0, none⟩) 1 1] w (InsP w v (l.length + 1) (vcs (l.take i ++ x :: l.drop i))) := by
  rw [ins_cells]
  rcases Nat.lt_or_eq_of_le hi with h | rfl
  · obtain ⟨g, o, c, cur, rfl, h1, h2, h3, h4, h5⟩ := ho.open_ (by omega)
    by_cases hro : l.length + 1 ≤ c
    · exact insert_room hok hx hn h h1 h3 hro h4 h5 hb (fun e => hne (by simp [Value.ownBlock, e]))
    · exact insert_grow hok hx hn h h1 h2 (by omega) h5 hb
  · simpa using insert_end hx hn ho hb
end Go.Proofs.Ythffkgnbgncfaaa
