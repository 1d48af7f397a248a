/-
  A disk answers every script of calls (DiskPlays): the walk.
-/
import Derived.Test.YtfdioobkbdgbmaaDisk10

namespace Go.Proofs.Ytfdioobkbdgbmaa
open Go.RowKit Go.Mem

/-- So many bytes at most behind k calls. -/
def most (k : Nat) : Nat := k * 1048576
theorem most_succ (k : Nat) : most (k + 1) = most k + 1048576 := by unfold most; omega
theorem most_le (k : Nat) (h : k ≤ 50) : most k ≤ 52428800 := by unfold most; omega

/-- What holds at every round's head. -/
def Inv (w1 w : World) (b r size k : Nat) : Prop := ∃ (safe : Nat) (v rv : Value) (xs : List UInt8), Both w1 w b r size safe v rv xs (rep xs safe) ∧ safe ≤ xs.length ∧ xs.length ≤ most k ∧ xs.length ≤ size

theorem kind_q (x : Int) : (IntKind.u64.wrap x).tmod 4 = 0 ∨ (IntKind.u64.wrap x).tmod 4 = 1 ∨ (IntKind.u64.wrap x).tmod 4 = 2 ∨ (IntKind.u64.wrap x).tmod 4 = 3 := by
  rw [u64_wrap]
  have h0 : 0 ≤ x % 18446744073709551616 := Int.emod_nonneg _ (by omega)
  rw [Int.tmod_eq_emod_of_nonneg h0]
  omega

set_option maxRecDepth 100000 in
set_option maxHeartbeats 4000000 in
theorem plays_walk (sv : Value) (size : Int) (ops : List (Int × Int × Value × List UInt8)) (w : World) (hs : Script w sv ops) (_ : ops.length ≤ 9223372036854775807) (lo : -9223372036854775808 ≤ size) (hi : size ≤ 9223372036854775807)
    (hB : ∀ o ∈ ops, o.2.2.2.length ≤ 1048576) (hN : ∀ o ∈ ops, -9223372036854775808 ≤ o.2.1 ∧ o.2.1 ≤ 9223372036854775807) :
    Calls Try.prog 4 #[.int .i64 size, sv] w fun e w' => e = .returned (.bool true) ∧ Kept [] w w' := by
  have hP := Lib.hid hs
  obtain ⟨A, c, rfl, _, _, _⟩ := hs.outer
  clear hs
  by_cases hneg : size < 0
  · go_enter Try.func4, Try.ntmps4
    go_wp2_with (first | (go_at_call 6; refine (first_true _).mono ?_; rintro e w1 ⟨rfl, k1⟩) | (go_at_call 7; refine (new_neg _ _ hneg).mono ?_; rintro e w' ⟨rfl, rfl⟩))
    go_ret
    exact ⟨rfl, k1⟩
  · obtain ⟨n, rfl⟩ : ∃ n : Nat, size = n := ⟨size.toNat, by omega⟩
    have hd0 : decide ((n : Int) < 0) = false := by simp
    have hd1 : (0 : Int) ≤ n := by omega
    clear hneg
    go_enter Try.func4, Try.ntmps4
    go_wp2_with (first | (go_at_call 6; refine (first_true _).mono ?_; rintro e w1 ⟨rfl, k1⟩) | (go_at_call 7; refine (new_pos n _ hi).mono ?_; rintro e w' ⟨rfl, rfl⟩))
    go_loopg [44] ops.length (fun g i wr => ∃ k : Nat, g + k = ops.length ∧ k ≤ 50 ∧ i = .int .i64 k ∧ Inv w1 wr w1.heap.size (w1.heap.size + 1) n k)
    case atStart =>
      have hbn := Blk.new (w1.alloc (.cells #[.int .i64 n, .int .i64 0, .slice none 0 0] 48)) 37 #[.int .i64 n, .slice none 0 0]
      refine ⟨0, rfl, by omega, rfl, 0, .slice none 0 0, .slice none 0 0, [], ⟨⟨(Blk.new _ _ _).alloc _, World.ownsRow_nil _ _ _ _⟩, ⟨by simpa using hbn, Ow.nil _ _ _⟩, Nat.le_refl _, by omega, by simp [Value.ownBlock], by simp [Value.ownBlock], ((Kept.refl [] w1).alloc _).alloc _⟩, by simp, by simp, by simp⟩
    case round =>
      obtain ⟨k, hk, hk50, rfl, safe, v, rv, xs, hb, h1, h2, hfit⟩ := hrel
      by_cases hlt : k < ops.length ∧ k < 50
      · obtain ⟨hlt, h50⟩ := hlt
        obtain ⟨pb, po, pc, heq, c0, c1, c2⟩ := (hP.out.kept0 (k1.then0 hb.kept)).at_ hlt
        cases heq
        have hin := (hP.out.kept0 k1).inner ops[k] (List.getElem_mem _)
        have hB2 := hB ops[k] (List.getElem_mem _)
        have hN2 := hN ops[k] (List.getElem_mem _)
        generalize ops[k] = o at *
        obtain ⟨kd, nn, bval, bs⟩ := o
        dsimp only at c0 c1 c2 hin hB2 hN2
        have hin2 := Lib.hid hin
        have hb2 := Lib.hid hb
        obtain ⟨BA, bc, rfl, _, _, _⟩ := hin
        clear hb
        have hm1 := most_succ k
        have hm2 := most_le k hk50
        have h2s : xs.length ≤ most (k + 1) := by omega
        have hm3 := Lib.hid hm1
        have hm4 := Lib.hid hm2
        have hB3 := Lib.hid hB2
        have hxl : xs.length ≤ 1099511627776 := by omega
        clear hm1 hm2 hB2
        go_upto_block 2 with fail
        go_cut [10, 54] (fun _ _ wc => Inv w1 wc w1.heap.size (w1.heap.size + 1) n (k + 1))
        case first =>
          have hal := Lib.hid (hb2.out.then0 ((Kept.refl [] wr).alloc (.cells #[.int .i64 kd, .int .i64 nn, .slice BA bs.length bc] 39)))
          rcases kind_q kd with hq | hq | hq | hq
          · obtain ⟨kk, hkk, hkk2⟩ : ∃ kk : Nat, (bs.length : Int) / 2 = kk ∧ kk ≤ bs.length := ⟨bs.length / 2, by omega, by omega⟩
            have hbl : bs.length ≤ 1048576 := hB3.out
            go_wp2_with (at_builtin; refine wpl_app bytesT rfl (.tmp 76) (.tmp 78) rfl rfl (xs := []) (n := 0) (Ow.of_own (own_alloc_at (by simp) rfl rfl (by omega))) rfl (((hin2.out.kept0 hb2.out.kept).alloc _).alloc _) (one_bv _) ?_ ?_ ?_)
            case refine_1 => omega
            case refine_2 => omega
            intro ov w2 hov hk2 hn2
            have hk2a : Kept [] wr w2 := Kept.fresh ((Kept.refl [] wr).alloc (.cells #[.int .i64 kd, .int .i64 nn, .slice BA bs.length bc] 39) |>.alloc (.cells #[] 5)) hk2 (by simp [Value.ownBlock])
            have hb3 := Lib.hid (hal.out.then0 (Kept.fresh ((Kept.refl [] (wr.alloc (.cells #[.int .i64 kd, .int .i64 nn, .slice BA bs.length bc] 39))).alloc (.cells #[] 5)) hk2 (by simp [Value.ownBlock])))
            have hblk := Lib.hid ((((Blk.new wr 39 #[.int .i64 kd, .int .i64 nn, .slice BA bs.length bc]).alloc (.cells #[] 5)).kept hk2 (by simp [Value.ownBlock])))
            have hovn : ∀ g, ov.ownBlock = some g → wr.heap.size ≤ g := by
              intro g hg
              rcases hn2 with h | h
              · rw [h] at hg; simp [Value.ownBlock] at hg; omega
              · rw [h] at hg; simp at hg; omega
            have hov2 : Ow w2 5 1 ov bs.length (bv bs) := by simpa using hov
            obtain ⟨OA, oc, rfl, hoc⟩ := hov2.shape
            obtain ⟨X1, dX1, hX1, rX1, oX1, _⟩ := cut_to bytesT (Rd.of_ow hov2) .i64 kk hkk2
            obtain ⟨X2, dX2, hX2, rX2, oX2, _⟩ := cut_from bytesT (Rd.of_ow hov2) .i64 kk hkk2
            have hkb : (kk : Int) ≤ 1048576 := by omega
            have hov3 := Lib.hid hov2
            have hovn2 := Lib.hid hovn
            have hk3 := Lib.hid hk2a
            have hrX1 := Lib.hid rX1
            have hrX2 := Lib.hid rX2
            have hoX1 := Lib.hid oX1
            have hoX2 := Lib.hid oX2
            clear hov hk2 hn2 hov2 hovn hk2a hbl rX1 rX2 oX1 oX2
            go_wp2_with fail
            refine Txt.wp_text (by kernel_rfl) (by kernel_rfl) ?_
            have hold := hb2.out.old
            have hp1 := parts_list w2 (w1.heap.size :: v.ownBlock.toList) #[.slice X1 kk dX1, .slice none 0 0, .slice X2 (bs.length - kk) dX2] [(.slice X1 kk dX1, bs.take kk), (.slice none 0 0, []), (.slice X2 (bs.length - kk) dX2, bs.drop kk)] 3 rfl rfl
              (fun k hk => Nat.lt_of_lt_of_le (hold.1 k hk) hk3.out.size) (by
              intro x hx
              simp only [List.mem_cons, List.mem_nil_iff, or_false] at hx
              rcases hx with rfl | rfl | rfl
              · refine ⟨by have := hrX1.out; simpa [bv, Nat.min_eq_left hkk2] using this, fun _ g hg hm => ?_⟩
                rw [hoX1.out] at hg
                have := hold.1 g hm
                have := hovn2.out g hg
                omega
              · exact ⟨Rd.nil _ _, fun h => by simp at h⟩
              · refine ⟨by have := hrX2.out; simpa [bv] using this, fun h0 g hg hm => ?_⟩
                rw [hoX2.out (by simpa using h0)] at hg
                have := hold.1 g hm
                have := hovn2.out g hg
                omega)
            have hp2 := Lib.hid hp1
            clear hold hp1
            go_wp2_with fail
            by_cases hroom : xs.length + bs.length ≤ n
            · refine (b_dapp_ok ((hb3.out.then0 ((Kept.refl [] w2).alloc _)).then0 (Kept.refl [] _).drew) hp2.out.drew hi (by simp) (by simp [total]; omega) (by simp [total]; omega)).mono ?_
              rintro e w3 ⟨rfl, v3, hb4, ho4, hk4, hn4⟩
              have hj : joined [(Value.slice X1 kk dX1, bs.take kk), (.slice none 0 0, []), (.slice X2 (bs.length - kk) dX2, bs.drop kk)] = bs := by simp [joined]
              rw [hj] at hb4
              have e2 := (ho4 _ _ _ (by decide) (by decide) (by decide) (by decide) (hblk.out.alloc _)).cell 2
              simp at e2
              have hk4a : Kept (w1.heap.size :: v.ownBlock.toList) w2 w3 := ((Kept.refl [] w2).alloc _).trans hk4.from_drew (by simp) (fun _ _ h => h)
              have hap : Apart w3 w1.heap.size v3 (.slice OA bs.length oc) bs.length := by
                refine ⟨bv bs, hov3.out.kept hk4a (fun g hg hm => ?_), ?_, fun g hg hm => ?_⟩
                · have := hb2.out.old.1 g hm
                  have := hovn2.out g hg
                  omega
                · intro u hu
                  obtain ⟨y, _, rfl⟩ := List.mem_map.1 hu
                  exact ⟨_, rfl⟩
                · rcases List.mem_cons.1 hm with rfl | hm
                  · have := hb2.out.old.1 w1.heap.size (by simp)
                    have := hovn2.out _ hg
                    omega
                  · have hm := mem_own hm
                    rcases hn4 with h | ⟨g', h, hg'⟩
                    · rw [hm] at h
                      have := hb2.out.old.1 g (by rw [← h]; simp)
                      have := hovn2.out g hg
                      omega
                    · rw [hm] at h
                      have h : g = g' := by simpa using h
                      have := hov3.out.lt hg
                      simp at hg'
                      omega
              obtain ⟨Y1, dY1, hY1, rY1, oY1, _⟩ := cut_to bytesT (hin2.out.kept0 hb4.kept) .i64 kk hkk2
              obtain ⟨Y2, dY2, hY2, rY2, oY2, _⟩ := cut_from bytesT (hin2.out.kept0 hb4.kept) .i64 kk hkk2
              have hpY := parts_list w3 ((w1.heap.size + 1) :: rv.ownBlock.toList) #[.slice Y1 kk dY1, .slice Y2 (bs.length - kk) dY2] [(.slice Y1 kk dY1, bs.take kk), (.slice Y2 (bs.length - kk) dY2, bs.drop kk)] 2 rfl rfl hb4.old.2.1 (by
                intro x hx
                simp only [List.mem_cons, List.mem_nil_iff, or_false] at hx
                rcases hx with rfl | rfl
                · refine ⟨by simpa [bv, Nat.min_eq_left hkk2] using rY1, fun h0 g hg hm => ?_⟩
                  rw [oY1] at hg
                  obtain ⟨g', hg', hlt'⟩ := hin2.out.lt (by omega) (by simp at h0; omega)
                  have := hb4.old.2.2.2 g hm
                  rw [hg] at hg'
                  have : g = g' := by simpa using hg'
                  omega
                · refine ⟨by simpa [bv] using rY2, fun h0 g hg hm => ?_⟩
                  rw [oY2 (by simpa using h0)] at hg
                  obtain ⟨g', hg', hlt'⟩ := hin2.out.lt (by omega) (by simp at h0; omega)
                  have := hb4.old.2.2.2 g hm
                  rw [hg] at hg'
                  have : g = g' := by simpa using hg'
                  omega)
              have hpY2 := Lib.hid hpY
              have hb5 := Lib.hid hb4
              have hap2 := Lib.hid hap
              clear hpY hb4 hap rY1 rY2 oY1 oY2 hX1 hX2 hk4a hk4 hn4 ho4 hj
              go_wp2_with fail
              refine ⟨rfl, by kernel_rfl, ?_⟩
              go_wp2_with fail
              refine Txt.wp_text (by kernel_rfl) (by kernel_rfl) ?_
              go_wp2_with fail
              refine (b_rapp_ok ((hb5.out.then0 ((Kept.refl [] w3).alloc _)).then0 (Kept.refl [] _).drew) hpY2.out.drew (by simp) (by rw [rep_length]; simp [total]; have := hm4.out; have := hB3.out; have := h2; omega) (by rw [rep_length]; simp [total]; omega)).mono ?_
              rintro e w4 ⟨rfl, rv4, hb4, hk4⟩
              have hj : joined [(Value.slice Y1 kk dY1, bs.take kk), (.slice Y2 (bs.length - kk) dY2, bs.drop kk)] = bs := by simp [joined]
              rw [hj, rep_append xs bs safe h1] at hb4
              have hap3 := Lib.hid (hap2.out.kept (((Kept.refl [] w3).alloc _).trans hk4.from_drew (by simp) (fun _ _ h => h)) (fun ys hy g hg hm => by
                rcases List.mem_cons.1 hm with rfl | hm
                · exact hy.blk_ne hb5.out.rf.blk (by decide) hg
                · exact hy.ne_ hb5.out.rf.own (by decide) g hg (mem_own hm)))
              have hb6 := Lib.hid hb4
              have hxl2 : safe ≤ (xs ++ bs).length := by rw [List.length_append]; omega
              have hxm : (xs ++ bs).length ≤ most (k + 1) ∧ (xs ++ bs).length ≤ n := by rw [List.length_append]; have := hm3.out; have := hB3.out; exact ⟨by omega, by omega⟩
              have hxl3 := Lib.hid hxl2
              have hxm3 := Lib.hid hxm
              clear hb4 hk4 hj hxl2 hxm hY1 hY2
              go_wp2_with fail
              refine ⟨rfl, by kernel_rfl, ?_⟩
              go_wp2_with fail
              go_loopg [116] bs.length (fun g i wq => ∃ j : Nat, g + j = bs.length ∧ i = .int .i64 j ∧ Both w1 wq w1.heap.size (w1.heap.size + 1) n safe v3 rv4 (xs ++ bs) (rep (xs ++ bs) safe) ∧ Apart wq w1.heap.size v3 (.slice OA bs.length oc) bs.length)
              case atStart => exact ⟨0, rfl, rfl, hb6.out, hap3.out⟩
              case round =>
                obtain ⟨j, hj, rfl, hbj, hapj⟩ := hrel
                by_cases hjl : j < bs.length
                · have hnew : ∀ g, (Value.slice OA bs.length oc).ownBlock = some g → w1.heap.size ≤ g := fun g hg => Nat.le_trans hb2.out.kept.size (hovn2.out g hg)
                  obtain ⟨ys, hys, hz, hne⟩ := hapj
                  obtain ⟨g, o, oc2, heq, _, hcl, hfr, hset⟩ := hys.at_ (by omega)
                  have hlen : ys.length = bs.length := by have := hys.1; omega
                  have hgo : (Value.slice OA bs.length oc).ownBlock = some g := by rw [heq]; rfl
                  cases heq
                  have hcl2 := hcl j ys[j] (by simp [hlen, hjl])
                  obtain ⟨z, hz2⟩ := hz ys[j] (List.getElem_mem _)
                  rw [hz2] at hcl2
                  have hfr2 := hfr (o + j)
                  have hst := fun u => hbj.store ⟨ys, hys, hz, hne⟩ hnew (o := o + j) hgo u
                  have hset2 := fun u => hset j u (by omega)
                  have hst3 := Lib.hid hst
                  have hset3 := Lib.hid hset2
                  have hz3 := Lib.hid hz
                  have hne3 := Lib.hid hne
                  clear hst hset2 hset hcl hfr hys hz hne hbj hz2 hnew hgo
                  go_wp2_with fail
                  go_roundg (bs.length - (j + 1))
                  case measure => omega
                  case rel =>
                    refine ⟨j + 1, by omega, by go_num, hst3.out _, _, hset3.out _, ?_, hne3.out⟩
                    intro u hu
                    rcases List.mem_or_eq_of_mem_set hu with h | h
                    · exact hz3.out u h
                    · exact ⟨_, h⟩
                · have hbj2 := Lib.hid hbj
                  clear hbj hapj
                  go_wp2_with fail
                  go_meet
                  exact ⟨safe, _, _, _, hbj2.out, hxl3.out, hxm3.out.1, hxm3.out.2⟩
            · refine (b_dapp_full ((hb3.out.then0 ((Kept.refl [] w2).alloc _)).then0 (Kept.refl [] _).drew) hp2.out.drew hfit hi (by simp) (by simp [total]; omega)).mono ?_
              rintro e w3 ⟨rfl, hb4, ho4, hk4⟩
              have e2 := (ho4 _ _ _ (by decide) (by decide) (by decide) (by decide) (hblk.out.alloc _)).cell 2
              simp at e2
              have hk4a : Kept (w1.heap.size :: v.ownBlock.toList) w2 w3 := ((Kept.refl [] w2).alloc _).trans hk4.from_drew (by simp) (fun _ _ h => h)
              have hap : Apart w3 w1.heap.size v (.slice OA bs.length oc) bs.length := by
                refine ⟨bv bs, hov3.out.kept hk4a (fun g hg hm => ?_), ?_, fun g hg hm => ?_⟩
                · have := hb2.out.old.1 g hm
                  have := hovn2.out g hg
                  omega
                · intro u hu
                  obtain ⟨y, _, rfl⟩ := List.mem_map.1 hu
                  exact ⟨_, rfl⟩
                · rcases List.mem_cons.1 hm with rfl | hm
                  · have := hb2.out.old.1 w1.heap.size (by simp)
                    have := hovn2.out _ hg
                    omega
                  · have hm := mem_own hm
                    have := hb2.out.old.1 g (by rw [hm]; simp)
                    have := hovn2.out g hg
                    omega
              obtain ⟨Y1, dY1, hY1, rY1, oY1, _⟩ := cut_to bytesT (hin2.out.kept0 hb4.kept) .i64 kk hkk2
              obtain ⟨Y2, dY2, hY2, rY2, oY2, _⟩ := cut_from bytesT (hin2.out.kept0 hb4.kept) .i64 kk hkk2
              have hpY := parts_list w3 ((w1.heap.size + 1) :: rv.ownBlock.toList) #[.slice Y1 kk dY1, .slice Y2 (bs.length - kk) dY2] [(.slice Y1 kk dY1, bs.take kk), (.slice Y2 (bs.length - kk) dY2, bs.drop kk)] 2 rfl rfl hb4.old.2.1 (by
                intro x hx
                simp only [List.mem_cons, List.mem_nil_iff, or_false] at hx
                rcases hx with rfl | rfl
                · refine ⟨by simpa [bv, Nat.min_eq_left hkk2] using rY1, fun h0 g hg hm => ?_⟩
                  rw [oY1] at hg
                  obtain ⟨g', hg', hlt'⟩ := hin2.out.lt (by omega) (by simp at h0; omega)
                  have := hb4.old.2.2.2 g hm
                  rw [hg] at hg'
                  have : g = g' := by simpa using hg'
                  omega
                · refine ⟨by simpa [bv] using rY2, fun h0 g hg hm => ?_⟩
                  rw [oY2 (by simpa using h0)] at hg
                  obtain ⟨g', hg', hlt'⟩ := hin2.out.lt (by omega) (by simp at h0; omega)
                  have := hb4.old.2.2.2 g hm
                  rw [hg] at hg'
                  have : g = g' := by simpa using hg'
                  omega)
              have hpY2 := Lib.hid hpY
              have hb5 := Lib.hid hb4
              have hap2 := Lib.hid hap
              clear hpY hb4 hap rY1 rY2 oY1 oY2 hX1 hX2 hk4a hk4 ho4
              go_wp2_with fail
              refine ⟨rfl, by kernel_rfl, ?_⟩
              go_wp2_with fail
              refine Txt.wp_text (by kernel_rfl) (by kernel_rfl) ?_
              go_wp2_with fail
              refine (b_rapp_full ((hb5.out.then0 ((Kept.refl [] w3).alloc _)).then0 (Kept.refl [] _).drew) hpY2.out.drew (by simp) (by rw [rep_length]; simp [total]; have := hm4.out; have := hB3.out; have := h2; omega) (by rw [rep_length]; simp [total]; omega)).mono ?_
              rintro e w4 ⟨rfl, hb4, hk4⟩
              have hap3 := Lib.hid (hap2.out.kept (((Kept.refl [] w3).alloc _).trans hk4.from_drew (by simp) (fun _ _ h => h)) (fun ys hy g hg hm => by
                rcases List.mem_cons.1 hm with rfl | hm
                · exact hy.blk_ne hb5.out.rf.blk (by decide) hg
                · exact hy.ne_ hb5.out.rf.own (by decide) g hg (mem_own hm)))
              have hb6 := Lib.hid hb4
              clear hb4 hk4 hY1 hY2
              go_wp2_with fail
              refine ⟨rfl, by kernel_rfl, ?_⟩
              go_wp2_with fail
              go_loopg [116] bs.length (fun g i wq => ∃ j : Nat, g + j = bs.length ∧ i = .int .i64 j ∧ Both w1 wq w1.heap.size (w1.heap.size + 1) n safe v rv xs (rep xs safe) ∧ Apart wq w1.heap.size v (.slice OA bs.length oc) bs.length)
              case atStart => exact ⟨0, rfl, rfl, hb6.out, hap3.out⟩
              case round =>
                obtain ⟨j, hj, rfl, hbj, hapj⟩ := hrel
                by_cases hjl : j < bs.length
                · have hnew : ∀ g, (Value.slice OA bs.length oc).ownBlock = some g → w1.heap.size ≤ g := fun g hg => Nat.le_trans hb2.out.kept.size (hovn2.out g hg)
                  obtain ⟨ys, hys, hz, hne⟩ := hapj
                  obtain ⟨g, o, oc2, heq, _, hcl, hfr, hset⟩ := hys.at_ (by omega)
                  have hlen : ys.length = bs.length := by have := hys.1; omega
                  have hgo : (Value.slice OA bs.length oc).ownBlock = some g := by rw [heq]; rfl
                  cases heq
                  have hcl2 := hcl j ys[j] (by simp [hlen, hjl])
                  obtain ⟨z, hz2⟩ := hz ys[j] (List.getElem_mem _)
                  rw [hz2] at hcl2
                  have hfr2 := hfr (o + j)
                  have hst := fun u => hbj.store ⟨ys, hys, hz, hne⟩ hnew (o := o + j) hgo u
                  have hset2 := fun u => hset j u (by omega)
                  have hst3 := Lib.hid hst
                  have hset3 := Lib.hid hset2
                  have hz3 := Lib.hid hz
                  have hne3 := Lib.hid hne
                  clear hst hset2 hset hcl hfr hys hz hne hbj hz2 hnew hgo
                  go_wp2_with fail
                  go_roundg (bs.length - (j + 1))
                  case measure => omega
                  case rel =>
                    refine ⟨j + 1, by omega, by go_num, hst3.out _, _, hset3.out _, ?_, hne3.out⟩
                    intro u hu
                    rcases List.mem_or_eq_of_mem_set hu with h | h
                    · exact hz3.out u h
                    · exact ⟨_, h⟩
                · have hbj2 := Lib.hid hbj
                  clear hbj hapj
                  go_wp2_with fail
                  go_meet
                  exact ⟨safe, _, _, _, hbj2.out, h1, h2s, hfit⟩
          · go_wp2_with fail
            refine (b_dsync hal.out).mono ?_
            rintro e w2 ⟨rfl, hb3⟩
            have hb4 := Lib.hid hb3
            clear hb3
            go_wp2_with fail
            refine (b_rsync hb4.out (by rw [rep_length]; exact hxl)).mono ?_
            rintro e w3 ⟨rfl, hb5⟩
            have hb6 := Lib.hid hb5
            clear hb5
            go_wp2_with fail
            go_meet
            exact ⟨_, v, rv, xs, by rw [← rep_sync xs safe]; exact hb6.out, Nat.le_refl _, h2s, hfit⟩
          · go_wp2_with fail
            refine (b_dcrash nn hal.out h1 (by omega)).mono ?_
            rintro e w2 ⟨rfl, v2, hb3, ho3⟩
            have hb4 := Lib.hid hb3
            have e2 := (ho3 _ _ _ (by decide) (by decide) (by decide) (by decide) (Blk.new wr 39 #[.int .i64 kd, .int .i64 nn, .slice BA bs.length bc])).cell 1
            simp at e2
            clear hb3 ho3
            go_wp2_with fail
            refine (b_rcrash nn hb4.out (by rw [rep_length]; exact hxl) hN2.1 hN2.2).mono ?_
            rintro e w3 ⟨rfl, rv2, hb5⟩
            have hb6 := Lib.hid hb5
            clear hb5
            go_wp2_with fail
            go_meet
            have hll := left_le h1 nn
            exact ⟨_, v2, rv2, _, by rw [← rep_crash xs safe nn h1]; exact hb6.out, by rw [List.length_take]; omega, by rw [List.length_take]; omega, by rw [List.length_take]; omega⟩
          · by_cases hin : 0 ≤ nn ∧ nn ≤ xs.length
            · obtain ⟨m, rfl⟩ : ∃ m : Nat, nn = m := ⟨nn.toNat, by omega⟩
              go_wp2_with fail
              refine (b_dcut m hal.out (by omega)).mono ?_
              rintro e w2 ⟨rfl, v2, hb3, ho3⟩
              have hb4 := Lib.hid hb3
              have e2 := (ho3 _ _ _ (by decide) (by decide) (by decide) (by decide) (Blk.new wr 39 #[.int .i64 kd, .int .i64 m, .slice BA bs.length bc])).cell 1
              simp at e2
              clear hb3 ho3
              go_wp2_with fail
              refine (b_rcut m hb4.out (by rw [rep_length]; omega)).mono ?_
              rintro e w3 ⟨rfl, rv2, hb5⟩
              have hb6 := Lib.hid hb5
              clear hb5
              go_wp2_with fail
              go_meet
              exact ⟨_, v2, rv2, _, by rw [← rep_take xs safe m]; exact hb6.out, by rw [List.length_take]; omega, by rw [List.length_take]; omega, by rw [List.length_take]; omega⟩
            · go_wp2_with fail
              refine (b_dcut_bad nn hal.out (by omega)).mono ?_
              rintro e w2 ⟨rfl, hb3, ho3⟩
              have hb4 := Lib.hid hb3
              have e2 := (ho3 _ _ _ (by decide) (by decide) (by decide) (by decide) (Blk.new wr 39 #[.int .i64 kd, .int .i64 nn, .slice BA bs.length bc])).cell 1
              simp at e2
              clear hb3 ho3
              go_wp2_with fail
              refine (b_rcut_bad nn hb4.out (by rw [rep_length]; omega)).mono ?_
              rintro e w3 ⟨rfl, hb5⟩
              have hb6 := Lib.hid hb5
              clear hb5
              go_wp2_with fail
              go_meet
              exact ⟨_, v, rv, _, hb6.out, h1, h2s, hfit⟩
        case rest =>
          obtain ⟨safe, v, rv, xs, hb, h1, h2, hfit⟩ := hcut
          have hm2 := most_le (k + 1) (by omega)
          have hxl : xs.length ≤ 140737488355328 := by omega
          have hxl2 := Lib.hid hxl
          have hxx : xs.length ≤ 1099511627776 := by omega
          have hxl3 := Lib.hid hxx
          clear hxx
          have hb2 := Lib.hid hb
          have h2s := Lib.hid h2
          clear hb hm2 hxl h2
          go_wp2_with fail
          refine (bytes_any _ _ _ _ _ _ hb2.out.dsk hxl2.out).mono ?_
          rintro e w2 ⟨bv2, rfl, ho, hk, hn⟩
          have hb3 := Lib.hid (hb2.out.then0 hk)
          have hap : Apart w2 w1.heap.size v bv2 xs.length := ⟨_, Ow.of_own ho, by intro u hu; obtain ⟨y, _, rfl⟩ := List.mem_map.1 hu; exact ⟨_, rfl⟩, by
            intro g hg hm
            have := hb2.out.old.1 g hm
            rcases hn with h | ⟨g', h, hg'⟩
            · rw [hg] at h; cases h
            · rw [hg] at h; have h : g = g' := by simpa using h
              omega⟩
          have hnew : ∀ g, bv2.ownBlock = some g → w1.heap.size ≤ g := by
            intro g hg
            rcases hn with h | ⟨g', h, hg'⟩
            · rw [hg] at h; cases h
            · rw [hg] at h; have h : g = g' := by simpa using h
              have := hb2.out.kept.size
              omega
          have hrd : Rd w2 1 bv2 xs.length (bv xs) := Rd.of_ow (Ow.of_own ho)
          obtain ⟨BA2, bc2, rfl, _⟩ := (Ow.of_own ho).shape
          have hap2 := Lib.hid hap
          have hnew2 := Lib.hid hnew
          have hrd2 := Lib.hid hrd
          clear ho hk hn hap hnew hrd
          go_wp2_with fail
          have hss : Rd w2.drew 1 (.slice BA2 xs.length bc2) xs.length (bv xs) := hrd2.out.drew
          refine Txt.wp_textF [1] (fun u => Rd u 1 (.slice BA2 xs.length bc2) xs.length (bv xs)) [[_, _, _, _], [_, _, _, _, _], [_, _, _, _, _, _, _], [_, _], [_, _]] (by kernel_rfl) (by kernel_rfl) rfl hss (Txt.segs_cons ?_)
          have hs1 := run_toS (P := Try.prog) (s := 22) (d := 9) (e := 5) rfl rfl rfl hss
          clear hss
          go_wp2_with fail
          have hb4 := hb3.out.then0 (Kept.refl [] w2).drew
          refine (ref_bytes _ _ _ _ _ hb4.rf (by rw [rep_length]; have := hxl2.out; have := hxl3.out; omega)).mono ?_
          rintro e w3 ⟨cv, rfl, hco, hck⟩
          have hk3 : Kept [] w2 w3 := (Kept.refl [] w2).drew.then0 hck
          rw [rep_length, rep_fst] at hco
          have hrc : Rd w3 1 cv xs.length (bv xs) := Rd.of_ow hco
          have hs2 := run_toS (P := Try.prog) (s := 22) (d := 9) (e := 5) rfl rfl rfl hrc
          have hb5 := Lib.hid (hb3.out.then0 hk3)
          have hap3 := Lib.hid (hap2.out.kept hk3 (by simp))
          have hrd3 := Lib.hid (hrd2.out.kept0 hk3)
          clear hb4 hco hck hk3 hrc hs1
          go_wp2_with fail
          refine ⟨rfl, hrd3.out, Txt.segs_cons ?_⟩
          go_wp2_with fail
          refine (len_any _ _ _ _ _ _ hb5.out.dsk).mono ?_
          rintro e w' ⟨rfl, rfl⟩
          go_wp2_with fail
          refine ⟨rfl, hrd3.out, Txt.segs_cons ?_⟩
          go_wp2_with fail
          refine (safe_any _ _ _ _ _ _ hb5.out.dsk).mono ?_
          rintro e w' ⟨rfl, rfl⟩
          go_wp2_with fail
          refine ⟨rfl, hrd3.out, Txt.segs_cons ?_⟩
          go_wp2_with fail
          refine (ref_safe _ _ _ _ _ hb5.out.rf (by rw [rep_length]; have := hxl2.out; have := hxl3.out; omega)).mono ?_
          rintro e w4 ⟨rfl, hk4⟩
          have hb6 := Lib.hid (hb5.out.then0 hk4)
          have hap4 := Lib.hid (hap3.out.kept hk4 (by simp))
          have hrd4 := Lib.hid (hrd3.out.kept0 hk4)
          have hsf := rep_safes xs safe h1
          clear hk4
          go_wp2_with fail
          refine ⟨rfl, hrd4.out, Txt.segs_cons ?_⟩
          go_wp2_with fail
          refine ⟨rfl, hrd4.out, Txt.segs_nil ⟨⟨by kernel_rfl, ?_⟩, ?_⟩⟩
          · intro j hj o ho _
            obtain rfl : j = 1 := by simpa using hj
            cases ho
            exact ⟨145, rfl, fun u hu => by
              have := run_toS (P := Try.prog) (s := 22) (d := 9) (e := 5) rfl rfl rfl hu
              simp [execOp, Act.eval, this]⟩
          go_wp2_with fail
          go_loopg [166] xs.length (fun g i wq => ∃ j : Nat, g + j = xs.length ∧ i = .int .i64 j ∧ Both w1 wq w1.heap.size (w1.heap.size + 1) n safe v rv xs (rep xs safe) ∧ Apart wq w1.heap.size v (.slice BA2 xs.length bc2) xs.length)
          case atStart => exact ⟨0, rfl, rfl, hb6.out, hap4.out⟩
          case round =>
            obtain ⟨j, hj, rfl, hbj, hapj⟩ := hrel
            by_cases hjl : j < xs.length
            · obtain ⟨ys, hys, hz, hne⟩ := hapj
              obtain ⟨g, o, oc2, heq, _, hcl, hfr, hset⟩ := hys.at_ (by omega)
              have hlen : ys.length = xs.length := by have := hys.1; omega
              have hgo : (Value.slice BA2 xs.length bc2).ownBlock = some g := by rw [heq]; rfl
              have hnew := hnew2.out
              cases heq
              have hcl2 := hcl j ys[j] (by simp [hlen, hjl])
              obtain ⟨z, hz2⟩ := hz ys[j] (List.getElem_mem _)
              rw [hz2] at hcl2
              have hfr2 := hfr (o + j)
              have hst := fun u => hbj.store ⟨ys, hys, hz, hne⟩ hnew (o := o + j) hgo u
              have hset2 := fun u => hset j u (by omega)
              have hst3 := Lib.hid hst
              have hset3 := Lib.hid hset2
              have hz3 := Lib.hid hz
              have hne3 := Lib.hid hne
              clear hst hset2 hset hcl hfr hys hz hne hbj hz2 hnew hgo
              go_wp2_with fail
              go_roundg (xs.length - (j + 1))
              case measure => omega
              case rel =>
                refine ⟨j + 1, by omega, by go_num, hst3.out _, _, hset3.out _, ?_, hne3.out⟩
                intro u hu
                rcases List.mem_or_eq_of_mem_set hu with h | h
                · exact hz3.out u h
                · exact ⟨_, h⟩
            · have hbj2 := Lib.hid hbj
              clear hbj hapj
              go_wp2_with fail
              go_roundg (ops.length - (k + 1))
              case measure => omega
              case rel => exact ⟨k + 1, by omega, by omega, by go_num, safe, v, rv, xs, hbj2.out, h1, h2s.out, hfit⟩
      · have hb2 := Lib.hid hb
        clear hb
        by_cases hlen : k < ops.length
        · have h50 : ¬ k < 50 := by omega
          clear hlt
          obtain ⟨pb, po, pc, heq, c0, c1, c2⟩ := (hP.out.kept0 (k1.then0 hb2.out.kept)).at_ hlen
          cases heq
          have hin := (hP.out.kept0 k1).inner ops[k] (List.getElem_mem _)
          generalize ops[k] = o at *
          obtain ⟨kd, nn, bval, bs⟩ := o
          dsimp only at c0 c1 c2 hin
          obtain ⟨BA, bc, rfl, _, _, _⟩ := hin
          go_wp2_with (first | (go_at_call 9; refine (sync_nil _).mono ?_; rintro e w' ⟨rfl, rfl⟩) | (go_at_call 10; refine (crash_nil _ _).mono ?_; rintro e w' ⟨rfl, rfl⟩) | (go_at_call 8; refine (append_nil _ _).mono ?_; rintro e w' ⟨rfl, rfl⟩) | (go_at_call 16; refine (cut_nil _ _).mono ?_; rintro e w' ⟨rfl, rfl⟩) | (go_at_call 19; refine (len_nil _).mono ?_; rintro e w' ⟨rfl, rfl⟩) | (go_at_call 12; refine (safe_nil _).mono ?_; rintro e w' ⟨rfl, rfl⟩) | (go_at_call 11; refine (bytes_nil _).mono ?_; rintro e w' ⟨rfl, rfl⟩))
          go_ret
          exact ⟨rfl, k1.then0 ((hb2.out.kept.alloc _).alloc _)⟩
        · clear hlt
          go_wp2_with (first | (go_at_call 9; refine (sync_nil _).mono ?_; rintro e w' ⟨rfl, rfl⟩) | (go_at_call 10; refine (crash_nil _ _).mono ?_; rintro e w' ⟨rfl, rfl⟩) | (go_at_call 8; refine (append_nil _ _).mono ?_; rintro e w' ⟨rfl, rfl⟩) | (go_at_call 16; refine (cut_nil _ _).mono ?_; rintro e w' ⟨rfl, rfl⟩) | (go_at_call 19; refine (len_nil _).mono ?_; rintro e w' ⟨rfl, rfl⟩) | (go_at_call 12; refine (safe_nil _).mono ?_; rintro e w' ⟨rfl, rfl⟩) | (go_at_call 11; refine (bytes_nil _).mono ?_; rintro e w' ⟨rfl, rfl⟩))
          go_ret
          exact ⟨rfl, k1.then0 (hb2.out.kept.alloc _)⟩

end Go.Proofs.Ytfdioobkbdgbmaa
