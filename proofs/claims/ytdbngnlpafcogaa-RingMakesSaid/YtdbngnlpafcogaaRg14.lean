/-
  Which rings there are: where there is one.
-/
import Derived.Test.YtdbngnlpafcogaaRg13
namespace Go.Proofs.Ytdbngnlpafcogaa
open Go.RowKit Go.Mem Go.Txt

theorem xor1 : ∀ n : _root_.Fin 256, bits .xor .u8 (n.val : Int) 1 = ((n.val ^^^ 1 : Nat) : Int) := by decide +kernel
theorem xor1_v (a : UInt8) : bits .xor .u8 (a.toNat : Int) 1 = ((a ^^^ 1).toNat : Int) := by
  rw [xor1 ⟨a.toNat, UInt8.toNat_lt a⟩, UInt8.toNat_xor]
  rfl
/-- A ring stands whatever is written into a row that is not its own. -/
theorem Rg.kept1 {w w' : World} {r b g : Nat} {kv : Value} {keys : List (List UInt8)} {D : DU} (h : Rg w r kv keys b D) (k : Kept [g] w w') (hr : r ≠ g) (hb : b ≠ g) (hk : ∀ j, kv.ownBlock = some j → j ≠ g) : Rg w' r kv keys b D := by
  obtain ⟨n, m⟩ := h.map
  exact ⟨h.blk.kept k (by simpa using hr), h.rows.kept k (fun hn j hj => by simpa using hk j hj), h.len, h.few, ⟨n, m.kept k (by simpa using hb)⟩, h.seen, h.isMap⟩
/-- A byte at each row's head. -/
def Heads (n : Nat) (xs : List Value) : Prop := ∀ q, q < n → ∃ b : UInt8, xs[q * 32]? = some (.int .u8 (b.toNat : Int))
theorem Heads.set {n : Nat} {xs : List Value} (h : Heads n xs) (j : Nat) (b : UInt8) : Heads n (xs.set (j * 32) (.int .u8 (b.toNat : Int))) := by
  intro q hq
  obtain ⟨c, hc⟩ := h q hq
  rw [List.getElem?_set]
  by_cases e : j * 32 = q * 32
  · have : q * 32 < xs.length := (List.getElem?_eq_some_iff.1 hc).1
    rw [if_pos e, if_pos (by omega)]
    exact ⟨b, rfl⟩
  · rw [if_neg e]
    exact ⟨c, hc⟩
theorem Heads.of {keys : List (List UInt8)} (hl : ∀ k ∈ keys, k.length = 32) : Heads keys.length (keys.flatMap bv) := by
  intro q hq
  obtain ⟨pre, post, hpp, hpl⟩ := split_at hq hl
  have hk := hl (keys.getD q []) (by rw [getD_eq hq]; exact List.getElem_mem _)
  generalize keys.getD q [] = k at *
  match k, hk with
  | a :: k', _ =>
    refine ⟨a, ?_⟩
    rw [hpp, List.getElem?_append_right (by omega), hpl, Nat.sub_self]
    rfl
theorem build_64 : Try.prog.built 24 [] = some (bv (noughts 64)).toArray := by kernel_rfl
theorem Pm.of_kept {w0 u : World} (h : Kept [] w0 u) : Pm w0 [] u := ⟨fun p hp => absurd hp (by simp), h⟩
theorem Rg.own_lt {w : World} {r b j : Nat} {kv : Value} {keys : List (List UInt8)} {D : DU} (h : Rg w r kv keys b D) (hp : 0 < keys.length) (hj : kv.ownBlock = some j) : j < w.heap.size := by
  have hf := flat_len h.len
  obtain ⟨b2, o, c, rfl, _, hx⟩ := h.rows.at_ hp
  obtain rfl : b2 = j := by simpa [Value.ownBlock] using hj
  have h0 : 0 < (keys.flatMap bv).length := by omega
  exact World.block_lt_of_cell? w _ (hx 0 _ (List.getElem?_eq_getElem h0))
theorem Rg.off {w : World} {r b g : Nat} {kv : Value} {keys : List (List UInt8)} {D : DU} {cs : Array Value} (h : Rg w r kv keys b D) (hb : Blk w g 26 cs) : r ≠ g ∧ b ≠ g := by
  obtain ⟨n, m⟩ := h.map
  exact ⟨fun e => Blk.ne_ h.blk hb (by decide) e, fun e => Blk.ne_map hb m e.symm⟩
theorem faults_f {w : World} {r b f : Nat} {kv : Value} {keys : List (List UInt8)} {D : DU} (h : Rg w r kv keys b D) (hf : f = keys.length / 3) :
    Calls Try.prog 20 #[.pointer (some ⟨r, 0, none⟩)] w fun e w' => e = .returned (.int .i64 (f : Int)) ∧ w' = w := by
  subst hf
  exact faults_any h
theorem quorum_f {w : World} {r b f : Nat} {kv : Value} {keys : List (List UInt8)} {D : DU} (h : Rg w r kv keys b D) (hf : f = keys.length / 3) :
    Calls Try.prog 21 #[.pointer (some ⟨r, 0, none⟩)] w fun e w' => e = .returned (.int .i64 (2 * (f : Int) + 1)) ∧ w' = w := by
  have := quorum_any h
  rw [← hf] at this
  simpa using this
set_option maxRecDepth 100000 in
set_option maxHeartbeats 3200000 in
theorem makes_yes {v : Value} {keys : List (List UInt8)} {w : World} (i : Int) (hr : Rd w 32 v keys.length (keys.flatMap bv)) (hp : 0 < keys.length) (h7 : keys.length ≤ 7) (hl : ∀ k ∈ keys, k.length = 32)
    (h3 : keys.length % 3 = 1) (cn : ∀ u x, Rd u 32 x keys.length (keys.flatMap bv) → Calls Try.prog 12 #[x] u fun e w' => ∃ r b kv, e = .returned (.tuple #[.pointer (some ⟨r, 0, none⟩), .int .i64 0]) ∧ Rg w' r kv keys b (.map []) ∧ Kept [] u w' ∧ u.heap.size ≤ b ∧ ∀ k, kv.ownBlock = some k → u.heap.size ≤ k)
    (cf : ∀ u, Rd u 32 v keys.length (keys.flatMap bv) → Calls Try.prog 18 #[v] u fun e w' => e = .returned (.bool true) ∧ Kept [] u w') :
    Calls Try.prog 4 #[v, .int .i64 i] w fun e w' => e = .returned (.bool true) ∧ Kept [] w w' := by
  have c1 := Lib.hid first_any
  obtain ⟨Z, hZ⟩ : ∃ Z : List UInt8, Z = noughts 32 := ⟨_, rfl⟩
  obtain ⟨Y, hY⟩ : ∃ Y : List UInt8, Y = noughts 64 := ⟨_, rfl⟩
  have u32 := Lib.hid (show Try.prog.built 26 [] = some (bv Z).toArray from by rw [hZ]; exact build_b)
  have u64 := Lib.hid (show Try.prog.built 24 [] = some (bv Y).toArray from by rw [hY]; exact build_64)
  have l0 := lit0_v.trans (congrArg ab hZ.symm)
  have hZl := Lib.hid (show Z.length = 32 from by rw [hZ]; rfl)
  have ko := Lib.hid (fun (u : World) (r b : Nat) (kv : Value) (D : DU) (h : Rg u r kv keys b D) (hi : i < 0 ∨ (keys.length : Int) ≤ i) => key_out h i hi)
  have kn := Lib.hid key_nil
  have on := Lib.hid (open_nil (noughts 64))
  rw [← hY] at on
  rw [← hZ] at kn ko
  clear hZ hY
  obtain ⟨f, hfq⟩ : ∃ f, f = keys.length / 3 := ⟨_, rfl⟩
  have f7 : f ≤ 7 := by omega
  have n7 : keys.length ≤ 7 := h7
  have n0 : 0 < keys.length := hp
  have e3 : ((keys.length : Int) - 1).tdiv 3 = (f : Int) := by rw [Int.tdiv_eq_ediv_of_nonneg (by omega)]; omega
  replace hfq := Lib.hid hfq
  have hh := Lib.hid (Heads.of hl)
  replace cn := Lib.hid cn
  replace cf := Lib.hid cf
  replace h7 := Lib.hid h7
  replace hl := Lib.hid hl
  have t := Lib.hid (Pm.none w)
  obtain ⟨vb, vo, vc, rfl, _⟩ := hr.at_ hp
  replace hp := Lib.hid hp
  replace hr := Lib.hid hr
  go_enter Try.func4, Try.ntmps4
  go_wp2_with (first
    | (go_at_call 10; (with_reducible refine (c1.out _).mono ?_); rintro e v12 ⟨rfl, kk⟩; replace t := Lib.hid (t.out.kept kk); clear kk
       have H := Lib.hid (hr.out.kept0 t.out.k))
    | (at_builtin; refine wpl_app keysT rfl (.tmp 14) (.tmp 15) rfl rfl (xs := []) (n := 0) (Ow.of_own (own_alloc_at (by simp) rfl rfl (by omega))) rfl (H.out.alloc _) (one_keys keys) (by have := h7.out; omega) (by have := h7.out; omega) ?_
       intro x16 w16 o16 k16 b16
       have kk := Kept.fresh (S := [v12.heap.size]) ((Kept.refl [] v12).alloc _) k16 (by simp)
       have b17 : x16.ownBlock = some v12.heap.size ∨ x16.ownBlock = some (v12.heap.size + 1) := by
         rcases b16 with b16 | b16
         · exact .inl b16
         · right
           rw [b16]
           show some (v12.heap.push _).size = _
           rw [Array.size_push]
       rw [Nat.zero_add, List.nil_append] at o16
       obtain ⟨ob, oo, oc, rfl, _⟩ := o16.at_ hp.out
       have O16 := Lib.hid o16
       have F16 := Lib.hid (show w.heap.size ≤ ob from by
         have := t.out.k.size
         rcases b17 with h | h <;> · simp [Value.ownBlock] at h; omega)
       have L16 := Lib.hid (o16.lt (k := ob) rfl)
       replace t := Lib.hid (t.out.kept kk)
       clear o16 k16 b16 kk b17)
    | (go_at_call 12; (with_reducible refine (cn.out _ _ (Rd.of_ow O16.out)).mono ?_); rintro e v19 ⟨r, b, kv, rfl, rg19, k19, b19, f19⟩
       have NR := Lib.hid (show r ≠ ob from by
         have := (O16.out.kept0 k19).blk_ne rg19.blk (by decide)
         rintro rfl
         exact this rfl)
       have NB := Lib.hid (show b ≠ ob from by have := L16.out; omega)
       have NK := Lib.hid (show ∀ j, kv.ownBlock = some j → j ≠ ob from fun j hj => by have := L16.out; have := f19 j hj; omega)
       replace t := Lib.hid (t.out.kept k19)
       replace O16 := Lib.hid (O16.out.kept0 k19)
       have R := Lib.hid rg19
       have H2 := Lib.hid (hr.out.kept0 t.out.k)
       clear rg19 k19 b19 f19 L16)
    | (go_at_call 18; (with_reducible refine (cf.out _ H2.out).mono ?_); rintro e v23 ⟨rfl, kk⟩; replace t := Lib.hid (t.out.kept kk)
       replace R := Lib.hid (R.out.kept kk)
       replace O16 := Lib.hid (O16.out.kept0 kk)
       clear kk H2))
  go_loopg [39] keys.length (fun f g wk => ∃ (j : Nat) (xs : List Value), j ≤ keys.length ∧ f + j = keys.length ∧ g = .int .i64 j ∧ Hid (Ow wk 26 32 (.slice (some ⟨ob, oo, none⟩) keys.length oc) keys.length xs) ∧ Hid (Heads keys.length xs) ∧ Kept [ob] v23 wk)
  case atStart => exact ⟨0, _, Nat.zero_le _, rfl, rfl, O16, hh, Kept.refl _ _⟩
  case round =>
    obtain ⟨j, xs, hj, hf, rfl, ho, hd, hwk⟩ := hrel
    by_cases hlt : j < keys.length
    · obtain ⟨g2, o2, c2, e2, _, q2, f2, s2⟩ := ho.out.at_ hp.out
      obtain ⟨⟨rfl, rfl⟩, rfl⟩ : (ob = g2 ∧ oo = o2) ∧ oc = c2 := by simpa using e2
      obtain ⟨y, hy⟩ := hd.out j hlt
      have q0 := q2 _ _ hy
      have f0 := f2 (oo + j * 32)
      have x0 := xor1_v y
      have o2 := Lib.hid (s2 (j * 32) (.int .u8 ((y ^^^ 1).toNat : Int)) (List.getElem?_eq_some_iff.1 hy).1)
      have d2 := Lib.hid (hd.out.set j (y ^^^ 1))
      replace hwk := Lib.hid hwk
      clear q2 f2 s2 e2 hy hd ho
      go_wp2_with fail
      refine Txt.wp_text (by kernel_rfl) (by kernel_rfl) ?_
      go_wp2_with (first
        | ((with_reducible refine wpl_at 44 ?_); refine wpl_idxs (o := ⟨some 44, _, _, _, _, _⟩) keysT rfl (.tmp 42) (.tmp 43) rfl rfl rfl hlt ?_)
        | ((with_reducible refine wpl_at 48 ?_); refine wpl_idxs (o := ⟨some 48, _, _, _, _, _⟩) keysT rfl (.tmp 42) (.tmp 43) rfl rfl rfl hlt ?_))
      refine ⟨rfl, by kernel_rfl, ?_⟩
      go_wp2_with fail
      go_roundg (keys.length - (j + 1))
      case measure => omega
      case rel => exact ⟨j + 1, _, by omega, by omega, by go_num, Lib.hid (by have := o2.out; simpa using this.drew), d2, (hwk.out.setCell (p := ⟨ob, oo + j * 32, none⟩) (.inl (by simp)) _).drew⟩
    · obtain rfl : j = keys.length := by omega
      replace t := Lib.hid (Pm.of_kept (t.out.k.fresh hwk (by simpa using F16.out)))
      replace R := Lib.hid (R.out.kept1 hwk NR.out NB.out NK.out)
      clear O16 ho hd hwk NR NB NK F16 hh cn cf c1 H
      have H := Lib.hid (hr.out.kept0 t.out.k)
      by_cases h0 : i < 0
      · have hge : ¬ (0 ≤ i) := by omega
        have hW := Lib.hid (show Z.length = 32 from hZl.out)
        have hor := Lib.hid (show i < 0 ∨ (keys.length : Int) ≤ i from .inl h0)
        clear h0
        go_wp2_with (first
            | ((with_reducible refine wpl_at 9 ?_); (refine wpl_new (o := ⟨some 9, _, _, _, _, _⟩) rfl rfl zeroB ?_); intro g9 w9 m9
               refine wpl_store_row (cs := (bv Z).toArray) (o := ⟨none, Op.store 26 (.tmp 9) (.tmp 51), _, _, _, _⟩) arrB.row rfl (.tmp 9) (.tmp 51) rfl rfl rfl m9.blk (by rfl) (by simpa using hZl.out) (one_ab _) ?_
               intro wb9 b9 k9
               have L9 := Lib.hid (Nat.le_trans t.out.k.size m9.le)
               replace R := Lib.hid (R.out.kept (m9.kept.then1 k9 m9.le))
               replace t := Lib.hid (t.out.put m9 b9 k9)
               have H9 := Lib.hid (hr.out.kept0 t.out.k)
               clear m9 b9 k9))
        have S1 := Lib.hid ((t.out.s (g9, 26, (bv Z).toArray) (by simp)).kept (Kept.refl [] _).drew (by simp))
        replace t := Lib.hid (t.out.kept (Kept.refl [] _).drew)
        replace R := Lib.hid (R.out.kept (Kept.refl [] _).drew)
        have qW := eql_run (b := true) (beq_self_eq_true Z) hW.out hW.out
        have qZ := eql_run (b := true) (beq_self_eq_true Z) hZl.out hZl.out
        refine Txt.wp_textG [23, 24, 44, 45, 49] (fun u => Blk u g9 26 (bv Z).toArray) [[_, _], [_, _, _, _, _, _], [_, _, _, _, _, _], [_, _, _, _, _, _, _, _, _], [_, _, _, _, _, _], [_, _, _, _, _], [_, _, _, _, _], [_, _, _, _, _], [_], [_, _, _, _, _], [_], [_, _, _]] (by kernel_rfl) (by kernel_rfl) rfl S1.out (Txt.segs_cons ?_)
        iterate 11 (go_wp2_with (first
          | ((with_reducible refine wpl_at 91 ?_); refine wpl_load_row (cs := (bv Z).toArray) (o := ⟨some 91, _, _, _, _, _⟩) arrB.row rfl (.tmp 9) rfl rfl S1.out (by simpa using hW.out) ?_)
          | ((with_reducible refine wpl_at 112 ?_); refine wpl_build0 (o := ⟨some 112, _, _, _, _, _⟩) rfl rfl u32.out ?_)
          | ((with_reducible refine wpl_at 117 ?_); refine wpl_build0 (o := ⟨some 117, _, _, _, _, _⟩) rfl rfl u64.out ?_)
          | (go_at_call 19; (with_reducible refine (size_any R.out).mono ?_); rintro e v ⟨rfl, rfl⟩)
          | (go_at_call 20; (with_reducible refine (faults_f R.out hfq.out).mono ?_); rintro e v ⟨rfl, rfl⟩)
          | (go_at_call 21; (with_reducible refine (quorum_f R.out hfq.out).mono ?_); rintro e v ⟨rfl, rfl⟩)
          | (go_at_call 22; (with_reducible refine (ko.out _ _ _ _ _ R.out hor.out).mono ?_); rintro e v ⟨rfl, kk⟩; replace t := Lib.hid (t.out.kept kk); replace R := Lib.hid (R.out.kept kk); replace S1 := Lib.hid (S1.out.kept kk (by simp)); clear kk)
          | (go_at_call 19; (with_reducible refine (size_nil _).mono ?_); rintro e v ⟨rfl, rfl⟩)
          | (go_at_call 20; (with_reducible refine (faults_nil _).mono ?_); rintro e v ⟨rfl, rfl⟩)
          | (go_at_call 21; (with_reducible refine (quorum_nil _).mono ?_); rintro e v ⟨rfl, rfl⟩)
          | (go_at_call 22; (with_reducible refine (kn.out _).mono ?_); rintro e v ⟨rfl, kk⟩; replace t := Lib.hid (t.out.kept kk); replace R := Lib.hid (R.out.kept kk); replace S1 := Lib.hid (S1.out.kept kk (by simp)); clear kk)
          | (go_at_call 15; (with_reducible refine (on.out _).mono ?_); rintro e v ⟨rfl, kk⟩; replace t := Lib.hid (t.out.kept kk); replace R := Lib.hid (R.out.kept kk); replace S1 := Lib.hid (S1.out.kept kk (by simp)); clear kk)); refine ⟨rfl, S1.out, Txt.segs_cons ?_⟩)
        go_wp2_with fail
        refine ⟨rfl, S1.out, Txt.segs_nil ⟨⟨by kernel_rfl, ?_⟩, ?_⟩⟩
        · intro j hj o ho hw
          have hj2 : j = 23 ∨ j = 24 ∨ j = 44 ∨ j = 45 ∨ j = 49 := by simpa using hj
          rcases hj2 with rfl | rfl | rfl | rfl | rfl <;> cases ho
          · exact ⟨91, rfl, fun u hu => exec_load arrB.row (.tmp 9) rfl rfl hu (by simpa using hW.out)⟩
          · exact ⟨92, rfl, fun u _ => (exec_eql_ab arrB Try.underlying5 (by kernel_rfl) (by kernel_rfl) (.tmp 90) (.tmp 91) rfl (xs := Z) (ys := Z) rfl rfl hW.out hW.out).trans (by rw [beq_self_eq_true]; rfl)⟩
          · exact ⟨112, rfl, fun u _ => exec_build0 rfl u32.out⟩
          · exact ⟨113, rfl, fun u _ => (exec_eql_ab arrB Try.underlying5 (by kernel_rfl) (by kernel_rfl) (.tmp 111) (.tmp 112) rfl (xs := Z) (ys := Z) rfl rfl hZl.out hZl.out).trans (by rw [beq_self_eq_true]; rfl)⟩
          · exact ⟨117, rfl, fun u _ => exec_build0 rfl u64.out⟩
        go_wp2_with fail
        go_ret
        exact ⟨rfl, t.out.k⟩
      · have hge : 0 ≤ i := by omega
        by_cases h1 : (keys.length : Int) ≤ i
        · have hlt2 : ¬ (i < (keys.length : Int)) := by omega
          have hW := Lib.hid (show Z.length = 32 from hZl.out)
          have hor := Lib.hid (show i < 0 ∨ (keys.length : Int) ≤ i from .inr h1)
          clear h0
          go_wp2_with (first
              | ((with_reducible refine wpl_at 9 ?_); (refine wpl_new (o := ⟨some 9, _, _, _, _, _⟩) rfl rfl zeroB ?_); intro g9 w9 m9
                 refine wpl_store_row (cs := (bv Z).toArray) (o := ⟨none, Op.store 26 (.tmp 9) (.tmp 51), _, _, _, _⟩) arrB.row rfl (.tmp 9) (.tmp 51) rfl rfl rfl m9.blk (by rfl) (by simpa using hZl.out) (one_ab _) ?_
                 intro wb9 b9 k9
                 have L9 := Lib.hid (Nat.le_trans t.out.k.size m9.le)
                 replace R := Lib.hid (R.out.kept (m9.kept.then1 k9 m9.le))
                 replace t := Lib.hid (t.out.put m9 b9 k9)
                 have H9 := Lib.hid (hr.out.kept0 t.out.k)
                 clear m9 b9 k9))
          have S1 := Lib.hid ((t.out.s (g9, 26, (bv Z).toArray) (by simp)).kept (Kept.refl [] _).drew (by simp))
          replace t := Lib.hid (t.out.kept (Kept.refl [] _).drew)
          replace R := Lib.hid (R.out.kept (Kept.refl [] _).drew)
          have qW := eql_run (b := true) (beq_self_eq_true Z) hW.out hW.out
          have qZ := eql_run (b := true) (beq_self_eq_true Z) hZl.out hZl.out
          refine Txt.wp_textG [23, 24, 44, 45, 49] (fun u => Blk u g9 26 (bv Z).toArray) [[_, _], [_, _, _, _, _, _], [_, _, _, _, _, _], [_, _, _, _, _, _, _, _, _], [_, _, _, _, _, _], [_, _, _, _, _], [_, _, _, _, _], [_, _, _, _, _], [_], [_, _, _, _, _], [_], [_, _, _]] (by kernel_rfl) (by kernel_rfl) rfl S1.out (Txt.segs_cons ?_)
          iterate 11 (go_wp2_with (first
            | ((with_reducible refine wpl_at 91 ?_); refine wpl_load_row (cs := (bv Z).toArray) (o := ⟨some 91, _, _, _, _, _⟩) arrB.row rfl (.tmp 9) rfl rfl S1.out (by simpa using hW.out) ?_)
            | ((with_reducible refine wpl_at 112 ?_); refine wpl_build0 (o := ⟨some 112, _, _, _, _, _⟩) rfl rfl u32.out ?_)
            | ((with_reducible refine wpl_at 117 ?_); refine wpl_build0 (o := ⟨some 117, _, _, _, _, _⟩) rfl rfl u64.out ?_)
            | (go_at_call 19; (with_reducible refine (size_any R.out).mono ?_); rintro e v ⟨rfl, rfl⟩)
            | (go_at_call 20; (with_reducible refine (faults_f R.out hfq.out).mono ?_); rintro e v ⟨rfl, rfl⟩)
            | (go_at_call 21; (with_reducible refine (quorum_f R.out hfq.out).mono ?_); rintro e v ⟨rfl, rfl⟩)
            | (go_at_call 22; (with_reducible refine (ko.out _ _ _ _ _ R.out hor.out).mono ?_); rintro e v ⟨rfl, kk⟩; replace t := Lib.hid (t.out.kept kk); replace R := Lib.hid (R.out.kept kk); replace S1 := Lib.hid (S1.out.kept kk (by simp)); clear kk)
            | (go_at_call 19; (with_reducible refine (size_nil _).mono ?_); rintro e v ⟨rfl, rfl⟩)
            | (go_at_call 20; (with_reducible refine (faults_nil _).mono ?_); rintro e v ⟨rfl, rfl⟩)
            | (go_at_call 21; (with_reducible refine (quorum_nil _).mono ?_); rintro e v ⟨rfl, rfl⟩)
            | (go_at_call 22; (with_reducible refine (kn.out _).mono ?_); rintro e v ⟨rfl, kk⟩; replace t := Lib.hid (t.out.kept kk); replace R := Lib.hid (R.out.kept kk); replace S1 := Lib.hid (S1.out.kept kk (by simp)); clear kk)
            | (go_at_call 15; (with_reducible refine (on.out _).mono ?_); rintro e v ⟨rfl, kk⟩; replace t := Lib.hid (t.out.kept kk); replace R := Lib.hid (R.out.kept kk); replace S1 := Lib.hid (S1.out.kept kk (by simp)); clear kk)); refine ⟨rfl, S1.out, Txt.segs_cons ?_⟩)
          go_wp2_with fail
          refine ⟨rfl, S1.out, Txt.segs_nil ⟨⟨by kernel_rfl, ?_⟩, ?_⟩⟩
          · intro j hj o ho hw
            have hj2 : j = 23 ∨ j = 24 ∨ j = 44 ∨ j = 45 ∨ j = 49 := by simpa using hj
            rcases hj2 with rfl | rfl | rfl | rfl | rfl <;> cases ho
            · exact ⟨91, rfl, fun u hu => exec_load arrB.row (.tmp 9) rfl rfl hu (by simpa using hW.out)⟩
            · exact ⟨92, rfl, fun u _ => (exec_eql_ab arrB Try.underlying5 (by kernel_rfl) (by kernel_rfl) (.tmp 90) (.tmp 91) rfl (xs := Z) (ys := Z) rfl rfl hW.out hW.out).trans (by rw [beq_self_eq_true]; rfl)⟩
            · exact ⟨112, rfl, fun u _ => exec_build0 rfl u32.out⟩
            · exact ⟨113, rfl, fun u _ => (exec_eql_ab arrB Try.underlying5 (by kernel_rfl) (by kernel_rfl) (.tmp 111) (.tmp 112) rfl (xs := Z) (ys := Z) rfl rfl hZl.out hZl.out).trans (by rw [beq_self_eq_true]; rfl)⟩
            · exact ⟨117, rfl, fun u _ => exec_build0 rfl u64.out⟩
          go_wp2_with fail
          go_ret
          exact ⟨rfl, t.out.k⟩
        · obtain ⟨k, rfl⟩ : ∃ k : Nat, i = (k : Int) := ⟨i.toNat, by omega⟩
          have hlt2 : (k : Int) < (keys.length : Int) := by omega
          have hk := Lib.hid (show k < keys.length from by omega)
          have hW := Lib.hid (hl.out (keys.getD k []) (by rw [getD_eq hk.out]; exact List.getElem_mem _))
          obtain ⟨pre, post, hpp, hpl⟩ := split_at hk.out hl.out
          have hel := Lib.hid (fun u (hu : Rd u 32 (.slice (some ⟨vb, vo, none⟩) keys.length vc) keys.length (keys.flatMap bv)) => Rd.elem (i := k) hu hpp hpl hp.out)
          have ck := Lib.hid (fun u (hR : Rg u r kv keys b (.map [])) => key_in hR k hk.out)
          generalize hky : keys.getD k [] = key at *
          clear hpp hpl hky h0 h1 ko
          go_wp2_with (first
              | ((with_reducible refine wpl_at 9 ?_); (refine wpl_new (o := ⟨some 9, _, _, _, _, _⟩) rfl rfl zeroB ?_); intro g9 w9 m9
                 refine wpl_store_row (cs := (bv Z).toArray) (o := ⟨none, Op.store 26 (.tmp 9) (.tmp 51), _, _, _, _⟩) arrB.row rfl (.tmp 9) (.tmp 51) rfl rfl rfl m9.blk (by rfl) (by simpa using hZl.out) (one_ab _) ?_
                 intro wb9 b9 k9
                 have L9 := Lib.hid (Nat.le_trans t.out.k.size m9.le)
                 have N9 := Lib.hid (show ∀ j, kv.ownBlock = some j → j < g9 from fun j hj => Nat.lt_of_lt_of_le (R.out.own_lt hp.out hj) m9.le)
                 replace R := Lib.hid (R.out.kept (m9.kept.then1 k9 m9.le))
                 replace t := Lib.hid (t.out.put m9 b9 k9)
                 have H9 := Lib.hid (hr.out.kept0 t.out.k)
                 clear m9 b9 k9)
              | ((with_reducible refine wpl_at 62 ?_); refine wpl_idxs (o := ⟨some 62, _, _, _, _, _⟩) keysT rfl (.tmp 60) (.tmp 61) rfl rfl rfl hk.out ?_)
              | ((with_reducible refine wpl_at 63 ?_); refine wpl_loadp (o := ⟨some 63, _, _, _, _, _⟩) (cs := bv key) arrB.row rfl (.tmp 62) rfl rfl (hel.out _ H9.out) (by simpa using hW.out) ?_
                 refine wpl_store_row (cs := (bv key).toArray) (o := ⟨none, Op.store 26 (.tmp 9) (.tmp 63), _, _, _, _⟩) arrB.row rfl (.tmp 9) (.tmp 63) rfl rfl rfl (t.out.s (g9, 26, (bv Z).toArray) (by simp)) (by simpa using hZl.out) (by simpa using hW.out) (one_ab _) ?_
                 intro wc9 b9 k9
                 have NM := Rg.off R.out (t.out.s (g9, 26, (bv Z).toArray) (by simp))
                 replace R := Lib.hid (R.out.kept1 k9 NM.1 NM.2 (fun j hj => by have := N9.out j hj; omega))
                 replace t := Lib.hid (t.out.again L9.out (by simp) b9 k9)
                 clear b9 k9 NM))
          have S1 := Lib.hid ((t.out.s (g9, 26, (bv key).toArray) (by simp)).kept (Kept.refl [] _).drew (by simp))
          replace t := Lib.hid (t.out.kept (Kept.refl [] _).drew)
          replace R := Lib.hid (R.out.kept (Kept.refl [] _).drew)
          have qW := eql_run (b := true) (beq_self_eq_true key) hW.out hW.out
          have qZ := eql_run (b := true) (beq_self_eq_true Z) hZl.out hZl.out
          refine Txt.wp_textG [23, 24, 44, 45, 49] (fun u => Blk u g9 26 (bv key).toArray) [[_, _], [_, _, _, _, _, _], [_, _, _, _, _, _], [_, _, _, _, _, _, _, _, _], [_, _, _, _, _, _], [_, _, _, _, _], [_, _, _, _, _], [_, _, _, _, _], [_], [_, _, _, _, _], [_], [_, _, _]] (by kernel_rfl) (by kernel_rfl) rfl S1.out (Txt.segs_cons ?_)
          iterate 11 (go_wp2_with (first
            | ((with_reducible refine wpl_at 91 ?_); refine wpl_load_row (cs := (bv key).toArray) (o := ⟨some 91, _, _, _, _, _⟩) arrB.row rfl (.tmp 9) rfl rfl S1.out (by simpa using hW.out) ?_)
            | ((with_reducible refine wpl_at 112 ?_); refine wpl_build0 (o := ⟨some 112, _, _, _, _, _⟩) rfl rfl u32.out ?_)
            | ((with_reducible refine wpl_at 117 ?_); refine wpl_build0 (o := ⟨some 117, _, _, _, _, _⟩) rfl rfl u64.out ?_)
            | (go_at_call 19; (with_reducible refine (size_any R.out).mono ?_); rintro e v ⟨rfl, rfl⟩)
            | (go_at_call 20; (with_reducible refine (faults_f R.out hfq.out).mono ?_); rintro e v ⟨rfl, rfl⟩)
            | (go_at_call 21; (with_reducible refine (quorum_f R.out hfq.out).mono ?_); rintro e v ⟨rfl, rfl⟩)
            | (go_at_call 22; (with_reducible refine (ck.out _ R.out).mono ?_); rintro e v ⟨rfl, kk⟩; replace t := Lib.hid (t.out.kept kk); replace R := Lib.hid (R.out.kept kk); replace S1 := Lib.hid (S1.out.kept kk (by simp)); clear kk)
            | (go_at_call 19; (with_reducible refine (size_nil _).mono ?_); rintro e v ⟨rfl, rfl⟩)
            | (go_at_call 20; (with_reducible refine (faults_nil _).mono ?_); rintro e v ⟨rfl, rfl⟩)
            | (go_at_call 21; (with_reducible refine (quorum_nil _).mono ?_); rintro e v ⟨rfl, rfl⟩)
            | (go_at_call 22; (with_reducible refine (kn.out _).mono ?_); rintro e v ⟨rfl, kk⟩; replace t := Lib.hid (t.out.kept kk); replace R := Lib.hid (R.out.kept kk); replace S1 := Lib.hid (S1.out.kept kk (by simp)); clear kk)
            | (go_at_call 15; (with_reducible refine (on.out _).mono ?_); rintro e v ⟨rfl, kk⟩; replace t := Lib.hid (t.out.kept kk); replace R := Lib.hid (R.out.kept kk); replace S1 := Lib.hid (S1.out.kept kk (by simp)); clear kk)); refine ⟨rfl, S1.out, Txt.segs_cons ?_⟩)
          go_wp2_with fail
          refine ⟨rfl, S1.out, Txt.segs_nil ⟨⟨by kernel_rfl, ?_⟩, ?_⟩⟩
          · intro j hj o ho hw
            have hj2 : j = 23 ∨ j = 24 ∨ j = 44 ∨ j = 45 ∨ j = 49 := by simpa using hj
            rcases hj2 with rfl | rfl | rfl | rfl | rfl <;> cases ho
            · exact ⟨91, rfl, fun u hu => exec_load arrB.row (.tmp 9) rfl rfl hu (by simpa using hW.out)⟩
            · exact ⟨92, rfl, fun u _ => (exec_eql_ab arrB Try.underlying5 (by kernel_rfl) (by kernel_rfl) (.tmp 90) (.tmp 91) rfl (xs := key) (ys := key) rfl rfl hW.out hW.out).trans (by rw [beq_self_eq_true]; rfl)⟩
            · exact ⟨112, rfl, fun u _ => exec_build0 rfl u32.out⟩
            · exact ⟨113, rfl, fun u _ => (exec_eql_ab arrB Try.underlying5 (by kernel_rfl) (by kernel_rfl) (.tmp 111) (.tmp 112) rfl (xs := Z) (ys := Z) rfl rfl hZl.out hZl.out).trans (by rw [beq_self_eq_true]; rfl)⟩
            · exact ⟨117, rfl, fun u _ => exec_build0 rfl u64.out⟩
          go_wp2_with fail
          go_ret
          exact ⟨rfl, t.out.k⟩
end Go.Proofs.Ytdbngnlpafcogaa
