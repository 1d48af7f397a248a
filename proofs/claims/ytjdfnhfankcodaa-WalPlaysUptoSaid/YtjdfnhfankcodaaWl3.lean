/-
  The log: opened.
-/
import Derived.Test.YtjdfnhfankcodaaWl2
namespace Go.Proofs.Ytjdfnhfankcodaa
open Go.RowKit Go.Mem Go.Txt

theorem flatS (w : World) : (isAgg 32).run Try.prog w = .ok false w := by kernel_rfl
/-- A log at block l. -/
structure LgIs (w : World) (b l : Nat) (rv : Value) (rs : List (Value × List UInt8)) (down : Bool) : Prop where
  blk : Blk w l 53 #[.pointer (some ⟨b, 0, none⟩), rv, .bool down]
  own : Ow w 22 1 rv rs.length (rs.map (·.1))
  inner : ∀ x ∈ rs, Ow w 5 1 x.1 x.2.length (bv x.2)
theorem LgIs.kept {S : List Nat} {w w' : World} {b l : Nat} {rv : Value} {rs : List (Value × List UInt8)} {down : Bool} (h : LgIs w b l rv rs down) (hk : Kept S w w') (h1 : l ∉ S) (h2 : ∀ k, rv.ownBlock = some k → k ∉ S) (h3 : ∀ x ∈ rs, ∀ k, x.1.ownBlock = some k → k ∉ S) : LgIs w' b l rv rs down :=
  ⟨h.blk.kept hk h1, h.own.kept hk h2, fun x hx => (h.inner x hx).kept hk (h3 x hx)⟩
theorem LgIs.kept0 {w w' : World} {b l : Nat} {rv : Value} {rs : List (Value × List UInt8)} {down : Bool} (h : LgIs w b l rv rs down) (hk : Kept [] w w') : LgIs w' b l rv rs down := h.kept hk (by simp) (by simp) (by simp)
/-- What was made since. -/
structure LgNew (w0 : World) (l : Nat) (rv : Value) (rs : List (Value × List UInt8)) : Prop where
  ll : w0.heap.size ≤ l
  lr : ∀ k, rv.ownBlock = some k → w0.heap.size ≤ k
  lx : ∀ x ∈ rs, ∀ k, x.1.ownBlock = some k → w0.heap.size ≤ k
structure OpM (w0 : World) (b l : Nat) (xs : List UInt8) (v5 rv : Value) (rs : List (Value × List UInt8)) (u : World) : Prop where
  lg : LgIs u b l rv rs false
  bs : Ow u 5 1 v5 xs.length (bv xs)
  k : Kept [] w0 u
  n : LgNew w0 l rv rs
theorem OpM.kept {w0 u u' : World} {b l : Nat} {xs : List UInt8} {v5 rv : Value} {rs : List (Value × List UInt8)} (h : OpM w0 b l xs v5 rv rs u) (hk : Kept [] u u') : OpM w0 b l xs v5 rv rs u' := ⟨h.lg.kept0 hk, h.bs.kept0 hk, h.k.then0 hk, h.n⟩
theorem OpM.drew {w0 u : World} {b l : Nat} {xs : List UInt8} {v5 rv : Value} {rs : List (Value × List UInt8)} (h : OpM w0 b l xs v5 rv rs u) : OpM w0 b l xs v5 rv rs u.drew := h.kept (Kept.refl [] u).drew
theorem rsz_len : ∀ l : List (List UInt8), 16 * l.length ≤ rsz l
  | [] => Nat.le_refl _
  | x :: l => by have := rsz_len l; simp only [rsz, List.length_cons]; omega
/-- A row put behind: the log's block ahead of the store, and all behind it. -/
theorem OpM.app {w0 u u' : World} {b l : Nat} {xs : List UInt8} {v5 rv v' cv : Value} {rs : List (Value × List UInt8)} {body : List UInt8} (h : OpM w0 b l xs v5 rv rs u) (ho : Ow u' 22 1 v' (rs.length + 1) (rs.map (·.1) ++ [cv])) (hk : Kept rv.ownBlock.toList u u') (hf : v'.ownBlock = rv.ownBlock ∨ v'.ownBlock = some u.heap.size) (hc : Ow u 5 1 cv body.length (bv body)) (hn : ∀ k, cv.ownBlock = some k → w0.heap.size ≤ k) :
    Blk u' l 53 #[.pointer (some ⟨b, 0, none⟩), rv, .bool false] ∧ OpM w0 b l xs v5 v' (rs ++ [(cv, body)]) (u'.setCell ⟨l, 1, none⟩ v') := by
  have hb : Blk u' l 53 #[.pointer (some ⟨b, 0, none⟩), rv, .bool false] := h.lg.blk.kept hk (notin_own (h.lg.own.blk_ne h.lg.blk (by decide)))
  have far : ∀ {x : Value} {ys : List UInt8}, Ow u 5 1 x ys.length (bv ys) → ∀ k, x.ownBlock = some k → k ∉ rv.ownBlock.toList := fun hx k hk1 hm => hx.ne_ h.lg.own (by decide) k hk1 (mem_own hm)
  have row : ∀ {x : Value} {ys : List UInt8}, Ow u 5 1 x ys.length (bv ys) → Ow (u'.setCell ⟨l, 1, none⟩ v') 5 1 x ys.length (bv ys) := fun {x ys} hx => ((hx.kept hk (far hx)).setCell (p := ⟨l, 1, none⟩) ((hx.kept hk (far hx)).blk_ne hb (by decide)) v')
  have new : ∀ k, v'.ownBlock = some k → w0.heap.size ≤ k := fun k hk1 => by
    rcases hf with e | e
    · exact h.n.lr k (by rw [← e]; exact hk1)
    · rw [e] at hk1; cases hk1; exact h.k.size
  refine ⟨hb, ⟨⟨by simpa using (hb.set_ 1 v'), ?_, ?_⟩, row h.bs, ?_, ⟨h.n.ll, new, ?_⟩⟩⟩
  · have := (ho.setCell (p := ⟨l, 1, none⟩) (ho.blk_ne hb (by decide)) v')
    simpa using this
  · intro x hx
    rcases List.mem_append.1 hx with hx | hx
    · exact row (h.lg.inner x hx)
    · obtain rfl := List.mem_singleton.1 hx
      exact row hc
  · exact ((Kept.fresh h.k hk (fun k hm => h.n.lr k (mem_own hm))).setCell (.inr h.n.ll) v')
  · intro x hx k hk1
    rcases List.mem_append.1 hx with hx | hx
    · exact h.n.lx x hx k hk1
    · obtain rfl := List.mem_singleton.1 hx
      exact hn k hk1
theorem sayF_end1 {f i : Nat} {xs : List UInt8} (h : xs.length < 16) : sayF (f + 1) i xs = [] := by rw [sayF, if_pos h]
theorem sayF_end2 {f i : Nat} {xs : List UInt8} (h1 : 1048576 < beV (xs.take 8) ∨ xs.length - 16 < beV (xs.take 8)) : sayF (f + 1) i xs = [] := by
  rw [sayF]
  by_cases h0 : xs.length < 16
  · rw [if_pos h0]
  · rw [if_neg h0, if_pos h1]
theorem sayF_end3 {f i : Nat} {xs : List UInt8} (h : ¬ rsum i ((xs.drop 16).take (beV (xs.take 8))) = (xs.drop 8).take 8) : sayF (f + 1) i xs = [] := by
  rw [sayF]
  by_cases h0 : xs.length < 16
  · rw [if_pos h0]
  · rw [if_neg h0]
    by_cases h1 : 1048576 < beV (xs.take 8) ∨ xs.length - 16 < beV (xs.take 8)
    · rw [if_pos h1]
    · rw [if_neg h1, if_neg h]
theorem sayF_go {f i : Nat} {xs : List UInt8} (h0 : ¬ xs.length < 16) (h1 : ¬ (1048576 < beV (xs.take 8) ∨ xs.length - 16 < beV (xs.take 8))) (h : rsum i ((xs.drop 16).take (beV (xs.take 8))) = (xs.drop 8).take 8) :
    sayF (f + 1) i xs = (xs.drop 16).take (beV (xs.take 8)) :: sayF f (i + 1) (xs.drop (16 + beV (xs.take 8))) := by
  rw [sayF, if_neg h0, if_neg h1, if_pos h]
set_option maxHeartbeats 4000000 in
theorem open_any (b size safe : Nat) (dv : Value) (xs : List UInt8) (w : World) (hd : Dk.DiskIs w b size safe dv xs) (hx : xs.length ≤ 1000000000000) :
    Calls Try.prog 10 #[.pointer (some ⟨b, 0, none⟩)] w fun e w' => ∃ l rv rs dv', e = .returned (.tuple #[.pointer (some ⟨l, 0, none⟩), .int .i64 0]) ∧ rs.map (·.2) = says xs ∧ LgIs w' b l rv rs false ∧ LgNew w l rv rs ∧
      Dk.DiskIs w' b size (rsz (says xs)) dv' (xs.take (rsz (says xs))) ∧ dv'.ownBlock = dv.ownBlock ∧ Kept [b] w w' := by
  have D := Lib.hid hd
  have cb := Lib.hid (fun u (h : Dk.DiskIs u b size safe dv xs) => Dk.bytes_any b size safe dv xs u h (by omega))
  have cu := Lib.hid (fun u n (h : Dk.DiskIs u b size safe dv xs) (hn : n ≤ xs.length) => Dk.cut_ok b size safe n dv xs u h hn)
  have cy := Lib.hid (fun u s v ys (h : Dk.DiskIs u b size s v ys) => Dk.sync_any b size s v ys u h)
  have hbl := Lib.hid hd.blk.lt
  clear hd
  go_enter Try.func10, Try.ntmps10
  go_wp2_with (first
    | (go_at_call 14; (with_reducible refine (cb.out _ (D.out.kept0 ((Kept.refl [] w).alloc _))).mono ?_); rintro e w5 ⟨v5, rfl, o5, k5, n5⟩
       obtain ⟨A5, c5, rfl, _, hc5, _⟩ := Rd.of_own o5
       have M := Lib.hid (show OpM w b w.heap.size xs (.slice A5 xs.length c5) (.slice none 0 0) [] w5 from ⟨⟨(Blk.new w _ _).kept k5 (by simp), Ow.nil _ _ _, by simp⟩, Ow.of_own o5, (((Kept.refl [] w).alloc _).then0 k5), ⟨Nat.le_refl _, by simp [Value.ownBlock], by simp⟩⟩)
       clear o5 k5 n5))
  generalize hl : w.heap.size = l at *
  replace hl := Lib.hid hl
  go_loopg [6] (xs.length + 1) (fun fu p wk => ∃ (at_ : Nat) (rv : Value) (rs : List (Value × List UInt8)), at_ ≤ xs.length ∧ xs.length - at_ < fu ∧ p = .int .i64 (at_ : Int) ∧ Hid (at_ = rsz (rs.map (·.2))) ∧ Hid (says xs = rs.map (·.2) ++ sayF fu rs.length (xs.drop at_)) ∧ Hid (OpM w b l xs (.slice A5 xs.length c5) rv rs wk))
  case atStart => exact ⟨0, _, [], by omega, by omega, rfl, Lib.hid rfl, Lib.hid rfl, M⟩
  case round =>
    clear M
    obtain ⟨p, rv, rs, hp, hfu, rfl, hz, hs, M⟩ := hrel
    obtain ⟨f, rfl⟩ := Nat.exists_eq_add_one_of_ne_zero (Nat.ne_of_gt (Nat.lt_of_le_of_lt (Nat.zero_le _) hfu))
    obtain ⟨Ar, cr, rfl, hrc⟩ := M.out.lg.own.shape
    have hlr := M.out.lg.own.1
    replace hrc := Lib.hid hrc
    replace hlr := Lib.hid hlr
    by_cases h16 : 16 ≤ xs.length - p
    · have e1 : (xs.length : Int) - (p : Int) = ((xs.length - p : Nat) : Int) := by omega
      have e2 : ((xs.length - p : Nat) : Int) - 16 = ((xs.length - p - 16 : Nat) : Int) := by omega
      have hrem := Lib.hid (show xs.length - p = (xs.drop p).length from by rw [List.length_drop])
      have h8 : ((xs.drop p).take 8).length = 8 := by rw [List.length_take, List.length_drop]; omega
      obtain ⟨X, dX, hX, rX, oX, hdX⟩ := cut_part bytesT (Rd.of_ow M.out.bs) .i64 .i64 p (p + 8) (by omega) (by omega)
      have hX2 : ∀ W, (Instr.sliceAt 22 (.slice A5 xs.length c5) (some (.int .i64 (p : Int))) (some (.int .i64 ((p : Int) + 8))) none).run Try.prog W = .ok (.slice X 8 dX) W := fun W => by have := hX W; rwa [Nat.add_sub_cancel_left] at this
      have rX2 := Lib.hid (show Rd wr 1 (.slice X 8 dX) ((xs.drop p).take 8).length (bv ((xs.drop p).take 8)) from by
        have := rX
        rw [Nat.add_sub_cancel_left, Nat.mul_one, Nat.mul_one, ← List.map_drop, ← List.map_take] at this
        rw [h8]; exact this)
      have hbn := beV_8 h8
      have cr8 := Lib.hid (fun u => new_any (.slice X 8 dX) ((xs.drop p).take 8) u)
      have cn8 := Lib.hid (fun r u (h : RdrA u r (0, (xs.drop p).take 8)) => (number_read r (0, (xs.drop p).take 8) u h))
      have hN8 := Lib.hid (num8 _ h8)
      clear hX rX oX hdX
      have hh8 := Lib.hid h8
      clear h8
      generalize hbs : (xs.drop p).take 8 = bs at *
      replace hbs := Lib.hid hbs
      have h16i := h16
      generalize hr16 : xs.length - p - 16 = r16 at *
      replace hr16 := Lib.hid hr16
      generalize hrm : xs.length - p = rm at *
      have hrm2 := Lib.hid hrm
      clear hrm
      have hu16 : r16 ≤ 1000000000000 := by have := hr16.out; have := hrm2.out; omega
      have hurm : rm ≤ 1000000000000 := by have := hrm2.out; omega
      have pp : p ≤ 1000000000000 := by omega
      by_cases hn1 : 1048576 < beV bs
      · have hn1' := Lib.hid hn1
        have hsay := Lib.hid (show says xs = rs.map (·.2) from by rw [hs.out, sayF_end2 (.inl (by rw [hbs.out]; exact hn1'.out)), List.append_nil])
        have hpz := Lib.hid (show rsz (says xs) = p from by rw [hsay.out, ← hz.out])
        go_wp2_with (first
          | (go_at_call 23; (with_reducible refine (cr8.out _ (rX2.out.kept0 (Kept.refl [] _)) (by have := hh8.out; omega)).mono ?_); rintro e w7 ⟨r7, rfl, a7, k7, l7⟩
             have R7 := Lib.hid a7
             have K7 := Lib.hid k7
             have L7 := Lib.hid l7
             clear a7 k7 l7)
          | (go_at_call 24; (with_reducible refine (cn8.out _ _ R7.out).mono ?_); rintro e w8 ⟨rfl, _, k8⟩
             rw [hN8.out]
             replace K7 := Lib.hid (K7.out.then1 k8 L7.out)
             replace M := Lib.hid (M.out.kept K7.out)
             clear k8 R7)
          | (go_at_call 18; (with_reducible refine (cu.out _ _ (D.out.kept0 M.out.k) hp).mono ?_); rintro e w1 ⟨rfl, dv', d1, k1, o1⟩
             have D1 := Lib.hid d1
             have K1 := Lib.hid k1
             have O1 := Lib.hid o1
             clear d1 k1 o1)
          | (go_at_call 28; (with_reducible refine (cy.out _ _ _ _ D1.out).mono ?_); rintro e w2 ⟨rfl, d2, k2⟩
             have D2 := Lib.hid d2
             have K2 := Lib.hid (K1.out.trans' k2)
             clear d2 k2 D1 K1))
        go_ret2
        have hlt := hbl.out
        have nl := M.out.n.ll
        have hwl := hl.out
        refine ⟨_, _, rs, dv', rfl, hsay.out.symm, M.out.lg.kept K2.out (fun h => ?_) (fun k hk h => ?_) (fun x hx k hk h => ?_), M.out.n, ?_, O1.out, (M.out.k.of0).trans' K2.out⟩
        · simp only [List.mem_singleton] at h; omega
        · simp only [List.mem_singleton] at h; have := M.out.n.lr k hk; omega
        · simp only [List.mem_singleton] at h; have := M.out.n.lx x hx k hk; omega
        · rw [hpz.out]
          have := D2.out
          rwa [List.length_take, Nat.min_eq_left hp] at this
      · by_cases hn2 : r16 < beV bs
        · have hn2' := Lib.hid hn2
          have hsay := Lib.hid (show says xs = rs.map (·.2) from by rw [hs.out, sayF_end2 (.inr (by rw [hbs.out, ← hrem.out, hr16.out]; exact hn2'.out)), List.append_nil])
          have hpz := Lib.hid (show rsz (says xs) = p from by rw [hsay.out, ← hz.out])
          go_wp2_with (first
            | (go_at_call 23; (with_reducible refine (cr8.out _ (rX2.out.kept0 (Kept.refl [] _)) (by have := hh8.out; omega)).mono ?_); rintro e w7 ⟨r7, rfl, a7, k7, l7⟩
               have R7 := Lib.hid a7
               have K7 := Lib.hid k7
               have L7 := Lib.hid l7
               clear a7 k7 l7)
            | (go_at_call 24; (with_reducible refine (cn8.out _ _ R7.out).mono ?_); rintro e w8 ⟨rfl, _, k8⟩
               rw [hN8.out]
               replace K7 := Lib.hid (K7.out.then1 k8 L7.out)
               replace M := Lib.hid (M.out.kept K7.out)
               clear k8 R7)
            | (go_at_call 18; (with_reducible refine (cu.out _ _ (D.out.kept0 M.out.k) hp).mono ?_); rintro e w1 ⟨rfl, dv', d1, k1, o1⟩
               have D1 := Lib.hid d1
               have K1 := Lib.hid k1
               have O1 := Lib.hid o1
               clear d1 k1 o1)
            | (go_at_call 28; (with_reducible refine (cy.out _ _ _ _ D1.out).mono ?_); rintro e w2 ⟨rfl, d2, k2⟩
               have D2 := Lib.hid d2
               have K2 := Lib.hid (K1.out.trans' k2)
               clear d2 k2 D1 K1))
          go_ret2
          have hlt := hbl.out
          have nl := M.out.n.ll
          have hwl := hl.out
          refine ⟨_, _, rs, dv', rfl, hsay.out.symm, M.out.lg.kept K2.out (fun h => ?_) (fun k hk h => ?_) (fun x hx k hk h => ?_), M.out.n, ?_, O1.out, (M.out.k.of0).trans' K2.out⟩
          · simp only [List.mem_singleton] at h; omega
          · simp only [List.mem_singleton] at h; have := M.out.n.lr k hk; omega
          · simp only [List.mem_singleton] at h; have := M.out.n.lx x hx k hk; omega
          · rw [hpz.out]
            have := D2.out
            rwa [List.length_take, Nat.min_eq_left hp] at this
        · have hnm : beV bs ≤ 1048576 := by omega
          have hpn : p + 16 + beV bs ≤ xs.length := by have := hr16.out; have := hrm2.out; omega
          obtain ⟨Y, dY, hY, rY, oY, hdY⟩ := cut_part bytesT (Rd.of_ow M.out.bs) .i64 .i64 (p + 16) (p + 16 + beV bs) (by omega) (by omega)
          obtain ⟨Z, dZ, hZ, rZ, oZ, hdZ⟩ := cut_part bytesT (Rd.of_ow M.out.bs) .i64 .i64 (p + 8) (p + 16) (by omega) (by omega)
          have hY2 : ∀ W, (Instr.sliceAt 22 (.slice A5 xs.length c5) (some (.int .i64 ((p : Int) + 16))) (some (.int .i64 ((p : Int) + 16 + (beV bs : Int)))) none).run Try.prog W = .ok (.slice Y (beV bs) dY) W := fun W => by have := hY W; rwa [Nat.add_sub_cancel_left] at this
          have hZ2 : ∀ W, (Instr.sliceAt 22 (.slice A5 xs.length c5) (some (.int .i64 ((p : Int) + 8))) (some (.int .i64 ((p : Int) + 16))) none).run Try.prog W = .ok (.slice Z 8 dZ) W := fun W => by have := hZ W; rwa [show p + 16 - (p + 8) = 8 from by omega] at this
          obtain ⟨body, hbody⟩ : ∃ x, x = ((xs.drop p).drop 16).take (beV bs) := ⟨_, rfl⟩
          obtain ⟨sm, hsm⟩ : ∃ x, x = ((xs.drop p).drop 8).take 8 := ⟨_, rfl⟩
          have hbl2 : body.length = beV bs := by rw [hbody, List.length_take, List.length_drop, List.length_drop]; omega
          have hsl : sm.length = 8 := by rw [hsm, List.length_take, List.length_drop, List.length_drop]; have := hrm2.out; omega
          have rY2 := Lib.hid (show Rd wr 1 (.slice Y (beV bs) dY) body.length (bv body) from by
            have := rY
            rw [Nat.add_sub_cancel_left, Nat.mul_one, Nat.mul_one, ← List.map_drop, ← List.map_take, ← List.drop_drop] at this
            rw [hbl2, hbody]; exact this)
          have rZ2 := Lib.hid (show Rd wr 1 (.slice Z 8 dZ) sm.length (bv sm) from by
            have := rZ
            rw [show p + 16 - (p + 8) = 8 from by omega, Nat.mul_one, Nat.mul_one, ← List.map_drop, ← List.map_take, ← List.drop_drop] at this
            rw [hsl, hsm]; exact this)
          clear hY rY oY hdY hZ rZ oZ hdZ
          replace hbody := Lib.hid hbody
          replace hsm := Lib.hid hsm
          have csum := Lib.hid (fun u (h : Rd u 1 (.slice Y (beV bs) dY) body.length (bv body)) (hi : rs.length ≤ 100000000000) => rsum_any rs.length (.slice Y (beV bs) dY) body u h (by omega) (by omega))
          have ccl := Lib.hid (fun u (h : Rd u 1 (.slice Y (beV bs) dY) body.length (bv body)) => Dk.clone_any (.slice Y (beV bs) dY) body u h (by omega))
          have cellL := fun (u : World) (h : Blk u l 53 #[.pointer (some ⟨b, 0, none⟩), .slice Ar rs.length cr, .bool false]) => (show u.cell? ⟨l, 1, none⟩ = some (.slice Ar rs.length cr) from by rw [h.cell]; rfl)
          have ceq := Lib.hid equal_any
          have hrz := rsz_len (rs.map (·.2))
          rw [List.length_map, ← hz.out] at hrz
          have hrl : rs.length ≤ 100000000000 := by omega
          replace hrz := Lib.hid hrz
          replace hbl2 := Lib.hid hbl2
          replace hsl := Lib.hid hsl
          have hnm1 := Lib.hid hn1
          have hnm2 := Lib.hid hn2
          by_cases hq : rsum rs.length body = sm
          · have hdec := Lib.hid (decide_eq_true hq)
            replace hq := Lib.hid hq
            go_wp2_with (first
              | (go_at_call 23; (with_reducible refine (cr8.out _ (rX2.out.kept0 (Kept.refl [] _)) (by have := hh8.out; omega)).mono ?_); rintro e w7 ⟨r7, rfl, a7, k7, l7⟩
                 have R7 := Lib.hid a7
                 have K7 := Lib.hid k7
                 have L7 := Lib.hid l7
                 clear a7 k7 l7)
              | (go_at_call 24; (with_reducible refine (cn8.out _ _ R7.out).mono ?_); rintro e w8 ⟨rfl, _, k8⟩
                 rw [hN8.out]
                 replace K7 := Lib.hid (K7.out.then1 k8 L7.out)
                 replace M := Lib.hid (M.out.kept K7.out)
                 clear k8 R7))
            replace M := Lib.hid M.out.drew
            refine Txt.wp_textG [3] (OpM w b l xs (.slice A5 xs.length c5) (.slice Ar rs.length cr) rs) [[_, _, _, _, _, _, _], [_, _, _, _, _, _, _], [_]] (by kernel_rfl) (by kernel_rfl) rfl M.out (Txt.segs_cons ?_)
            have q1 := cellL _ M.out.lg.blk
            go_wp2_with (first
              | (go_at_call 26; (with_reducible refine (csum.out _ (rY2.out.kept0 K7.out.drew) hrl).mono ?_); rintro e w9 ⟨g9, c9, rfl, r9, k9, _⟩
                 have R9 := Lib.hid (show Rd w9 1 (.slice (some ⟨g9, 0, none⟩) 8 c9) (rsum rs.length body).length (bv (rsum rs.length body)) from by rw [rsum_len]; exact r9)
                 have K9 := Lib.hid ((K7.out.drew).then0 k9)
                 replace M := Lib.hid (M.out.kept k9)
                 clear r9 k9 q1))
            refine ⟨rfl, M.out, Txt.segs_cons ?_⟩
            go_wp2_with (first
              | (go_at_call 25; (with_reducible refine (ceq.out _ _ _ _ _ R9.out (rZ2.out.kept0 K9.out)).mono ?_); rintro e w10 ⟨he, rfl⟩
                 rw [hdec.out] at he
                 subst he))
            refine ⟨rfl, M.out, Txt.segs_cons ?_⟩
            go_wp2_with fail
            refine ⟨rfl, M.out, Txt.segs_nil ⟨⟨by kernel_rfl, ?_⟩, ?_⟩⟩
            · intro j hj o ho hw
              obtain rfl : j = 3 := by simpa using hj
              cases ho
              exact ⟨_, rfl, fun u hu => ex_cell (.tmp 53) rfl flatS rfl (cellL u hu.lg.blk)⟩
            go_wp2_with fail
            replace M := Lib.hid M.out.drew
            replace K9 := Lib.hid (K9.out.drew)
            refine Txt.wp_textL [4] (fun u => Blk u l 53 #[.pointer (some ⟨b, 0, none⟩), .slice Ar rs.length cr, .bool false]) [_, _, _, _, _, _, _, _, _, _, _] _ rfl [[_, _, _, _, _, _, _], [_], [_], [_, _]] (by kernel_rfl) (by kernel_rfl) (by kernel_rfl) rfl M.out.lg.blk (Txt.segs_cons ?_)
            have q1 := cellL _ M.out.lg.blk
            go_wp2_with (first
              | (go_at_call 27; (with_reducible refine (ccl.out _ (rY2.out.kept0 K9.out)).mono ?_); rintro e w11 ⟨v11, rfl, o11, k11, n11⟩
                 obtain ⟨A11, c11, hv11, _⟩ := Rd.of_own o11
                 rw [hbl2.out] at hv11
                 subst hv11
                 have O11 := Lib.hid (show Ow w11 5 1 (.slice A11 (beV bs) c11) body.length (bv body) from Ow.of_own o11)
                 have N11 := Lib.hid (show ∀ k, (Value.slice A11 (beV bs) c11).ownBlock = some k → w.heap.size ≤ k from fun k hk => by
                   rcases n11 with e | ⟨g, e, hg⟩
                   · rw [e] at hk; cases hk
                   · rw [e] at hk; cases hk; have := M.out.k.size; omega)
                 replace M := Lib.hid (M.out.kept k11)
                 clear o11 k11 n11 q1))
            refine ⟨rfl, M.out.lg.blk, Txt.segs_cons ?_⟩
            go_wp2_with (first
              | ((with_reducible refine wpl_at 73 ?_); (refine wpl_bslice1 (o := ⟨some 73, _, _, _, _, _⟩) (v0 := .slice A11 (beV bs) c11) (cells := #[.slice A11 (beV bs) c11]) rfl slicesT rfl rfl (by decide) rfl rfl ?_); intro g5 w5 m5
                 have b5 := Lib.hid (show Rd w5 1 (.slice (some ⟨g5, 0, none⟩) 1 1) 1 [.slice A11 (beV bs) c11] from ⟨_, _, rfl, rfl, by omega, fun _ => ⟨g5, 0, rfl, fun j u hu => by rw [m5.blk.cell]; simpa using hu⟩⟩)
                 replace M := Lib.hid (M.out.kept m5.kept)
                 replace O11 := Lib.hid (O11.out.kept0 m5.kept)
                 clear m5))
            refine ⟨rfl, M.out.lg.blk, Txt.segs_cons ?_⟩
            go_wp2_with (first
              | (at_builtin
                 refine wpl_app (n := rs.length) (m := 1) slicesT rfl (.tmp 70) (.tmp 73) rfl rfl M.out.lg.own rfl b5.out (by simp [Value.oneCell']) (by omega) (by omega) ?_
                 intro v' w6 o6 k6 f6
                 obtain ⟨A', c', hv', hlc'⟩ := o6.shape
                 subst hv'
                 have M6 := Lib.hid (M.out.app o6 k6 f6 O11.out N11.out)
                 clear o6 k6 f6 M))
            refine ⟨rfl, M6.out.1, Txt.segs_cons ?_⟩
            go_wp2_with fail
            refine ⟨rfl, M6.out.1, Txt.segs_nil ⟨⟨by kernel_rfl, ?_⟩, ?_⟩⟩
            · intro j hj o ho hw
              obtain rfl : j = 4 := by simpa using hj
              cases ho
              exact ⟨_, rfl, fun u hu => ex_cell (.tmp 69) rfl flatS rfl (cellL u hu)⟩
            have q2 := cellL _ M6.out.1
            have q3 := M6.out.1.frozen 1
            go_wp2_with fail
            go_roundg f
            case measure => omega
            case rel =>
              have hb1 : beV bs = body.length := hbl2.out.symm
              refine ⟨p + 16 + beV bs, .slice A' (rs.length + 1) c', rs ++ [(.slice A11 (beV bs) c11, body)], by omega, by have := hr16.out; have := hrm2.out; omega, by go_num, Lib.hid ?_, Lib.hid ?_, Lib.hid M6.out.2⟩
              · rw [List.map_append, rsz_app, ← hz.out, hb1]; simp [rsz]; omega
              · rw [hs.out, sayF_go (by rw [List.length_drop]; have := hrm2.out; omega) (by rw [hbs.out, ← hrem.out, hr16.out]; exact fun h => h.elim hnm1.out hnm2.out) (by rw [hbs.out, ← hbody.out, ← hsm.out]; exact hq.out), hbs.out, ← hbody.out, List.drop_drop]
                simp [List.length_append, Nat.add_assoc]
          · have hdec := Lib.hid (decide_eq_false hq)
            replace hq := Lib.hid hq
            go_wp2_with (first
              | (go_at_call 23; (with_reducible refine (cr8.out _ (rX2.out.kept0 (Kept.refl [] _)) (by have := hh8.out; omega)).mono ?_); rintro e w7 ⟨r7, rfl, a7, k7, l7⟩
                 have R7 := Lib.hid a7
                 have K7 := Lib.hid k7
                 have L7 := Lib.hid l7
                 clear a7 k7 l7)
              | (go_at_call 24; (with_reducible refine (cn8.out _ _ R7.out).mono ?_); rintro e w8 ⟨rfl, _, k8⟩
                 rw [hN8.out]
                 replace K7 := Lib.hid (K7.out.then1 k8 L7.out)
                 replace M := Lib.hid (M.out.kept K7.out)
                 clear k8 R7))
            replace M := Lib.hid M.out.drew
            refine Txt.wp_textG [3] (OpM w b l xs (.slice A5 xs.length c5) (.slice Ar rs.length cr) rs) [[_, _, _, _, _, _, _], [_, _, _, _, _, _, _], [_]] (by kernel_rfl) (by kernel_rfl) rfl M.out (Txt.segs_cons ?_)
            have q1 := cellL _ M.out.lg.blk
            go_wp2_with (first
              | (go_at_call 26; (with_reducible refine (csum.out _ (rY2.out.kept0 K7.out.drew) hrl).mono ?_); rintro e w9 ⟨g9, c9, rfl, r9, k9, _⟩
                 have R9 := Lib.hid (show Rd w9 1 (.slice (some ⟨g9, 0, none⟩) 8 c9) (rsum rs.length body).length (bv (rsum rs.length body)) from by rw [rsum_len]; exact r9)
                 have K9 := Lib.hid ((K7.out.drew).then0 k9)
                 replace M := Lib.hid (M.out.kept k9)
                 clear r9 k9 q1))
            refine ⟨rfl, M.out, Txt.segs_cons ?_⟩
            go_wp2_with (first
              | (go_at_call 25; (with_reducible refine (ceq.out _ _ _ _ _ R9.out (rZ2.out.kept0 K9.out)).mono ?_); rintro e w10 ⟨he, rfl⟩
                 rw [hdec.out] at he
                 subst he))
            refine ⟨rfl, M.out, Txt.segs_cons ?_⟩
            go_wp2_with fail
            refine ⟨rfl, M.out, Txt.segs_nil ⟨⟨by kernel_rfl, ?_⟩, ?_⟩⟩
            · intro j hj o ho hw
              obtain rfl : j = 3 := by simpa using hj
              cases ho
              exact ⟨_, rfl, fun u hu => ex_cell (.tmp 53) rfl flatS rfl (cellL u hu.lg.blk)⟩
            have hsay := Lib.hid (show says xs = rs.map (·.2) from by rw [hs.out, sayF_end3 (by rw [hbs.out, ← hbody.out, ← hsm.out]; exact hq.out), List.append_nil])
            have hpz := Lib.hid (show rsz (says xs) = p from by rw [hsay.out, ← hz.out])
            go_wp2_with (first
              | (go_at_call 18; (with_reducible refine (cu.out _ _ (D.out.kept0 M.out.k) hp).mono ?_); rintro e w1 ⟨rfl, dv', d1, k1, o1⟩
                 have D1 := Lib.hid d1
                 have K1 := Lib.hid k1
                 have O1 := Lib.hid o1
                 clear d1 k1 o1)
              | (go_at_call 28; (with_reducible refine (cy.out _ _ _ _ D1.out).mono ?_); rintro e w2 ⟨rfl, d2, k2⟩
                 have D2 := Lib.hid d2
                 have K2 := Lib.hid (K1.out.trans' k2)
                 clear d2 k2 D1 K1))
            go_ret2
            have hlt := hbl.out
            have nl := M.out.n.ll
            have hwl := hl.out
            refine ⟨_, _, rs, dv', rfl, hsay.out.symm, M.out.lg.kept K2.out (fun h => ?_) (fun k hk h => ?_) (fun x hx k hk h => ?_), M.out.n, ?_, O1.out, (M.out.k.of0).trans' K2.out⟩
            · simp only [List.mem_singleton] at h; omega
            · simp only [List.mem_singleton] at h; have := M.out.n.lr k hk; omega
            · simp only [List.mem_singleton] at h; have := M.out.n.lx x hx k hk; omega
            · rw [hpz.out]
              have := D2.out
              rwa [List.length_take, Nat.min_eq_left hp] at this
    · have hne := Lib.hid h16
      have e1 : (xs.length : Int) - (p : Int) = ((xs.length - p : Nat) : Int) := by omega
      have hsay := Lib.hid (show says xs = rs.map (·.2) from by rw [hs.out, sayF_end1 (by rw [List.length_drop]; have := hne.out; omega), List.append_nil])
      have hpz := Lib.hid (show rsz (says xs) = p from by rw [hsay.out, ← hz.out])
      go_wp2_with (first
        | (go_at_call 18; (with_reducible refine (cu.out _ _ (D.out.kept0 M.out.k) hp).mono ?_); rintro e w1 ⟨rfl, dv', d1, k1, o1⟩
           have D1 := Lib.hid d1
           have K1 := Lib.hid k1
           have O1 := Lib.hid o1
           clear d1 k1 o1)
        | (go_at_call 28; (with_reducible refine (cy.out _ _ _ _ D1.out).mono ?_); rintro e w2 ⟨rfl, d2, k2⟩
           have D2 := Lib.hid d2
           have K2 := Lib.hid (K1.out.trans' k2)
           clear d2 k2 D1 K1))
      go_ret2
      have hlt := hbl.out
      have nl := M.out.n.ll
      have hwl := hl.out
      refine ⟨_, _, rs, dv', rfl, hsay.out.symm, M.out.lg.kept K2.out (fun h => ?_) (fun k hk h => ?_) (fun x hx k hk h => ?_), M.out.n, ?_, O1.out, (M.out.k.of0).trans' K2.out⟩
      · simp only [List.mem_singleton] at h; omega
      · simp only [List.mem_singleton] at h; have := M.out.n.lr k hk; omega
      · simp only [List.mem_singleton] at h; have := M.out.n.lx x hx k hk; omega
      · rw [hpz.out]
        have := D2.out
        rwa [List.length_take, Nat.min_eq_left hp] at this
end Go.Proofs.Ytjdfnhfankcodaa
