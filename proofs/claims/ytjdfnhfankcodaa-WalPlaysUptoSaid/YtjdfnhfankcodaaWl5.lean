/-
  The log: the walk of Write, where there is room.
-/
import Derived.Test.YtjdfnhfankcodaaWl4
namespace Go.Proofs.Ytjdfnhfankcodaa
open Go.RowKit Go.Mem Go.Txt

theorem flatSl (w : World) : (isAgg 32).run Try.prog w = .ok false w := by kernel_rfl
/-- Behind Append and Sync. -/
theorem write_mid {w0 w u w2 w3 : World} {b l size safe : Nat} {dv dv2 rv : Value} {rs ps : List (Value × List UInt8)} {xs : List UInt8} (W1 : Wl w0 u b l size safe dv rv rs xs false) (K1 : Kept [] w u) (D2 : Dk.DiskIs w2 b size safe dv2 (xs ++ Dk.joined ps)) (N2 : Near dv.ownBlock u.heap.size dv2)
    (G2 : LgIs w2 b l rv rs false) (K2 : Kept (b :: dv.ownBlock.toList) u w2) (D3 : Dk.DiskIs w3 b size (xs ++ Dk.joined ps).length dv2 (xs ++ Dk.joined ps)) (K3 : Kept [b] w2 w3) :
    WriL w0 w w3 b l size (xs ++ Dk.joined ps).length dv dv2 rv rv rs [] (xs ++ Dk.joined ps) ∧ Near dv.ownBlock w.heap.size dv2 := by
  have hl : l ≠ b := fun e => W1.disk.blk.ne_ W1.lg.blk (by decide) e.symm
  have G3 := G2.kept K3 (by simpa using hl) (fun k hk hm => G2.own.blk_ne D2.blk (by decide) (by rw [hk, List.mem_singleton.1 hm])) (fun x hx k hk hm => (G2.inner x hx).blk_ne D2.blk (by decide) (by rw [hk, List.mem_singleton.1 hm]))
  have hsz := W1.k.size
  have hsz1 := K1.size
  have fr : ∀ k ∈ b :: dv.ownBlock.toList, w0.heap.size ≤ k := fun k hm => by
    rcases List.mem_cons.1 hm with rfl | hm
    · exact W1.lb
    · exact W1.ld k (mem_own hm)
  have fb : ∀ k ∈ [b], w0.heap.size ≤ k := fun k hm => by rw [List.mem_singleton.1 hm]; exact W1.lb
  refine ⟨⟨⟨D3, by rw [List.append_nil]; exact G3, ?_, W1.lb, ?_, ⟨W1.n.ll, W1.n.lr, by rw [List.append_nil]; exact W1.n.lx⟩, Kept.fresh (Kept.fresh W1.k K2 fr) K3 fb⟩, ?_, .inl rfl, by simp⟩, ?_⟩
  · intro x hx k hk1 e
    rw [List.append_nil] at hx
    rcases N2 with h | ⟨g, h, hg⟩
    · exact W1.sep x hx k hk1 (by rw [← h]; exact e)
    · rw [h] at e
      cases e
      have := (W1.lg.inner x hx).lt hk1
      omega
  · intro k hk1
    rcases N2 with h | ⟨g, h, hg⟩
    · exact W1.ld k (by rw [← h]; exact hk1)
    · rw [h] at hk1; cases hk1; omega
  · refine ((K1.of0 (S := wlS b l dv rv)).trans K2 (fun _ _ h => h) (fun k _ hm => ?_)).trans K3 (fun _ _ h => h) (fun k _ hm => ?_)
    · simp only [wlS, List.mem_cons, List.mem_append] at hm ⊢
      rcases hm with hm | hm
      · exact .inl hm
      · exact .inr (.inr (.inl hm))
    · rw [List.mem_singleton.1 hm]; simp [wlS]
  · rcases N2 with h | ⟨g, h, hg⟩
    · exact .inl h
    · exact .inr ⟨g, h, by omega⟩
set_option maxHeartbeats 4000000 in
theorem write_ok (w0 w : World) (b l size safe : Nat) (dv rv pv : Value) (rs bs : List (Value × List UInt8)) (xs : List UInt8) (hW : Wl w0 w b l size safe dv rv rs xs false) (hp : Dk.Parts w (wlS b l dv rv) pv bs)
    (hsz : size ≤ 1000000000000) (hn : bs.length ≤ 1000000000) (hrn : rs.length ≤ 1000000000) (hbig : ∀ x ∈ bs, x.2.length ≤ 1048576) (hfit : xs.length + rsz (bs.map (·.2)) ≤ size) :
    Calls Try.prog 16 #[.pointer (some ⟨l, 0, none⟩), pv] w fun e w' => e = .returned (.int .i64 0) ∧ ∃ dv' rv' rs2, rs2.map (·.2) = bs.map (·.2) ∧
      WriL w0 w w' b l size (xs ++ encs rs.length (bs.map (·.2))).length dv dv' rv rv' rs rs2 (xs ++ encs rs.length (bs.map (·.2))) ∧ Near dv.ownBlock w.heap.size dv' := by
  have W := Lib.hid hW
  have P := Lib.hid hp
  obtain ⟨PA, pc, rfl, hpl, hpc, hpx⟩ := hp.outer
  obtain ⟨Ar, cr, rfl, hrc⟩ := hW.lg.own.shape
  have hlr := Lib.hid hW.lg.own.1
  clear hpl hpc hpx hp hrc
  have hlt := Lib.hid hW.lt
  have csum := Lib.hid rsum_any
  have cnum := Lib.hid (fun u v (h : v < 18446744073709551616) => number_any (.slice none 0 0) [] v u (Rd.nil u 1) (by simp) h)
  have cell1 := fun (u : World) (dn : Bool) (h : Blk u l 53 #[.pointer (some ⟨b, 0, none⟩), .slice Ar rs.length cr, .bool dn]) => (show u.cell? ⟨l, 1, none⟩ = some (.slice Ar rs.length cr) from by rw [h.cell]; rfl)
  have B := Lib.hid hW.lg.blk
  have q2 : w.cell? ⟨l, 2, none⟩ = some (.bool false) := by rw [hW.lg.blk.cell]; rfl
  have hbigH := Lib.hid hbig
  clear hW hbig
  go_enter Try.func16, Try.ntmps16
  go_wp2_with fail
  have M0 := Lib.hid (show WriM w (wlS b l dv (.slice Ar rs.length cr)) (.slice none 0 0) [] w from ⟨Kept.refl _ _, Ow.nil _ _ _, by simp [Value.ownBlock], by simp⟩)
  clear q2
  go_loopg [5, 21] bs.length (fun fu o i wk => ∃ (k : Nat) (A : Option Addr) (c : Nat) (ps : List (Value × List UInt8)), k ≤ bs.length ∧ fu + k = bs.length ∧ i = .int .i64 (k : Int) ∧ o = .slice A (3 * k) c ∧ Hid (ps.length = 3 * k) ∧ Hid (Dk.joined ps = encs rs.length ((bs.map (·.2)).take k)) ∧ Hid (WriM w (wlS b l dv (.slice Ar rs.length cr)) (.slice A (3 * k) c) ps wk))
  case atStart => exact ⟨0, none, 0, [], by omega, by omega, rfl, rfl, Lib.hid rfl, Lib.hid rfl, M0⟩
  case round =>
    clear M0
    obtain ⟨k, A, c, ps, hk, hfu, rfl, rfl, hpn, hj, M⟩ := hrel
    by_cases hlt1 : k < bs.length
    · obtain ⟨p1, p2, hpk⟩ : ∃ p1 p2, bs[k] = (p1, p2) := ⟨_, _, rfl⟩
      have hp' := P.out.kept (M.out.k.of0)
      obtain ⟨pb, po, pc2, heq, _, hcell⟩ := hp'.outer.at_ (by omega)
      cases heq
      have hcl := hcell k p1 (by simp [hlt1, hpk])
      have hin := (hp'.inner (p1, p2) (hpk ▸ List.getElem_mem _))
      have hbg := hbigH.out (p1, p2) (hpk ▸ List.getElem_mem _)
      dsimp only at hin hbg
      obtain ⟨Bp, cp, hBp, _, _, _⟩ := hin.1
      subst hBp
      have R2 := Lib.hid hin.1
      have F2 := Lib.hid hin.2
      have hlow := Lib.hid (fun (hn : 0 < p2.length) => (show ∀ k', (Value.slice Bp p2.length cp).ownBlock = some k' → k' < w.heap.size from fun k' hk' => by
        obtain ⟨b', hb', hlt'⟩ := ((P.out.inner (.slice Bp p2.length cp, p2) (hpk ▸ List.getElem_mem _)).1).lt (by decide) hn
        rw [hk'] at hb'; cases hb'; exact hlt'))
      have hpk2 := Lib.hid hpk
      clear hp' hcell hin hpk
      have cs2 := Lib.hid (fun u (h : Rd u 1 (.slice Bp p2.length cp) p2.length (bv p2)) => (show Calls Try.prog 26 #[.int .i64 ((rs.length : Int) + (k : Int)), .slice Bp p2.length cp] u _ from rsum_any (rs.length + k) (.slice Bp p2.length cp) p2 u h (by omega) (by omega)))
      go_wp2_with fail
      replace M := Lib.hid (M.out.kept (Kept.refl [] _).drew)
      replace R2 := Lib.hid (R2.out.kept0 (Kept.refl [] _).drew)
      have BL := Lib.hid (B.out.kept M.out.k (by simp))
      refine Txt.wp_textG [8] (fun u => Blk u l 53 #[.pointer (some ⟨b, 0, none⟩), .slice Ar rs.length cr, .bool false]) [[_, _, _, _, _], [_, _, _, _, _, _, _, _, _], [_, _], [_], [_]] (by kernel_rfl) (by kernel_rfl) rfl BL.out (Txt.segs_cons ?_)
      go_wp2_with (first
        | (go_at_call 31; (with_reducible refine (cnum.out _ _ (by omega)).mono ?_); rintro e w1 ⟨v1, rfl, n1⟩
           obtain ⟨A1, c1, rfl, _⟩ := n1.ow.shape
           have N1 := Lib.hid (show Rd w1 1 (.slice A1 (be8 p2.length).length c1) (be8 p2.length).length (bv (be8 p2.length)) from Rd.of_ow n1.ow)
           have F1 := Lib.hid (show Near none wr.drew.heap.size (.slice A1 (be8 p2.length).length c1) from n1.near)
           have K1 := Lib.hid n1.kept
           replace BL := Lib.hid (BL.out.kept n1.kept (by simp))
           clear n1))
      refine ⟨rfl, BL.out, Txt.segs_cons ?_⟩
      have q1 := cell1 _ _ BL.out
      go_wp2_with (first
        | (go_at_call 26; (with_reducible refine (cs2.out _ (R2.out.kept0 K1.out)).mono ?_); rintro e w2 ⟨g2, c2, rfl, r2, k2, l2⟩
           have R3 := Lib.hid (show Rd w2 1 (.slice (some ⟨g2, 0, none⟩) 8 c2) (rsum (rs.length + k) p2).length (bv (rsum (rs.length + k) p2)) from by rw [rsum_len]; exact r2)
           have L2 := Lib.hid l2
           have K2 := Lib.hid k2
           replace BL := Lib.hid (BL.out.kept k2 (by simp))
           clear r2 k2 l2 q1))
      refine ⟨rfl, BL.out, Txt.segs_cons ?_⟩
      go_wp2_with (first
        | ((with_reducible refine wpl_at 44 ?_); (refine wpl_bslice3 (o := ⟨some 44, _, _, _, _, _⟩) (v0 := .slice A1 (be8 p2.length).length c1) (v1 := .slice (some ⟨g2, 0, none⟩) 8 c2) (v2 := .slice Bp p2.length cp) rfl slicesT rfl rfl rfl rfl rfl rfl rfl ?_); intro g5 w5 m5
           have b5 := Lib.hid (show Rd w5 1 (.slice (some ⟨g5, 0, none⟩) 3 3) 3 [.slice A1 (be8 p2.length).length c1, .slice (some ⟨g2, 0, none⟩) 8 c2, .slice Bp p2.length cp] from ⟨_, _, rfl, rfl, Nat.le_refl _, fun _ => ⟨g5, 0, rfl, fun j u hu => by rw [m5.blk.cell, Nat.zero_add]; simpa using hu⟩⟩)
           have K5 := Lib.hid (K2.out.then0 m5.kept)
           have KX := Lib.hid m5.kept
           have M5 := Lib.hid (M.out.kept (K1.out.then0 K5.out))
           replace BL := Lib.hid (BL.out.kept m5.kept (by simp))
           clear m5))
      refine ⟨rfl, BL.out, Txt.segs_cons ?_⟩
      go_wp2_with (first
        | (at_builtin
           refine wpl_app (n := 3 * k) (m := 3) slicesT rfl (.tmp 29) (.tmp 44) rfl rfl (by have := M5.out.ow; rw [hpn.out] at this; exact this) rfl b5.out (by simp [Value.oneCell']) (by omega) (by omega) ?_
           intro v' w6 o6 k6 f6
           obtain ⟨A', c', hv', hlc'⟩ := o6.shape
           subst hv'
           have hbn := M.out.k.size
           have BLz := Lib.hid (BL.out.kept k6 (notin_own (M5.out.ow.blk_ne BL.out (by decide))))
           have M6 := Lib.hid (M5.out.app (qs := [(.slice A1 (be8 p2.length).length c1, be8 p2.length), (.slice (some ⟨g2, 0, none⟩) 8 c2, rsum (rs.length + k) p2), (.slice Bp p2.length cp, p2)]) (by rw [hpn.out]; exact o6) k6 f6 (by
             intro x hx
             simp only [List.mem_cons, List.not_mem_nil, or_false] at hx
             have low : ∀ k', k' ∈ wlS b l dv (.slice Ar rs.length cr) → k' < w.heap.size := hlt.out
             have vlow : ∀ k', (Value.slice A (3 * k) c).ownBlock = some k' → k' < wr.drew.heap.size := fun k' h => M.out.ow.lt h
             rcases hx with rfl | rfl | rfl
             · refine ⟨N1.out.kept0 K5.out, fun _ k' hk' => ?_⟩
               replace hk' : (Value.slice A1 (be8 p2.length).length c1).ownBlock = some k' := hk'
               rcases F1.out with e | ⟨g, e, hg⟩
               · rw [e] at hk'; cases hk'
               · rw [e] at hk'; cases hk'
                 exact ⟨fun hm => by have := low _ hm; omega, fun h => by have := vlow _ h; omega⟩
             · refine ⟨R3.out.kept0 KX.out, fun _ k' hk' => ?_⟩
               have : k' = g2 := by simpa [Value.ownBlock] using hk'.symm
               subst this
               have := L2.out
               have := K1.out.size
               exact ⟨fun hm => by have := low _ hm; omega, fun h => by have := vlow _ h; omega⟩
             · refine ⟨R2.out.kept0 (K1.out.then0 K5.out), fun hn k' hk' => ⟨F2.out hn k' hk', fun h => ?_⟩⟩
               have h1 := hlow.out hn k' hk'
               have h2 := M.out.new k' h
               omega))
           clear o6 k6 f6 M M5))
      refine ⟨rfl, BLz.out, Txt.segs_cons ?_⟩
      go_wp2_with fail
      refine ⟨rfl, BLz.out, Txt.segs_nil ⟨⟨by kernel_rfl, ?_⟩, ?_⟩⟩
      · intro j hj o ho hw
        obtain rfl : j = 8 := by simpa using hj
        cases ho
        exact ⟨_, rfl, fun u hu => ex_cell (.tmp 36) rfl flatSl rfl (cell1 u _ hu)⟩
      go_wp2_with fail
      go_roundg (bs.length - (k + 1))
      case measure => omega
      case rel =>
        refine ⟨k + 1, A', c', _, by omega, by omega, by go_num, rfl, Lib.hid ?_, Lib.hid ?_, M6⟩
        · rw [List.length_append, hpn.out]; simp; omega
        · have hl2 : k < (bs.map (·.2)).length := by rw [List.length_map]; omega
          rw [encs_succ _ _ _ hl2, ← hj.out, show (bs.map (·.2))[k] = p2 from by rw [List.getElem_map, hpk2.out]]
          simp [Dk.joined, encR]
    · obtain rfl : k = bs.length := by omega
      have hjl : (Dk.joined ps).length = rsz (bs.map (·.2)) := by
        rw [hj.out, List.take_of_length_le (by rw [List.length_map]; omega), encs_len]
      have hjj := Lib.hid (show Dk.joined ps = encs rs.length (bs.map (·.2)) from by rw [hj.out, List.take_of_length_le (by rw [List.length_map]; omega)])
      have htot := Lib.hid (show Dk.total ps = rsz (bs.map (·.2)) from by rw [← Dk.joined_length, hjl])
      clear hjl
      have lowS : ∀ k ∈ b :: dv.ownBlock.toList, k ∈ wlS b l dv (.slice Ar rs.length cr) := fun k hk => by
        simp only [wlS, List.mem_cons, List.mem_append] at hk ⊢
        rcases hk with hk | hk
        · exact .inl hk
        · exact .inr (.inr (.inl hk))
      have PP := Lib.hid (M.out.parts lowS (fun k hk => hlt.out k (lowS k hk)))
      have W1 := Lib.hid (W.out.kept0 M.out.k)
      have K1 := Lib.hid M.out.k
      have capp := Lib.hid (fun u (h : Dk.DiskIs u b size safe dv xs) (h2 : Dk.Parts u (b :: dv.ownBlock.toList) (.slice A (3 * bs.length) c) ps) => Dk.append_ok b size safe dv _ xs ps u h h2 (by omega) (by have := hpn.out; omega) (by rw [htot.out]; omega) (by rw [htot.out]; omega))
      have cy := Lib.hid (fun u v ys (h : Dk.DiskIs u b size safe v ys) => Dk.sync_any b size safe v ys u h)
      have c0 : wr.cell? ⟨l, 0, none⟩ = some (.pointer (some ⟨b, 0, none⟩)) := by rw [W1.out.lg.blk.cell]; rfl
      have F0 := Lib.hid (fun (u : World) (h : Blk u l 53 #[.pointer (some ⟨b, 0, none⟩), .slice Ar rs.length cr, .bool false]) => (show u.cell? ⟨l, 0, none⟩ = some (.pointer (some ⟨b, 0, none⟩)) from by rw [h.cell]; rfl))
      clear M lowS
      go_wp2_with (first
        | (go_at_call 9; (with_reducible refine (capp.out _ W1.out.disk PP.out).mono ?_); rintro e w2 ⟨rfl, dv2, d2, k2, n2⟩
           have D2 := Lib.hid d2
           have N2 := Lib.hid n2
           have G2 := Lib.hid (W1.out.lg.kept k2 (fun hm => by
             rcases List.mem_cons.1 hm with e | hm
             · exact W1.out.disk.blk.ne_ W1.out.lg.blk (by decide) e.symm
             · exact (Ow.of_own W1.out.disk.own).blk_ne W1.out.lg.blk (by decide) (mem_own hm)) (fun k hk1 hm => by
             rcases List.mem_cons.1 hm with rfl | hm
             · exact W1.out.lg.own.blk_ne W1.out.disk.blk (by decide) hk1
             · exact W1.out.lg.own.ne_ (Ow.of_own W1.out.disk.own) (by decide) k hk1 (mem_own hm)) (fun x hx k hk1 hm => by
             rcases List.mem_cons.1 hm with rfl | hm
             · exact (W1.out.lg.inner x hx).blk_ne W1.out.disk.blk (by decide) hk1
             · exact W1.out.sep x hx k hk1 (mem_own hm)))
           have K2 := Lib.hid k2
           have c0' := F0.out _ G2.out.blk
           clear d2 n2 k2 c0)
        | (go_at_call 28; (with_reducible refine (cy.out _ _ _ D2.out).mono ?_); rintro e w3 ⟨rfl, d3, k3⟩
           have M := Lib.hid (write_mid W1.out K1.out D2.out N2.out G2.out K2.out d3 k3)
           clear d3 k3 D2 N2 G2 K2 c0'))
      have ND := Lib.hid M.out.2
      have M1 := Lib.hid M.out.1
      rw [hjj.out] at M1
      clear M W1 K1 PP
      generalize hX : xs ++ encs rs.length (bs.map (·.2)) = X at *
      replace hX := Lib.hid hX
      go_loopg [66] bs.length (fun fu i wk => ∃ (k : Nat) (rv' : Value) (rs2 : List (Value × List UInt8)), k ≤ bs.length ∧ fu + k = bs.length ∧ i = .int .i64 (k : Int) ∧ Hid (rs2.map (·.2) = (bs.map (·.2)).take k) ∧ Hid (WriL w0 w wk b l size X.length dv dv2 (.slice Ar rs.length cr) rv' rs rs2 X))
      case atStart => exact ⟨0, _, [], by omega, by omega, rfl, Lib.hid rfl, M1⟩
      case round =>
        clear M1
        obtain ⟨k, rv', rs2, hk2, hfu2, rfl, hm2, M⟩ := hrel
        have hl2 : rs2.length = k := by
          have := congrArg List.length hm2.out
          rw [List.length_map, List.length_take, List.length_map] at this; omega
        by_cases hlt2 : k < bs.length
        · obtain ⟨p1, p2, hpk⟩ : ∃ p1 p2, bs[k] = (p1, p2) := ⟨_, _, rfl⟩
          have hp' := P.out.kept M.out.k
          obtain ⟨pb, po, pc2, heq, _, hcell⟩ := hp'.outer.at_ (by omega)
          cases heq
          have hcl := hcell k p1 (by simp [hlt2, hpk])
          have hin := (hp'.inner (p1, p2) (hpk ▸ List.getElem_mem _)).1
          have hbg := hbigH.out (p1, p2) (hpk ▸ List.getElem_mem _)
          dsimp only at hin hbg
          obtain ⟨Bp, cp, hBp, _, _, _⟩ := hin
          subst hBp
          have R2 := Lib.hid (hp'.inner (.slice Bp p2.length cp, p2) (hpk ▸ List.getElem_mem _)).1
          have hpk2 := Lib.hid hpk
          obtain ⟨Aq, cq, hrv, _⟩ := M.out.W.lg.own.shape
          obtain ⟨nq, hnq⟩ : ∃ n, n = (rs ++ rs2).length := ⟨_, rfl⟩
          have hnq2 : nq = rs.length + k := by rw [hnq, List.length_append, hl2]
          rw [← hnq] at hrv
          subst hrv
          replace hnq := Lib.hid hnq
          have cellq := fun (u : World) (h : Blk u l 53 #[.pointer (some ⟨b, 0, none⟩), .slice Aq nq cq, .bool false]) => (show u.cell? ⟨l, 1, none⟩ = some (.slice Aq nq cq) from by rw [h.cell]; rfl)
          have ccl := Lib.hid (fun u (h : Rd u 1 (.slice Bp p2.length cp) p2.length (bv p2)) => Dk.clone_any (.slice Bp p2.length cp) p2 u h (by omega))
          have hnq3 := Lib.hid hnq2
          clear hp' hcell hpk hnq2
          have hnqb : nq ≤ 2000000000 := by have := hnq3.out; omega
          go_wp2_with fail
          replace M := Lib.hid (M.out.kept (Kept.refl [] _).drew)
          replace R2 := Lib.hid (R2.out.kept0 (Kept.refl [] _).drew)
          refine Txt.wp_textL [4] (fun u => Blk u l 53 #[.pointer (some ⟨b, 0, none⟩), .slice Aq nq cq, .bool false]) [_, _, _, _, _, _, _, _, _, _, _] _ rfl [[_, _, _, _, _, _, _], [_], [_], [_, _]] (by kernel_rfl) (by kernel_rfl) (by kernel_rfl) rfl M.out.W.lg.blk (Txt.segs_cons ?_)
          have q1 := cellq _ M.out.W.lg.blk
          go_wp2_with (first
            | (go_at_call 27; (with_reducible refine (ccl.out _ R2.out).mono ?_); rintro e w11 ⟨v11, rfl, o11, k11, n11⟩
               obtain ⟨A11, c11, rfl, _⟩ := Rd.of_own o11
               have O11 := Lib.hid (show Ow w11 5 1 (.slice A11 p2.length c11) p2.length (bv p2) from Ow.of_own o11)
               have N11 := Lib.hid (show ∀ k, (Value.slice A11 p2.length c11).ownBlock = some k → w.heap.size ≤ k ∧ dv2.ownBlock ≠ some k from fun k' hk' => by
                 have hsz1 := M.out.k.size
                 rcases n11 with e | ⟨g, e, hg⟩
                 · rw [e] at hk'; cases hk'
                 · rw [e] at hk'; cases hk'
                   exact ⟨by omega, fun h => by have := (Ow.of_own M.out.W.disk.own).lt h; omega⟩)
               replace M := Lib.hid (M.out.kept k11)
               clear o11 k11 n11 q1))
          refine ⟨rfl, M.out.W.lg.blk, Txt.segs_cons ?_⟩
          go_wp2_with (first
            | ((with_reducible refine wpl_at 77 ?_); (refine wpl_bslice1 (o := ⟨some 77, _, _, _, _, _⟩) (v0 := .slice A11 p2.length c11) (cells := #[.slice A11 p2.length c11]) rfl slicesT rfl rfl (by decide) rfl rfl ?_); intro g5 w5 m5
               have b5 := Lib.hid (show Rd w5 1 (.slice (some ⟨g5, 0, none⟩) 1 1) 1 [.slice A11 p2.length c11] from ⟨_, _, rfl, rfl, by omega, fun _ => ⟨g5, 0, rfl, fun j u hu => by rw [m5.blk.cell]; simpa using hu⟩⟩)
               replace M := Lib.hid (M.out.kept m5.kept)
               replace O11 := Lib.hid (O11.out.kept0 m5.kept)
               clear m5))
          refine ⟨rfl, M.out.W.lg.blk, Txt.segs_cons ?_⟩
          go_wp2_with (first
            | (at_builtin
               refine wpl_app (n := nq) (m := 1) slicesT rfl (.tmp 74) (.tmp 77) rfl rfl (by have := M.out.W.lg.own; rw [← hnq.out] at this; exact this) rfl b5.out (by simp [Value.oneCell']) (by omega) (by omega) ?_
               intro v' w6 o6 k6 f6
               obtain ⟨A', c', hv', hlc'⟩ := o6.shape
               subst hv'
               have M6 := Lib.hid (M.out.app W.out.k.size (by rw [← hnq.out]; exact o6) k6 f6 O11.out N11.out)
               clear o6 k6 f6 M))
          refine ⟨rfl, M6.out.1, Txt.segs_cons ?_⟩
          go_wp2_with fail
          refine ⟨rfl, M6.out.1, Txt.segs_nil ⟨⟨by kernel_rfl, ?_⟩, ?_⟩⟩
          · intro j hj o ho hw
            obtain rfl : j = 4 := by simpa using hj
            cases ho
            exact ⟨_, rfl, fun u hu => ex_cell (.tmp 73) rfl flatSl rfl (cellq u hu)⟩
          have q2 := cellq _ M6.out.1
          have q3 := M6.out.1.frozen 1
          go_wp2_with fail
          go_roundg (bs.length - (k + 1))
          case measure => omega
          case rel =>
            refine ⟨k + 1, _, rs2 ++ [(.slice A11 p2.length c11, p2)], by omega, by omega, by go_num, Lib.hid ?_, Lib.hid M6.out.2⟩
            rw [List.map_append, hm2.out, List.take_succ_eq_append_getElem (by rw [List.length_map]; omega), List.getElem_map, hpk2.out]
            rfl
        · obtain rfl : k = bs.length := by omega
          have hm3 := Lib.hid (show rs2.map (·.2) = bs.map (·.2) from by rw [hm2.out, List.take_of_length_le (by rw [List.length_map]; omega)])
          go_wp2_with fail
          go_ret
          refine ⟨rfl, dv2, rv', rs2, hm3.out, ?_, ND.out⟩
          have := M.out
          rw [← hX.out] at this
          simpa using this
end Go.Proofs.Ytjdfnhfankcodaa
