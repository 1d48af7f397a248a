/-
  The log: Write where there is no room, where the log is down, and what no log answers.
-/
import Derived.Test.YtjdfnhfankcodaaWl5
import Derived.Test.YtjdfnhfankcodaaWl12
namespace Go.Proofs.Ytjdfnhfankcodaa
open Go.RowKit Go.Mem Go.Txt

set_option maxHeartbeats 4000000 in
theorem write_full (w0 w : World) (b l size safe : Nat) (dv rv pv : Value) (rs bs : List (Value × List UInt8)) (xs : List UInt8) (hW : Wl w0 w b l size safe dv rv rs xs false) (hp : Dk.Parts w (wlS b l dv rv) pv bs)
    (hsz : size ≤ 1000000000000) (hn : bs.length ≤ 1000000000) (hrn : rs.length ≤ 1000000000) (hbig : ∀ x ∈ bs, x.2.length ≤ 1048576) (hxs : xs.length ≤ size) (hfit : size < xs.length + rsz (bs.map (·.2))) :
    Calls Try.prog 16 #[.pointer (some ⟨l, 0, none⟩), pv] w fun e w' => e = .returned (.int .i64 140) ∧ Wl w0 w' b l size safe dv rv rs xs true ∧ Kept [l] w w' := by
  have W := Lib.hid hW
  have P := Lib.hid hp
  obtain ⟨PA, pc, rfl, hpl, hpc, hpx⟩ := hp.outer
  obtain ⟨Ar, cr, rfl, hrc⟩ := hW.lg.own.shape
  have hlr := Lib.hid hW.lg.own.1
  clear hpl hpc hpx hp hrc
  have hlt := Lib.hid hW.lt
  have csum := Lib.hid rsum_any
  have cnum := Lib.hid (fun u v (h : v < 18446744073709551616) => number_any (.slice none 0 0) [] v u (Rd.nil u 1) (by simp) h)
  have cell1 := fun (u : World) (dn : Bool) (h : Blk u l 53 #[.pointer (some ⟨b, 0, none⟩), .slice Ar rs.length cr, .bool dn]) => (show u.cell? ⟨l, 1, none⟩ = some (.slice Ar rs.length cr) from by rw [h.cell]; rfl)
  have B := Lib.hid hW.lg.blk
  have q2 : w.cell? ⟨l, 2, none⟩ = some (.bool false) := by rw [hW.lg.blk.cell]; rfl
  have hbigH := Lib.hid hbig
  clear hW hbig
  go_enter Try.func16, Try.ntmps16
  go_wp2_with fail
  have M0 := Lib.hid (show WriM w (wlS b l dv (.slice Ar rs.length cr)) (.slice none 0 0) [] w from ⟨Kept.refl _ _, Ow.nil _ _ _, by simp [Value.ownBlock], by simp⟩)
  clear q2
  go_loopg [5, 21] bs.length (fun fu o i wk => ∃ (k : Nat) (A : Option Addr) (c : Nat) (ps : List (Value × List UInt8)), k ≤ bs.length ∧ fu + k = bs.length ∧ i = .int .i64 (k : Int) ∧ o = .slice A (3 * k) c ∧ Hid (ps.length = 3 * k) ∧ Hid (Dk.joined ps = encs rs.length ((bs.map (·.2)).take k)) ∧ Hid (WriM w (wlS b l dv (.slice Ar rs.length cr)) (.slice A (3 * k) c) ps wk))
  case atStart => exact ⟨0, none, 0, [], by omega, by omega, rfl, rfl, Lib.hid rfl, Lib.hid rfl, M0⟩
  case round =>
    clear M0
    obtain ⟨k, A, c, ps, hk, hfu, rfl, rfl, hpn, hj, M⟩ := hrel
    by_cases hlt1 : k < bs.length
    · obtain ⟨p1, p2, hpk⟩ : ∃ p1 p2, bs[k] = (p1, p2) := ⟨_, _, rfl⟩
      have hp' := P.out.kept (M.out.k.of0)
      obtain ⟨pb, po, pc2, heq, _, hcell⟩ := hp'.outer.at_ (by omega)
      cases heq
      have hcl := hcell k p1 (by simp [hlt1, hpk])
      have hin := (hp'.inner (p1, p2) (hpk ▸ List.getElem_mem _))
      have hbg := hbigH.out (p1, p2) (hpk ▸ List.getElem_mem _)
      dsimp only at hin hbg
      obtain ⟨Bp, cp, hBp, _, _, _⟩ := hin.1
      subst hBp
      have R2 := Lib.hid hin.1
      have F2 := Lib.hid hin.2
      have hlow := Lib.hid (fun (hn : 0 < p2.length) => (show ∀ k', (Value.slice Bp p2.length cp).ownBlock = some k' → k' < w.heap.size from fun k' hk' => by
        obtain ⟨b', hb', hlt'⟩ := ((P.out.inner (.slice Bp p2.length cp, p2) (hpk ▸ List.getElem_mem _)).1).lt (by decide) hn
        rw [hk'] at hb'; cases hb'; exact hlt'))
      have hpk2 := Lib.hid hpk
      clear hp' hcell hin hpk
      have cs2 := Lib.hid (fun u (h : Rd u 1 (.slice Bp p2.length cp) p2.length (bv p2)) => (show Calls Try.prog 26 #[.int .i64 ((rs.length : Int) + (k : Int)), .slice Bp p2.length cp] u _ from rsum_any (rs.length + k) (.slice Bp p2.length cp) p2 u h (by omega) (by omega)))
      go_wp2_with fail
      replace M := Lib.hid (M.out.kept (Kept.refl [] _).drew)
      replace R2 := Lib.hid (R2.out.kept0 (Kept.refl [] _).drew)
      have BL := Lib.hid (B.out.kept M.out.k (by simp))
      refine Txt.wp_textG [8] (fun u => Blk u l 53 #[.pointer (some ⟨b, 0, none⟩), .slice Ar rs.length cr, .bool false]) [[_, _, _, _, _], [_, _, _, _, _, _, _, _, _], [_, _], [_], [_]] (by kernel_rfl) (by kernel_rfl) rfl BL.out (Txt.segs_cons ?_)
      go_wp2_with (first
        | (go_at_call 31; (with_reducible refine (cnum.out _ _ (by omega)).mono ?_); rintro e w1 ⟨v1, rfl, n1⟩
           obtain ⟨A1, c1, rfl, _⟩ := n1.ow.shape
           have N1 := Lib.hid (show Rd w1 1 (.slice A1 (be8 p2.length).length c1) (be8 p2.length).length (bv (be8 p2.length)) from Rd.of_ow n1.ow)
           have F1 := Lib.hid (show Near none wr.drew.heap.size (.slice A1 (be8 p2.length).length c1) from n1.near)
           have K1 := Lib.hid n1.kept
           replace BL := Lib.hid (BL.out.kept n1.kept (by simp))
           clear n1))
      refine ⟨rfl, BL.out, Txt.segs_cons ?_⟩
      have q1 := cell1 _ _ BL.out
      go_wp2_with (first
        | (go_at_call 26; (with_reducible refine (cs2.out _ (R2.out.kept0 K1.out)).mono ?_); rintro e w2 ⟨g2, c2, rfl, r2, k2, l2⟩
           have R3 := Lib.hid (show Rd w2 1 (.slice (some ⟨g2, 0, none⟩) 8 c2) (rsum (rs.length + k) p2).length (bv (rsum (rs.length + k) p2)) from by rw [rsum_len]; exact r2)
           have L2 := Lib.hid l2
           have K2 := Lib.hid k2
           replace BL := Lib.hid (BL.out.kept k2 (by simp))
           clear r2 k2 l2 q1))
      refine ⟨rfl, BL.out, Txt.segs_cons ?_⟩
      go_wp2_with (first
        | ((with_reducible refine wpl_at 44 ?_); (refine wpl_bslice3 (o := ⟨some 44, _, _, _, _, _⟩) (v0 := .slice A1 (be8 p2.length).length c1) (v1 := .slice (some ⟨g2, 0, none⟩) 8 c2) (v2 := .slice Bp p2.length cp) rfl slicesT rfl rfl rfl rfl rfl rfl rfl ?_); intro g5 w5 m5
           have b5 := Lib.hid (show Rd w5 1 (.slice (some ⟨g5, 0, none⟩) 3 3) 3 [.slice A1 (be8 p2.length).length c1, .slice (some ⟨g2, 0, none⟩) 8 c2, .slice Bp p2.length cp] from ⟨_, _, rfl, rfl, Nat.le_refl _, fun _ => ⟨g5, 0, rfl, fun j u hu => by rw [m5.blk.cell, Nat.zero_add]; simpa using hu⟩⟩)
           have K5 := Lib.hid (K2.out.then0 m5.kept)
           have KX := Lib.hid m5.kept
           have M5 := Lib.hid (M.out.kept (K1.out.then0 K5.out))
           replace BL := Lib.hid (BL.out.kept m5.kept (by simp))
           clear m5))
      refine ⟨rfl, BL.out, Txt.segs_cons ?_⟩
      go_wp2_with (first
        | (at_builtin
           refine wpl_app (n := 3 * k) (m := 3) slicesT rfl (.tmp 29) (.tmp 44) rfl rfl (by have := M5.out.ow; rw [hpn.out] at this; exact this) rfl b5.out (by simp [Value.oneCell']) (by omega) (by omega) ?_
           intro v' w6 o6 k6 f6
           obtain ⟨A', c', hv', hlc'⟩ := o6.shape
           subst hv'
           have hbn := M.out.k.size
           have BLz := Lib.hid (BL.out.kept k6 (notin_own (M5.out.ow.blk_ne BL.out (by decide))))
           have M6 := Lib.hid (M5.out.app (qs := [(.slice A1 (be8 p2.length).length c1, be8 p2.length), (.slice (some ⟨g2, 0, none⟩) 8 c2, rsum (rs.length + k) p2), (.slice Bp p2.length cp, p2)]) (by rw [hpn.out]; exact o6) k6 f6 (by
             intro x hx
             simp only [List.mem_cons, List.not_mem_nil, or_false] at hx
             have low : ∀ k', k' ∈ wlS b l dv (.slice Ar rs.length cr) → k' < w.heap.size := hlt.out
             have vlow : ∀ k', (Value.slice A (3 * k) c).ownBlock = some k' → k' < wr.drew.heap.size := fun k' h => M.out.ow.lt h
             rcases hx with rfl | rfl | rfl
             · refine ⟨N1.out.kept0 K5.out, fun _ k' hk' => ?_⟩
               replace hk' : (Value.slice A1 (be8 p2.length).length c1).ownBlock = some k' := hk'
               rcases F1.out with e | ⟨g, e, hg⟩
               · rw [e] at hk'; cases hk'
               · rw [e] at hk'; cases hk'
                 exact ⟨fun hm => by have := low _ hm; omega, fun h => by have := vlow _ h; omega⟩
             · refine ⟨R3.out.kept0 KX.out, fun _ k' hk' => ?_⟩
               have : k' = g2 := by simpa [Value.ownBlock] using hk'.symm
               subst this
               have := L2.out
               have := K1.out.size
               exact ⟨fun hm => by have := low _ hm; omega, fun h => by have := vlow _ h; omega⟩
             · refine ⟨R2.out.kept0 (K1.out.then0 K5.out), fun hn k' hk' => ⟨F2.out hn k' hk', fun h => ?_⟩⟩
               have h1 := hlow.out hn k' hk'
               have h2 := M.out.new k' h
               omega))
           clear o6 k6 f6 M M5))
      refine ⟨rfl, BLz.out, Txt.segs_cons ?_⟩
      go_wp2_with fail
      refine ⟨rfl, BLz.out, Txt.segs_nil ⟨⟨by kernel_rfl, ?_⟩, ?_⟩⟩
      · intro j hj o ho hw
        obtain rfl : j = 8 := by simpa using hj
        cases ho
        exact ⟨_, rfl, fun u hu => ex_cell (.tmp 36) rfl flatSl rfl (cell1 u _ hu)⟩
      go_wp2_with fail
      go_roundg (bs.length - (k + 1))
      case measure => omega
      case rel =>
        refine ⟨k + 1, A', c', _, by omega, by omega, by go_num, rfl, Lib.hid ?_, Lib.hid ?_, M6⟩
        · rw [List.length_append, hpn.out]; simp; omega
        · have hl2 : k < (bs.map (·.2)).length := by rw [List.length_map]; omega
          rw [encs_succ _ _ _ hl2, ← hj.out, show (bs.map (·.2))[k] = p2 from by rw [List.getElem_map, hpk2.out]]
          simp [Dk.joined, encR]
    · obtain rfl : k = bs.length := by omega
      have hjl : (Dk.joined ps).length = rsz (bs.map (·.2)) := by
        rw [hj.out, List.take_of_length_le (by rw [List.length_map]; omega), encs_len]
      have htot := Lib.hid (show Dk.total ps = rsz (bs.map (·.2)) from by rw [← Dk.joined_length, hjl])
      clear hjl
      have lowS : ∀ k ∈ b :: dv.ownBlock.toList, k ∈ wlS b l dv (.slice Ar rs.length cr) := fun k hk => by
        simp only [wlS, List.mem_cons, List.mem_append] at hk ⊢
        rcases hk with hk | hk
        · exact .inl hk
        · exact .inr (.inr (.inl hk))
      have PP := Lib.hid (M.out.parts lowS (fun k hk => hlt.out k (lowS k hk)))
      have W1 := Lib.hid (W.out.kept0 M.out.k)
      have K1 := Lib.hid M.out.k
      have capp := Lib.hid (fun u (h : Dk.DiskIs u b size safe dv xs) (h2 : Dk.Parts u (b :: dv.ownBlock.toList) (.slice A (3 * bs.length) c) ps) => Dk.append_full b size safe dv _ xs ps _ u h h2 hxs (by omega) (by have := hpn.out; omega) (by rw [htot.out]; omega))
      have c0 : wr.cell? ⟨l, 0, none⟩ = some (.pointer (some ⟨b, 0, none⟩)) := by rw [W1.out.lg.blk.cell]; rfl
      clear M lowS
      go_wp2_with (first
        | (go_at_call 9; (with_reducible refine (capp.out _ W1.out.disk PP.out).mono ?_); rintro e w2 ⟨rfl, k2⟩
           replace W1 := Lib.hid (W1.out.kept0 k2)
           replace K1 := Lib.hid (K1.out.then0 k2)
           have q2 := W1.out.lg.blk.frozen 2
           have q3 : w2.cell? ⟨l, 2, none⟩ = some (.bool false) := by rw [W1.out.lg.blk.cell]; rfl
           clear k2 c0))
      go_ret
      have hk : Kept [l] w2 (w2.setCell ⟨l, 2, none⟩ (.bool true)) := (Kept.refl [l] w2).setCell (.inl (List.mem_singleton.2 rfl)) _
      have nb : l ≠ b := fun e => W1.out.disk.blk.ne_ W1.out.lg.blk (by decide) e.symm
      refine ⟨rfl, ⟨W1.out.disk.kept hk (by simpa using Ne.symm nb) (fun k hk1 hm => (Ow.of_own W1.out.disk.own).blk_ne W1.out.lg.blk (by decide) (by rw [hk1, List.mem_singleton.1 hm])), ⟨by simpa using W1.out.lg.blk.set_ 2 (.bool true), W1.out.lg.own.kept hk (fun k hk1 hm => W1.out.lg.own.blk_ne W1.out.lg.blk (by decide) (by rw [hk1, List.mem_singleton.1 hm])), fun x hx => (W1.out.lg.inner x hx).kept hk (fun k hk1 hm => (W1.out.lg.inner x hx).blk_ne W1.out.lg.blk (by decide) (by rw [hk1, List.mem_singleton.1 hm]))⟩, W1.out.sep, W1.out.lb, W1.out.ld, W1.out.n, Kept.fresh W1.out.k hk (fun k hm => by rw [List.mem_singleton.1 hm]; exact W1.out.n.ll)⟩, (K1.out.of0).trans' hk⟩
/-- A log that is down. -/
theorem write_down (w : World) (b l : Nat) (rv pv : Value) (rs : List (Value × List UInt8)) (h : LgIs w b l rv rs true) :
    Calls Try.prog 16 #[.pointer (some ⟨l, 0, none⟩), pv] w fun e w' => e = .returned (.int .i64 150) ∧ w = w' := by
  have q2 : w.cell? ⟨l, 2, none⟩ = some (.bool true) := by rw [h.blk.cell]; rfl
  clear h
  go_enter Try.func16, Try.ntmps16
  go_wp2_with fail
  go_ret
  exact ⟨rfl, rfl⟩
/-- No log. -/
theorem write_nil (pv : Value) (w : World) : Calls Try.prog 16 #[.pointer none, pv] w fun e w' => e = .returned (.int .i64 1) ∧ w = w' := by
  go_enter Try.func16, Try.ntmps16
  go_wp2_with fail
  go_ret
  exact ⟨rfl, rfl⟩
theorem rows_nil (w : World) : Calls Try.prog 13 #[.pointer none] w fun e w' => e = .returned (.slice none 0 0) ∧ w = w' := by
  go_enter Try.func13, Try.ntmps13
  go_wp2_with fail
  go_ret
  exact ⟨rfl, rfl⟩
theorem len_nil (w : World) : Calls Try.prog 19 #[.pointer none] w fun e w' => e = .returned (.int .i64 0) ∧ w = w' := by
  go_enter Try.func19, Try.ntmps19
  go_wp2_with fail
  go_ret
  exact ⟨rfl, rfl⟩
theorem down_nil (w : World) : Calls Try.prog 15 #[.pointer none] w fun e w' => e = .returned (.bool true) ∧ w = w' := by
  go_enter Try.func15, Try.ntmps15
  go_wp2_with fail
  go_ret
  exact ⟨rfl, rfl⟩
theorem open_nil (w : World) : Calls Try.prog 10 #[.pointer none] w fun e w' => e = .returned (.tuple #[.pointer none, .int .i64 1]) ∧ w = w' := by
  go_enter Try.func10, Try.ntmps10
  go_wp2_with fail
  go_ret2
  exact ⟨rfl, rfl⟩
end Go.Proofs.Ytjdfnhfankcodaa
