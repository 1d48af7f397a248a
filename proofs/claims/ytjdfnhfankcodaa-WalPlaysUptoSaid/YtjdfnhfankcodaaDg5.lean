/-
  The document's digests: Sum of parts (32 bits).
-/
import Derived.Test.YtjdfnhfankcodaaDg4
namespace Go.Proofs.Ytjdfnhfankcodaa
open Go.RowKit Go.Mem Go.Txt

set_option maxHeartbeats 1600000 in
theorem sumR_any (pv : Value) (ps : List (Value × List UInt8)) (w : World) (hp : Parts w pv ps) (hn : ps.length ≤ 9223372036854775807) (hl : (joined ps).length ≤ 1000000000000) :
    Calls Try.prog 32 #[pv] w fun e w' => e = .returned (ab (sha (joined ps))) ∧ Kept [] w w' := by
  have hP := Lib.hid hp
  have hL := Lib.hid hl
  obtain ⟨PA, pc, rfl, _, _, _⟩ := hp.outer
  clear hp hl
  go_enter Try.func32, Try.ntmps32
  go_wp2_with (first
    | ((with_reducible refine wpl_new (o := ⟨some 2, _, _, _, _, _⟩) rfl rfl hash_z ?_); intro g2 w2 m2
       replace hP := Lib.hid (hP.out.kept0 m2.kept)
       have K2 := Lib.hid m2.kept
       have B2 := Lib.hid (show Blk w2 g2 66 (bv (noughts 32)).toArray from m2.blk)
       have l2 := Lib.hid m2.le
       clear m2))
  have N0 := Lib.hid (New.nil w2)
  go_loopg [3, 11] ps.length (fun fu r i wk => ∃ k : Nat, k ≤ ps.length ∧ fu + k = ps.length ∧ i = .int .i64 k ∧ Hid (New w2 wk r (joined (ps.take k))))
  case atStart => exact ⟨0, Nat.zero_le _, by omega, rfl, by simpa [joined] using N0⟩
  case round =>
    clear N0
    obtain ⟨k, hk, hfu, rfl, N0⟩ := hrel
    by_cases hlt : k < ps.length
    · have hPk := hP.out.kept0 N0.out.kept
      obtain ⟨pb, po, pc2, heq, _, hcell⟩ := hPk.outer.at_ (by omega)
      cases heq
      have hin := hPk.inner ps[k] (List.getElem_mem _)
      have hcl := hcell k ps[k].1 (by simp [hlt])
      have hle := joined_le ps (k + 1)
      have hj := joined_succ ps k hlt
      rw [hj, List.length_append] at hle
      generalize hpk : ps[k] = x at *
      obtain ⟨p1, p2⟩ := x
      dsimp only at hin hcl hle hj
      have hin2 := Lib.hid hin
      obtain ⟨B, bc, rfl, _, _, _⟩ := hin
      have hsz2 := Lib.hid (show (joined (ps.take k)).length + p2.length ≤ 1000000000000 from by have := hL.out; omega)
      have hj2 := Lib.hid hj
      obtain ⟨OA, oc, rfl, _⟩ := N0.out.ow.shape
      clear hcell hj hPk hle
      go_wp2_with (at_builtin; refine wpl_app bytesT rfl (.tmp 15) (.tmp 16) rfl rfl N0.out.ow rfl hin2.out (one_bv _) ?_ ?_ ?_)
      case refine_1 => have := hsz2.out; omega
      case refine_2 => have := hsz2.out; omega
      intro v' w3 hown hk2 hb2
      have hn5 := Lib.hid (show New w2 w3 v' (joined (ps.take (k + 1))) from N0.out.step (by rw [hj2.out, List.length_append]; simpa [bv] using hown) hk2 N0.out.old (by
        rcases hb2 with h | h
        · exact .inl h
        · exact .inr ⟨_, h, N0.out.kept.size⟩))
      clear hown hk2 hb2
      go_wp2_with fail
      go_roundg (ps.length - (k + 1))
      case measure => omega
      case rel => exact ⟨k + 1, by omega, by omega, by go_num, hn5⟩
    · obtain rfl : k = ps.length := by omega
      rw [List.take_length] at N0
      have dg := Lib.hid (fun (u : World) (v : Value) (h : Rd u 1 v (joined ps).length (bv (joined ps))) => digest_any v (joined ps) u h hL.out)
      have hlen := sha_len (joined ps)
      obtain ⟨OA, oc, rfl, _⟩ := N0.out.ow.shape
      generalize hm : joined ps = m at *
      replace hm := Lib.hid hm
      generalize hsha : sha m = s at *
      replace hsha := Lib.hid hsha
      clear hP hL
      go_wp2_with (first
        | ((with_reducible refine wpl_new (o := ⟨some 6, _, _, _, _, _⟩) rfl rfl hash_z ?_); intro g6 w6 m6
           have l6 := Lib.hid (Nat.le_trans N0.out.kept.size m6.le)
           have n6 := Lib.hid (show g2 ≠ g6 from fun e => by have := B2.out.lt; have := N0.out.kept.size; have := m6.le; omega)
           replace N0 := Lib.hid (N0.out.then0 m6.kept)
           have B6 := Lib.hid (show Blk w6 g6 66 ((fam 32 (mix (fun _ => 0) (fun i => s.getD i 0) 0)).map byteV).toArray from by
             rw [mix_zero]; exact m6.blk)
           have t6 := Lib.hid B6.out.lt
           clear m6)
        | (go_at_call 38; (with_reducible refine (dg.out _ _ (Rd.of_ow N0.out.ow)).mono ?_); rintro e w7 ⟨v7, rfl, h7⟩
           obtain ⟨A7, c7, rfl, _⟩ := h7.ow.shape
           rw [hlen]
           have R7 := Lib.hid (Rd.of_ow h7.ow)
           have r7 := Lib.hid h7.near
           replace N0 := Lib.hid (N0.out.then0 h7.kept)
           replace B6 := Lib.hid (B6.out.kept h7.kept (by simp))
           clear h7 dg))
      obtain ⟨b7, o7, c8, heq7, _, hc7⟩ := R7.out.at_ (by rw [hlen]; decide)
      have hA7 : A7 = some ⟨b7, o7, none⟩ := by injection heq7
      subst hA7
      have nb7 := Lib.hid (show b7 ≠ g6 from fun e => by
        rcases r7.out with h | ⟨g, h, hg⟩
        · cases h
        · have h9 : b7 = g := by simpa [Value.ownBlock] using h
          have := t6.out
          omega)
      have HC := Lib.hid (show ∀ j, j < 32 → w7.cell? ⟨b7, o7 + j, none⟩ = some (byteV (s.getD j 0)) from fun j hj => hc7 j _ (by
        have hj' : j < s.length := by omega
        simp [List.getD_eq_getElem?_getD, hj']))
      have K := Lib.hid N0.out.kept
      clear hc7 heq7 R7 r7 t6 N0
      go_loopg [22] 32 (fun fu i wk => ∃ k : Nat, k ≤ 32 ∧ fu + k = 32 ∧ i = .int .i64 (k : Int) ∧ Hid (Blk wk g6 66 ((fam 32 (mix (fun _ => 0) (fun i => s.getD i 0) k)).map byteV).toArray) ∧ Hid (Kept [] w2 wk) ∧ Hid (∀ j, j < 32 → wk.cell? ⟨b7, o7 + j, none⟩ = some (byteV (s.getD j 0))))
      case atStart => exact ⟨0, by omega, by omega, rfl, B6, K, HC⟩
      case round =>
        clear B6 K HC
        obtain ⟨k, hk2, hfu2, rfl, B6, K, HC⟩ := hrel
        by_cases hlt2 : k < 32
        · have q7 := HC.out k hlt2
          unfold byteV at q7
          have f6 := B6.out.frozen k
          obtain ⟨y6, q6⟩ : ∃ y, wr.cell? ⟨g6, k, none⟩ = some y := ⟨_, B6.out.fget k hlt2⟩
          have s6 := Lib.hid (show Blk (wr.setCell ⟨g6, k, none⟩ (.int .u8 ((s.getD k 0).toNat : Int))) g6 66 _ from B6.out.fstep)
          have ks := Lib.hid (show Kept [] w2 (wr.setCell ⟨g6, k, none⟩ (.int .u8 ((s.getD k 0).toNat : Int))) from K.out.setCell (.inr l6.out) _)
          have hs := Lib.hid (show ∀ j, j < 32 → (wr.setCell ⟨g6, k, none⟩ (.int .u8 ((s.getD k 0).toNat : Int))).cell? ⟨b7, o7 + j, none⟩ = some (byteV (s.getD j 0)) from fun j hj => ((Kept.refl [g6] wr).setCell (p := ⟨g6, k, none⟩) (.inl (by simp)) _).cell (HC.out j hj) (by simpa using nb7.out))
          generalize ((s.getD k 0).toNat : Int) = z at *
          clear B6 K HC
          go_wp2_with fail
          go_roundg (32 - (k + 1))
          case measure => omega
          case rel => exact ⟨k + 1, by omega, by omega, by go_num, s6, ks, hs⟩
        · obtain rfl : k = 32 := by omega
          have b6 := Lib.hid (show Blk wr g6 66 (bv s).toArray from by
            have := B6.out
            rw [mix_full] at this
            have e : fam 32 (fun i => s.getD i 0) = s := by
              apply List.ext_getElem (by simp [fam, hlen])
              intro i h1 h2
              simp [fam, List.getD_eq_getElem?_getD, h2]
            rwa [e] at this)
          have b2 := Lib.hid (B2.out.kept K.out (by simp))
          clear B6 HC B2
          go_wp2_with (first
            | (with_reducible refine wpl_at 31 ?_; refine wpl_load_row (o := ⟨some 31, _, _, _, _, _⟩) hashR rfl (.tmp 6) rfl rfl b6.out (by simp [hlen]) ?_)
            | ((with_reducible refine wpl_sat (.tmp 2) (.tmp 31) ?_)
               refine wpl_store_row (cs := (bv s).toArray) (o := ⟨none, Op.store 66 (.tmp 2) (.tmp 31), _, _, _, _⟩) hashR rfl (.tmp 2) (.tmp 31) rfl rfl rfl b2.out (by simp) (by simp [hlen]) (one_ab _) ?_
               intro wb bb kb
               have BB := Lib.hid bb
               have KK := Lib.hid ((K2.out.then0 K.out).then1 kb l2.out)
               clear bb kb))
          exact ret_row hashR rfl rfl BB.out (by simp [hlen]) rfl ⟨by rw [hm.out, hsha.out], KK.out⟩
end Go.Proofs.Ytjdfnhfankcodaa
