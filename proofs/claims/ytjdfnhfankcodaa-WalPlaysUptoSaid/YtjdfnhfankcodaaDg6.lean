/-
  The log: the document's row.
-/
import Derived.Test.YtjdfnhfankcodaaDg5
import Derived.Test.YtjdfnhfankcodaaRn1
import Derived.Test.YtjdfnhfankcodaaWl4
namespace Go.Proofs.Ytjdfnhfankcodaa
open Go.RowKit Go.Mem Go.Txt

set_option maxHeartbeats 1600000 in
theorem rrow_any (i : Nat) (b : Value) (body : List UInt8) (w : World) (hr : Rd w 1 b body.length (bv body)) (hb : body.length ≤ 999999999000) (hi : i ≤ 9223372036854775807) :
    Calls Try.prog 21 #[.int .i64 i, b] w fun e w' => ∃ v, e = .returned v ∧ New w w' v (encR i body) := by
  have cn := Lib.hid (fun u => rnumber_any i u (by omega))
  have cl := Lib.hid (fun u => rnumber_any body.length u (by omega))
  have R := Lib.hid hr
  have cs := Lib.hid sumR_any
  obtain ⟨A, c, rfl, _, hc, _⟩ := hr
  go_enter Try.func21, Try.ntmps21
  go_wp2_with (first
    | ((with_reducible refine wpl_at 7 ?_); (refine wpl_bslice1 (o := ⟨some 7, _, _, _, _, _⟩) (v0 := .int .u8 6) (cells := (bv [6]).toArray) rfl bytesT rfl rfl (by decide) rfl rfl ?_); intro g6 w6 m6
       have b6 := Lib.hid (show Rd w6 1 (.slice (some ⟨g6, 0, none⟩) 1 1) 1 (bv [6]) from ⟨_, _, rfl, rfl, by omega, fun _ => ⟨g6, 0, rfl, fun j u hu => by rw [m6.blk.cell]; simpa using hu⟩⟩)
       have K := Lib.hid m6.kept
       clear m6)
    | (go_at_call 33; (with_reducible refine (cn.out _).mono ?_); rintro e w9 ⟨v9, rfl, n9⟩
       obtain ⟨A9, c9, rfl, _⟩ := n9.ow.shape
       have N9 := Lib.hid (show New w6 w9 (.slice A9 (be8 i).length c9) (be8 i) from n9)
       replace K := Lib.hid (K.out.then0 n9.kept)
       clear n9 cn)
    | ((with_reducible refine wpl_at 12 ?_); (refine wpl_bslice3 (o := ⟨some 12, _, _, _, _, _⟩) (v0 := .slice (some ⟨g6, 0, none⟩) 1 1) (v1 := .slice A9 (be8 i).length c9) (v2 := .slice A body.length c) rfl slicesT rfl rfl rfl rfl rfl rfl rfl ?_); intro g11 w11 m11
       have P := Lib.hid (parts3 (x0 := [6]) (x1 := be8 i) (x2 := body) m11.blk (b6.out.kept0 (N9.out.kept.then0 m11.kept)) ((Rd.of_ow N9.out.ow).kept0 m11.kept) (R.out.kept0 (K.out.then0 m11.kept)))
       replace K := Lib.hid (K.out.then0 m11.kept)
       clear m11 b6 N9)
    | (go_at_call 32; (with_reducible refine (cs.out _ _ _ P.out (by simp) (by simp only [joined, bytesOf, List.map_cons, List.map_nil, List.flatten_cons, List.flatten_nil, List.length_append, List.length_cons, List.length_nil, be8_len]; omega)).mono ?_); rintro e w12 ⟨rfl, kk⟩
       replace K := Lib.hid (K.out.then0 kk)
       clear kk P)
    | ((with_reducible refine wpl_new (o := ⟨some 5, _, _, _, _, _⟩) rfl rfl hash_z ?_); intro g5 w5 m5
       refine wpl_store_row (o := ⟨none, Op.store 66 (.tmp 5) (.tmp 13), _, _, _, _⟩) hashR rfl (.tmp 5) (.tmp 13) rfl rfl rfl m5.blk (by rfl) (by simp [sha_len]) (one_ab _) ?_
       intro wb bb kb
       have BB := Lib.hid (show Rd wb 1 (.slice (some ⟨g5, 0, none⟩) 8 32) 8 (bv (rsum i body)) from ⟨_, _, rfl, by simp [rsum_len], by decide, fun _ => ⟨g5, 0, rfl, fun j u hu => by
         rw [bb.cell, Nat.zero_add]
         unfold rsum at hu
         rw [bv, List.map_take, List.getElem?_take] at hu
         split at hu
         · simpa [joined] using hu
         · cases hu⟩⟩)
       replace K := Lib.hid (K.out.then0 (m5.kept.then1 kb m5.le))
       clear m5 bb kb))
  replace BB := Lib.hid BB.out.drew
  replace K := Lib.hid K.out.drew
  refine Txt.wp_textG [] (fun _ => True) [[_, _, _, _], [_, _], [_]] (by kernel_rfl) (by kernel_rfl) rfl trivial (Txt.segs_cons ?_)
  go_wp2_with (go_at_call 33; (with_reducible refine (cl.out _).mono ?_); rintro e w9 ⟨v9, rfl, n9⟩
               obtain ⟨A9, c9, rfl, _⟩ := n9.ow.shape
               have N9 := Lib.hid (((New.nil w).then0 K.out).next n9)
               replace BB := Lib.hid (BB.out.kept0 n9.kept)
               clear n9 cl K)
  have h8 := be8_len body.length
  have hrs := rsum_len i body
  refine ⟨rfl, trivial, Txt.segs_cons ?_⟩
  go_wp2_with (at_builtin; refine wpl_app bytesT rfl (.tmp 17) (.tmp 18) rfl rfl N9.out.ow rfl BB.out (one_bv _) (by omega) (by omega) ?_
               intro v' wq ho hk hb2
               obtain ⟨A10, c10, rfl, _⟩ := ho.shape
               have H1 := Lib.hid (show New w wq (.slice A10 ((be8 body.length).length + 8) c10) (be8 body.length ++ rsum i body) from N9.out.step (by rw [List.length_append, hrs]; simpa [bv] using ho) hk N9.out.old (by
                 rcases hb2 with h | h
                 · exact .inl h
                 · exact .inr ⟨_, h, N9.out.kept.size⟩))
               have RR := Lib.hid (R.out.kept0 H1.out.kept)
               clear ho hk hb2 N9 BB)
  refine ⟨rfl, trivial, Txt.segs_cons ?_⟩
  go_wp2_with fail
  refine ⟨rfl, trivial, Txt.segs_nil ⟨⟨by kernel_rfl, fun j hj => absurd hj (by simp)⟩, ?_⟩⟩
  have hl : (be8 body.length ++ rsum i body).length = (be8 body.length).length + 8 := by rw [List.length_append, hrs]
  go_wp2_with (at_builtin; refine wpl_app (n := (be8 body.length).length + 8) bytesT rfl (.tmp 20) (.tmp 21) rfl rfl (by have := H1.out.ow; rw [hl] at this; exact this) rfl RR.out (one_bv _) (by omega) (by omega) ?_
               intro v' wz ho hk hb2
               have H2 := Lib.hid (show New w wz v' (encR i body) from by
                 have e : encR i body = (be8 body.length ++ rsum i body) ++ body := by unfold encR; rw [List.append_assoc]
                 rw [e]
                 exact H1.out.step (by rw [List.length_append, hl]; simpa [bv] using ho) hk H1.out.old (by
                   rcases hb2 with h | h
                   · exact .inl h
                   · exact .inr ⟨_, h, H1.out.kept.size⟩))
               clear ho hk hb2)
  go_ret
  exact ⟨_, rfl, H2.out⟩
end Go.Proofs.Ytjdfnhfankcodaa
