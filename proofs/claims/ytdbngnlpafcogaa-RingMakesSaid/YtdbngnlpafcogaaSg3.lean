/-
  The sign: a seed's public key.
-/
import Derived.Test.YtdbngnlpafcogaaSg2
import Derived.Test.YtdbngnlpafcogaaLw1
namespace Go.Proofs.Ytdbngnlpafcogaa
open Go.RowKit Go.Mem Go.Txt

/-- A seed's number, and its point's bytes. -/
def numS (bs : List UInt8) : List UInt8 := clampB (Q.sha bs)
def encS (l : List UInt8) : List UInt8 := le (enc (Ed.Pt.mul (leV l) BB)) 32
theorem numS_len (bs : List UInt8) : (numS bs).length = 32 := clamp_len _ (by rw [Q.sha_len]; decide)
theorem encS_len (l : List UInt8) : (encS l).length = 32 := le_len _ _
/-- The contracts of Base, Mul, Hash, one after the other. -/
theorem pub_e {l : List UInt8} (hl : l.length = 32) : ∃ b r, BsC b ∧ MsC b l r ∧ HsC r (encS l) := by
  obtain ⟨b, cb, hb⟩ := base_e
  obtain ⟨r, cr, hr⟩ := mul_s hb hl
  exact ⟨b, r, cb, cr, hash_s hr rfl⟩
set_option maxRecDepth 100000 in
set_option maxHeartbeats 1600000 in
theorem public_any (bs : List UInt8) (hl : bs.length = 32) (w : World) : Calls Try.prog 11 #[ab bs] w fun e w' => e = .returned (ab (encS (numS bs))) ∧ Kept [] w w' := by
  have cse := Lib.hid (fun u => secret_any bs hl u)
  have hn := Lib.hid (numS_len bs)
  obtain ⟨b, r, cb, cr, ch⟩ := pub_e (numS_len bs)
  have he := Lib.hid (encS_len (numS bs))
  have hd : clampB (Q.sha bs) = numS bs := rfl
  rw [hd] at cse
  generalize encS (numS bs) = E at *
  generalize numS bs = n at *
  generalize Q.sha bs = s at *
  have cb := Lib.hid cb
  have cr := Lib.hid cr
  have ch := Lib.hid ch
  have hl := Lib.hid hl
  clear hd
  go_enter Try.func11, Try.ntmps11
  go_wp2_with (first
    | ((with_reducible refine wpl_at 1 ?_); (refine wpl_box (o := ⟨some 1, _, _, _, _, _⟩) (v := ab bs) rfl (.tmp 0) rfl rfl ?_); intro g1 w1 m1; have M1 := Lib.hid m1; clear m1)
    | ((with_reducible refine wpl_at 2 ?_); (refine wpl_new (o := ⟨some 2, _, _, _, _, _⟩) rfl rfl zeroB ?_); intro g2 w2 m2; have M2 := Lib.hid m2; clear m2)
    | ((with_reducible refine wpl_at 6 ?_); refine wpl_load_row (cs := (bv bs).toArray) (o := ⟨some 6, _, _, _, _, _⟩) arrB.row rfl (.tmp 1) rfl rfl (M1.out.blk.kept M2.out.kept (by simp)) (by simpa using hl.out) ?_)
    | (go_at_call 35; (with_reducible refine (cse.out _).mono ?_); rintro e w7 ⟨g, rfl, r7, k7, l7⟩
       have B2 := Lib.hid (M2.out.blk.kept k7 (by simp))
       have L2 := Lib.hid (Nat.le_trans M1.out.kept.size M2.out.le)
       have K7 := Lib.hid ((M1.out.kept.then0 M2.out.kept).then0 k7)
       clear r7 k7 l7)
    | ((with_reducible refine wpl_at 3 ?_); (refine wpl_new (o := ⟨some 3, _, _, _, _, _⟩) rfl rfl zeroB ?_); intro g3 w3 m3
       refine wpl_store_row (cs := (bv n).toArray) (o := ⟨none, Op.store 26 (.tmp 3) (.tmp 8), _, _, _, _⟩) arrB.row rfl (.tmp 3) (.tmp 8) rfl rfl rfl m3.blk (by rfl) (by simpa using hn.out) (one_ab _) ?_
       intro wb b3 k3
       have kk := m3.kept.then1 k3 m3.le
       have B3 := Lib.hid b3
       have N23 := Lib.hid (m3.ne B2.out.lt).symm
       replace B2 := Lib.hid (B2.out.kept kk (by simp))
       replace K7 := Lib.hid (K7.out.then0 kk)
       clear m3 b3 k3 kk))
  clear cse M1 M2
  refine Txt.wp_textG [1] (fun u => Blk u g3 26 (bv n).toArray) _ (by kernel_rfl) (by kernel_rfl) rfl B3.out.drew (Txt.segs_cons ?_)
  go_wp2_with (go_at_call 36; (with_reducible refine (cb.out _).mono ?_); rintro e wc ⟨rfl, kc⟩)
  have KC := Lib.hid kc.from_drew
  have B3c := Lib.hid (B3.out.kept KC.out (by simp))
  clear kc
  refine ⟨rfl, B3c.out, Txt.segs_cons ?_⟩
  go_wp2_with (first
    | refine wpl_load_row (o := ⟨some 11, _, _, _, _, _⟩) arrB.row rfl (.tmp 3) rfl rfl B3c.out (by simpa using hn.out) ?_
    | (go_at_call 37; (with_reducible refine (cr.out _).mono ?_); rintro e wd ⟨rfl, kd⟩))
  have B3d := Lib.hid (B3c.out.kept kd (by simp))
  refine ⟨rfl, B3d.out, Txt.segs_cons ?_⟩
  go_wp2_with (go_at_call 38; (with_reducible refine (ch.out _).mono ?_); rintro e we ⟨rfl, ke⟩)
  have B3e := Lib.hid (B3d.out.kept ke (by simp))
  have B2e := Lib.hid (((B2.out.kept KC.out (by simp)).kept kd (by simp)).kept ke (by simp))
  have n23 := Lib.hid (show g3 ≠ g2 from N23.out)
  refine ⟨rfl, B3e.out, Txt.segs_cons ?_⟩
  go_wp2_with ((refine wpl_store_row (cs := (bv E).toArray) (o := ⟨none, Op.store 26 (.tmp 2) (.tmp 13), _, _, _, _⟩) arrB.row rfl (.tmp 2) (.tmp 13) rfl rfl rfl B2e.out (by rfl) (by simpa using he.out) (one_ab _) ?_); intro wf bf kf)
  have B3f := Lib.hid (B3e.out.kept kf (by simpa using n23.out))
  refine ⟨rfl, B3f.out, Txt.segs_cons ?_⟩
  refine ⟨rfl, B3f.out, Txt.segs_nil ⟨⟨by kernel_rfl, ?_⟩, ?_⟩⟩
  · intro j hj o ho hw
    have hj2 : j = 1 := by simpa using hj
    rcases hj2 with rfl; cases ho
    exact ⟨11, rfl, fun u hu => exec_load arrB.row (.tmp 3) rfl rfl hu (by simpa using hn.out)⟩
  have K9 := Lib.hid ((((K7.out.then0 KC.out).then0 kd).then0 ke).then1 kf L2.out)
  clear B3 B3c B3d B3e B3f B2e B2 kd ke kf KC K7
  go_wp2_with fail
  exact ret_row arrB.row rfl rfl bf (by simpa using he.out) rfl ⟨rfl, K9.out⟩
end Go.Proofs.Ytdbngnlpafcogaa
