/-
  The sign: a seed's public key.
-/
import Derived.Test.YtdbngnlpafcogaaGreatZmSg2
import Derived.Test.YtdbngnlpafcogaaGreatZmRf8
set_option maxRecDepth 100000
namespace Go.Proofs.YtdbngnlpafcogaaGreat
open Go.RowKit Go.Mem Go.Txt
def a7q(bs:List UInt8):List UInt8:=a2u (Q.sha bs)
def b3b(l:List UInt8):List UInt8:=le (enc (Ed.Pt.mul (leV l) BB)) 32
theorem a5w(bs:List UInt8):(a7q bs).length=32:=b0m _ (by rw [Q.a6g];decide)
theorem a5i(l:List UInt8):(b3b l).length=32:=a0o _ _
theorem e2s{l:List UInt8}(hl:l.length=32):∃b r,BsC b∧MsC b l r∧HsC r (b3b l):=by
 obtain⟨b,cb,hb⟩:=base_e
 obtain⟨r,cr,hr⟩:=mul_s hb hl
 exact⟨b,r,cb,cr,e1m hr rfl⟩
set_option maxHeartbeats 1600000 in
theorem b6n(bs:List UInt8)(hl:bs.length=32)(w:World):Calls Tryz.prog 9 #[ab bs] w fun e w'=>e= .returned (ab (b3b (a7q bs)))∧Kept [] w w':=by
 have cse:=hjd (fun u=>b5r bs hl u)
 have hn:=hjd (a5w bs)
 obtain⟨b,r,cb,cr,ch⟩:=e2s (a5w bs)
 have he:=hjd (a5i (a7q bs))
 have hd:a2u (Q.sha bs)=a7q bs:=rfl
 rw [hd]at cse
 generalize b3b (a7q bs)=E at *
 generalize a7q bs=n at *
 generalize Q.sha bs=s at *
 have cb:=hjd cb
 have cr:=hjd cr
 have ch:=hjd ch
 have hl:=hjd hl
 clear hd
 go_enter Tryz.func9,Tryz.ntmps9
 go_wp2_with (first
  | ((with_reducible refine a0q 1 ?_);(refine a0m (o:=⟨some 1,_,_,_,_,_⟩) (v:=ab bs) rfl (.tmp 0) rfl rfl ?_);intro g1 w1 m1;have M1:=hjd m1;clear m1)
  | ((with_reducible refine a0q 2 ?_);(refine a0f (o:=⟨some 2,_,_,_,_,_⟩) rfl rfl a3h ?_);intro g2 w2 m2;have M2:=hjd m2;clear m2)
  | ((with_reducible refine a0q 6 ?_);refine a0a (cs:=(bv bs).toArray) (o:=⟨some 6,_,_,_,_,_⟩) a1u.row rfl (.tmp 1) rfl rfl (M1.out.blk.kept M2.out.kept (by simp)) (by simpa using hl.out) ?_)
  | (go_at_call 30;(with_reducible refine(cse.out _).mono ?_);rintro e w7 ⟨g,rfl,r7,k7,l7⟩
     have B2:=hjd (M2.out.blk.kept k7 (by simp))
     have L2:=hjd (Nat.le_trans M1.out.kept.size M2.out.le)
     have K7:=hjd ((M1.out.kept.a0i M2.out.kept).a0i k7)
     clear r7 k7 l7)
  | ((with_reducible refine a0q 3 ?_);(refine a0f (o:=⟨some 3,_,_,_,_,_⟩) rfl rfl a3h ?_);intro g3 w3 m3
     refine a0b (cs:=(bv n).toArray) (o:=⟨none,Op.store 22 (.tmp 3) (.tmp 8),_,_,_,_⟩) a1u.row rfl (.tmp 3) (.tmp 8) rfl rfl rfl m3.blk (by rfl) (by simpa using hn.out) (a2a _) ?_
     intro wb b3 k3
     have kk:=m3.kept.a0n k3 m3.le
     have B3:=hjd b3
     have N23:=hjd (m3.ne B2.out.lt).symm
     replace B2:=hjd (B2.out.kept kk (by simp))
     replace K7:=hjd (K7.out.a0i kk)
     clear m3 b3 k3 kk))
 clear cse M1 M2
 refine Txt.a1y [1] (fun u=>Blk u g3 22 (bv n).toArray) _ (by kernel_rfl) (by kernel_rfl) rfl B3.out.drew (Txt.a0h ?_)
 go_wp2_with (go_at_call 31;(with_reducible refine(cb.out _).mono ?_);rintro e wc ⟨rfl,kc⟩)
 have KC:=hjd kc.a1v
 have B3c:=hjd (B3.out.kept KC.out (by simp))
 clear kc
 refine⟨rfl,B3c.out,Txt.a0h ?_⟩
 go_wp2_with (first
  | refine a0a (o:=⟨some 11,_,_,_,_,_⟩) a1u.row rfl (.tmp 3) rfl rfl B3c.out (by simpa using hn.out) ?_
  | (go_at_call 32;(with_reducible refine(cr.out _).mono ?_);rintro e wd ⟨rfl,kd⟩))
 have B3d:=hjd (B3c.out.kept kd (by simp))
 refine⟨rfl,B3d.out,Txt.a0h ?_⟩
 go_wp2_with (go_at_call 33;(with_reducible refine(ch.out _).mono ?_);rintro e we ⟨rfl,ke⟩)
 have B3e:=hjd (B3d.out.kept ke (by simp))
 have B2e:=hjd (((B2.out.kept KC.out (by simp)).kept kd (by simp)).kept ke (by simp))
 have n23:=hjd (show g3≠g2 from N23.out)
 refine⟨rfl,B3e.out,Txt.a0h ?_⟩
 go_wp2_with ((refine a0b (cs:=(bv E).toArray) (o:=⟨none,Op.store 22 (.tmp 2) (.tmp 13),_,_,_,_⟩) a1u.row rfl (.tmp 2) (.tmp 13) rfl rfl rfl B2e.out (by rfl) (by simpa using he.out) (a2a _) ?_);intro wf bf kf)
 have B3f:=hjd (B3e.out.kept kf (by simpa using n23.out))
 refine⟨rfl,B3f.out,Txt.a0h ?_⟩
 refine⟨rfl,B3f.out,Txt.a1l ⟨⟨by kernel_rfl,?_⟩,?_⟩⟩
 ·intro j hj o ho hw
  have hj2:j=1:=by simpa using hj
  rcases hj2 with rfl;cases ho
  exact⟨11,rfl,fun u hu=>a0r a1u.row (.tmp 3) rfl rfl hu (by simpa using hn.out)⟩
 have K9:=hjd ((((K7.out.a0i KC.out).a0i kd).a0i ke).a0n kf L2.out)
 clear B3 B3c B3d B3e B3f B2e B2 kd ke kf KC K7
 go_wp2_with fail
 exact a0y a1u.row rfl rfl bf (by simpa using he.out) rfl ⟨rfl,K9.out⟩
end Go.Proofs.YtdbngnlpafcogaaGreat
