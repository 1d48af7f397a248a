/-
  The document's sign: a seed's number.
-/
import Derived.Test.YtdbngnlpafcogaaGreatZmRs1
import Derived.Test.YtdbngnlpafcogaaGreatZmSg8
set_option maxRecDepth 100000
namespace Go.Proofs.YtdbngnlpafcogaaGreat
open Go.RowKit Go.Mem Go.Txt
theorem New.rd{w w':World}{v:Value}{l:List UInt8}(h:New w w' v l):Rd w' 1 v l.length (bv l):=Rd.b1o h.ow
theorem low_r(a:UInt8):((a.toNat:Int) - (a.toNat:Int) % 8) % 256=((b9z a).toNat:Int):=by
 have h:=UInt8.toNat_lt a
 unfold b9z
 rw [UInt8.toNat_ofNat_of_lt' (by show a.toNat - a.toNat % 8 < 256;omega)]
 omega
theorem top_r(a:UInt8):(a.toNat:Int) % 64 + 64=((b7c a).toNat:Int):=by
 have h:=UInt8.toNat_lt a
 unfold b7c
 rw [UInt8.toNat_ofNat_of_lt' (by show a.toNat % 64 + 64 < 256;omega)]
 omega
set_option maxHeartbeats 1600000 in
theorem c3w(bs:List UInt8)(hl:bs.length=32)(w:World):Calls Tryz.prog 43 #[ab bs] w fun e w'=>e= .returned (ab (a7q bs))∧Kept [] w w':=by
 have hs:=Q.a6g bs
 have cs:=hjd (fun(u:World) (pv v:Value) (h:Parts u pv [(v,bs)])=>(show Calls Tryz.prog 45 #[pv] u fun e w'=>∃v',e= .returned v'∧New u w' v' (Q.sha bs)from by
  have:=Q.c0g pv [(v,bs)] u h (by simp) (by rw [a4r];omega)
  rwa [a4r]at this))
 have hcl:=b0m (Q.sha bs) (by omega)
 have hpost:a7q bs=a2u (Q.sha bs):=rfl
 replace hpost:=hjd hpost
 generalize Q.sha bs=s at *
 have hl2:=hjd hl
 have hs2:=hjd hs
 replace hcl:=hjd hcl
 clear hl hs
 go_enter Tryz.func43,Tryz.ntmps43
 go_wp2_with (first
  | ((with_reducible refine a0q 1 ?_);(refine a0m (o:=⟨some 1,_,_,_,_,_⟩) (v:=ab bs) rfl (.tmp 0) rfl rfl ?_);intro g1 w1 m1;have M1:=hjd m1;clear m1)
  | ((with_reducible refine a0q 2 ?_);(refine a0f (o:=⟨some 2,_,_,_,_,_⟩) rfl rfl a3h ?_);intro g2 w2 m2;have M2:=hjd m2;clear m2)
  | ((with_reducible refine a0q 5 ?_);(refine a2b (o:=⟨some 5,_,_,_,_,_⟩) (v0:=.slice (some ⟨g1,0,none⟩) 32 32) (cells:=#[.slice (some ⟨g1,0,none⟩) 32 32]) rfl a3n rfl rfl (by simp) rfl rfl ?_);intro g7 w7 m7
     have P7:=hjd (c0w (x:=bs) m7.blk (by rw [hl2.out];exact Blk.rd ((M1.out.blk.kept M2.out.kept (by simp)).kept m7.kept (by simp)) (by simp [hl2.out]) (Nat.le_refl _)))
     have K7:=hjd ((M1.out.kept.a0i M2.out.kept).a0i m7.kept)
     have B2:=hjd (M2.out.blk.kept m7.kept (by simp))
     have L2:=hjd (Nat.le_trans M1.out.kept.size M2.out.le)
     clear m7 M1 M2)
  | (go_at_call 45;(with_reducible refine(cs.out _ _ _ P7.out).mono ?_);rintro e w8 ⟨v8,rfl,n8⟩
     replace B2:=hjd (B2.out.kept n8.kept (by simp))
     replace K7:=hjd (K7.out.a0i n8.kept)
     have R8:=hjd (by have:=New.rd n8;rwa [hs2.out]at this)
     clear n8 P7)
  | (go_at_call 55;(with_reducible refine(d6s _ s 0 0 rfl _ (by rw [hs2.out];exact R8.out) (by rw [hs2.out];decide) (by rw [hs2.out];decide)).mono ?_);rintro e w9 ⟨rfl,k9⟩
     rw [List.drop_zero]
     replace B2:=hjd (B2.out.kept k9 (by simp))
     replace K7:=hjd (K7.out.a0i k9)
     clear k9 R8)
  | ((with_reducible refine a0q 3 ?_);(refine a0f (o:=⟨some 3,_,_,_,_,_⟩) rfl rfl a3h ?_);intro g5 w5 m5
     refine a0b (cs:=(bv (s.take 32)).toArray) (o:=⟨none,Op.store 22 (.tmp 3) (.tmp 7),_,_,_,_⟩) a1u.row rfl (.tmp 3) (.tmp 7) rfl rfl rfl m5.blk (by rfl) (by simp [hs2.out]) (a2a _) ?_
     intro wb5 b5 k5
     have kk:=m5.kept.a0n k5 m5.le
     have B5:=hjd b5
     have q0:=d4u b5 (i:=0) (by rw [hs2.out];decide) (by decide)
     have q31:=d4u b5 (i:=31) (by rw [hs2.out];decide) (by decide)
     have f0:=b5.frozen 0
     have f31:=b5.frozen 31
     have L5:=hjd (Nat.le_trans K7.out.size m5.le)
     have n25:=hjd (show g2≠g5 from fun e=>by have:=B2.out.lt;have:=m5.le;omega)
     replace B2:=hjd (B2.out.kept kk (by simp))
     replace K7:=hjd (K7.out.a0i kk)
     clear m5 b5 k5 kk)
  | ((with_reducible refine a0q 20 ?_)
     have v0:(((s[0]?.getD 0).toNat:Int) - ((s[0]?.getD 0).toNat:Int) % 8) % 256=((b9z (s.getD 0 0)).toNat:Int):=by rw [←List.getD_eq_getElem?_getD];exact low_r _
     have v31:((s[31]?.getD 0).toNat:Int) % 64 + 64=((b7c (s.getD 31 0)).toNat:Int):=by rw [←List.getD_eq_getElem?_getD];exact top_r _
     rw [v0,v31]
     have B5':=b8u B5.out
     have kk:=(((Kept.refl [g5] wb5).setCell (p:=⟨g5,0,none⟩) (.inl (by simp)) (a1q (b9z (s.getD 0 0)))).setCell (p:=⟨g5,31,none⟩) (.inl (by simp)) (a1q (b7c (s.getD 31 0))))
     replace B2:=hjd (B2.out.kept kk (by simpa using n25.out))
     replace K7:=hjd (K7.out.a0n kk L5.out)
     unfold a1q at B5' B2 K7
     have BB5:=hjd B5'
     clear kk B5 B5' v0 v31 q0 q31 f0 f31
     refine a0a (cs:=(bv (a2u s)).toArray) (o:=⟨some 20,_,_,_,_,_⟩) a1u.row rfl (.tmp 3) rfl rfl BB5.out (by simpa using hcl.out) ?_)
  | ((refine a0b (cs:=(bv (a2u s)).toArray) (o:=⟨none,Op.store 22 (.tmp 2) (.tmp 20),_,_,_,_⟩) a1u.row rfl (.tmp 2) (.tmp 20) rfl rfl rfl B2.out (by rfl) (by simpa using hcl.out) (a2a _) ?_);intro wz bz kz))
 exact a0y a1u.row rfl rfl bz (by simpa using hcl.out) rfl ⟨by rw [hpost.out],K7.out.a0n kz L2.out⟩
end Go.Proofs.YtdbngnlpafcogaaGreat
