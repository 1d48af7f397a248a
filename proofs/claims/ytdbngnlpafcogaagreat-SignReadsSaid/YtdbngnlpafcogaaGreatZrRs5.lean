/-
  The document's sign: what Sign says; Right.
-/
import Derived.Test.YtdbngnlpafcogaaGreatZrRs4
set_option maxRecDepth 100000
namespace Go.Proofs.YtdbngnlpafcogaaGreat
open Go.RowKit Go.Mem Go.Txt
theorem c32:((32:Nat):Int)=32:=rfl
theorem c3h{a:Act}{o:Oper}{x g:Nat}(ho:o.op= .slice 32 (.tmp x) none none none)(W:World)(hx:a.tmps.getD x undef= .pointer (some ⟨g,0,none⟩)):(execOp a.eval o).run Tryz.prog W= .ok (.value (.slice (some ⟨g,0,none⟩) 64 64)) W:=by
 unfold execOp
 simp only [ho,Sem.run_bind,Act.eval,hx]
 kernel_rfl
set_option maxHeartbeats 3200000 in
theorem d7x{dc:Nat→Int}{key SG:List UInt8}{p:R4}(hk:key.length=32)(mv:Value)(w:World)(cd:RdC dc key p false) :
 Calls Tryz.prog 14 #[nu dc,ab key,ab SG,mv] w fun e w'=>e= .returned (.bool false)∧Kept [] w w':=by
 replace hk:=hjd hk
 replace cd:=hjd cd
 go_enter Tryz.func14,Tryz.ntmps14
 go_wp2_with (first
  | ((with_reducible refine a0p 4 ?_);(refine a0j (o:=⟨some 4,_,_,_,_,_⟩) (v:=nu dc) rfl (.tmp 0) rfl rfl ?_);intro g4 w4 m4;have B4:=hjd (show Blk w4 g4 29 (iv (fam 16 dc)).toArray from m4.blk);have KK:=hjd m4.kept;clear m4)
  | ((with_reducible refine a0p 5 ?_);(refine a0j (o:=⟨some 5,_,_,_,_,_⟩) (v:=ab key) rfl (.tmp 1) rfl rfl ?_);intro g5 w5 m5;have B5:=hjd (show Blk w5 g5 22 (bv key).toArray from m5.blk);replace B4:=hjd (B4.out.kept m5.kept (by simp));replace KK:=hjd (KK.out.a0i m5.kept);clear m5)
  | ((with_reducible refine a0p 6 ?_);(refine a0j (o:=⟨some 6,_,_,_,_,_⟩) (v:=ab SG) rfl (.tmp 2) rfl rfl ?_);intro g6 w6 m6;have B6:=hjd (show Blk w6 g6 32 (bv SG).toArray from m6.blk);replace B4:=hjd (B4.out.kept m6.kept (by simp));replace B5:=hjd (B5.out.kept m6.kept (by simp));replace KK:=hjd (KK.out.a0i m6.kept);clear m6)
  | ((with_reducible refine a0p 14 ?_);refine a0a (cs:=(iv (fam 16 dc)).toArray) (o:=⟨some 14,_,_,_,_,_⟩) a2f rfl (.tmp 4) rfl rfl B4.out rfl ?_)
  | ((with_reducible refine a0p 15 ?_);refine a0a (cs:=(bv key).toArray) (o:=⟨some 15,_,_,_,_,_⟩) a1x.row rfl (.tmp 5) rfl rfl B5.out (by simpa using hk.out) ?_)
  | (go_at_call 53;(with_reducible refine(cd.out _).mono ?_);rintro e v ⟨rfl,k⟩
     replace B4:=hjd (B4.out.kept k (by simp))
     replace B5:=hjd (B5.out.kept k (by simp))
     replace B6:=hjd (B6.out.kept k (by simp))
     replace KK:=hjd (KK.out.a0i k)
     clear k)
  | ((with_reducible refine a0p 9 ?_);(refine a0e (o:=⟨some 9,_,_,_,_,_⟩) rfl rfl a4m ?_);intro g9 w9 m9
     refine a0b (o:=⟨none,.store 85 (.tmp 9) (.tmp 17),_,_,_,_⟩) a0z rfl (.tmp 9) (.tmp 17) rfl rfl rfl m9.blk (R4.size rz) (R4.size _) (R4.one _) ?_
     intro wb9 b9 k9
     have kk:=m9.kept.a0n k9 m9.le
     have B9:=hjd b9
     replace B4:=hjd (B4.out.kept kk (by simp))
     replace B5:=hjd (B5.out.kept kk (by simp))
     replace B6:=hjd (B6.out.kept kk (by simp))
     replace KK:=hjd (KK.out.a0i kk)
     clear m9 b9 k9 kk))
 go_ret
 exact⟨rfl,KK.out⟩
set_option maxHeartbeats 3200000 in
theorem c3d{dc:Nat→Int}{key SG:List UInt8}{p:R4}(hk:key.length=32)(mv:Value)(w:World)(cd:RdC dc key p true)(cs:RsmC dc p true) :
 Calls Tryz.prog 14 #[nu dc,ab key,ab SG,mv] w fun e w'=>e= .returned (.bool false)∧Kept [] w w':=by
 replace hk:=hjd hk
 replace cd:=hjd cd
 replace cs:=hjd cs
 go_enter Tryz.func14,Tryz.ntmps14
 go_wp2_with (first
  | ((with_reducible refine a0p 4 ?_);(refine a0j (o:=⟨some 4,_,_,_,_,_⟩) (v:=nu dc) rfl (.tmp 0) rfl rfl ?_);intro g4 w4 m4;have B4:=hjd (show Blk w4 g4 29 (iv (fam 16 dc)).toArray from m4.blk);have KK:=hjd m4.kept;clear m4)
  | ((with_reducible refine a0p 5 ?_);(refine a0j (o:=⟨some 5,_,_,_,_,_⟩) (v:=ab key) rfl (.tmp 1) rfl rfl ?_);intro g5 w5 m5;have B5:=hjd (show Blk w5 g5 22 (bv key).toArray from m5.blk);replace B4:=hjd (B4.out.kept m5.kept (by simp));replace KK:=hjd (KK.out.a0i m5.kept);clear m5)
  | ((with_reducible refine a0p 6 ?_);(refine a0j (o:=⟨some 6,_,_,_,_,_⟩) (v:=ab SG) rfl (.tmp 2) rfl rfl ?_);intro g6 w6 m6;have B6:=hjd (show Blk w6 g6 32 (bv SG).toArray from m6.blk);replace B4:=hjd (B4.out.kept m6.kept (by simp));replace B5:=hjd (B5.out.kept m6.kept (by simp));replace KK:=hjd (KK.out.a0i m6.kept);clear m6)
  | ((with_reducible refine a0p 14 ?_);refine a0a (cs:=(iv (fam 16 dc)).toArray) (o:=⟨some 14,_,_,_,_,_⟩) a2f rfl (.tmp 4) rfl rfl B4.out rfl ?_)
  | ((with_reducible refine a0p 15 ?_);refine a0a (cs:=(bv key).toArray) (o:=⟨some 15,_,_,_,_,_⟩) a1x.row rfl (.tmp 5) rfl rfl B5.out (by simpa using hk.out) ?_)
  | (go_at_call 53;(with_reducible refine(cd.out _).mono ?_);rintro e v ⟨rfl,k⟩
     replace B4:=hjd (B4.out.kept k (by simp))
     replace B5:=hjd (B5.out.kept k (by simp))
     replace B6:=hjd (B6.out.kept k (by simp))
     replace KK:=hjd (KK.out.a0i k)
     clear k)
  | ((with_reducible refine a0p 9 ?_);(refine a0e (o:=⟨some 9,_,_,_,_,_⟩) rfl rfl a4m ?_);intro g9 w9 m9
     refine a0b (o:=⟨none,.store 85 (.tmp 9) (.tmp 17),_,_,_,_⟩) a0z rfl (.tmp 9) (.tmp 17) rfl rfl rfl m9.blk (R4.size rz) (R4.size _) (R4.one _) ?_
     intro wb9 b9 k9
     have kk:=m9.kept.a0n k9 m9.le
     have B9:=hjd b9
     replace B4:=hjd (B4.out.kept kk (by simp))
     replace B5:=hjd (B5.out.kept kk (by simp))
     replace B6:=hjd (B6.out.kept kk (by simp))
     replace KK:=hjd (KK.out.a0i kk)
     clear m9 b9 k9 kk)
  | ((with_reducible refine a0p 22 ?_);refine a0a (cs:=(iv (fam 16 dc)).toArray) (o:=⟨some 22,_,_,_,_,_⟩) a2f rfl (.tmp 4) rfl rfl B4.out rfl ?_)
  | ((with_reducible refine a0p 23 ?_);refine a0a (o:=⟨some 23,_,_,_,_,_⟩) a0z rfl (.tmp 9) rfl rfl B9.out (R4.size _) ?_)
  | (go_at_call 54;(with_reducible refine(cs.out _).mono ?_);rintro e v ⟨rfl,k⟩
     replace B4:=hjd (B4.out.kept k (by simp))
     replace B5:=hjd (B5.out.kept k (by simp))
     replace B6:=hjd (B6.out.kept k (by simp))
     replace B9:=hjd (B9.out.kept k (by simp))
     replace KK:=hjd (KK.out.a0i k)
     clear k))
 go_ret
 exact⟨rfl,KK.out⟩
set_option maxHeartbeats 3200000 in
theorem c8i{dc:Nat→Int}{key SG TB:List UInt8}{p:R4}(hk:key.length=32)(hg:SG.length=64)(eT:(SG.drop 32).take 32=TB)(hT:TB.length=32)(mv:Value)(w:World)(cd:RdC dc key p true)(cs:RsmC dc p false)(cgd:∀u,Calls Tryz.prog 56 #[ab TB] u fun e w'=>e= .returned (.bool false)∧Kept [] u w') :
 Calls Tryz.prog 14 #[nu dc,ab key,ab SG,mv] w fun e w'=>e= .returned (.bool false)∧Kept [] w w':=by
 replace hk:=hjd hk
 replace hg:=hjd hg
 replace eT:=hjd eT
 replace hT:=hjd hT
 replace cd:=hjd cd
 replace cs:=hjd cs
 replace cgd:=hjd cgd
 go_enter Tryz.func14,Tryz.ntmps14
 go_wp2_with (first
  | ((with_reducible refine a0p 4 ?_);(refine a0j (o:=⟨some 4,_,_,_,_,_⟩) (v:=nu dc) rfl (.tmp 0) rfl rfl ?_);intro g4 w4 m4;have B4:=hjd (show Blk w4 g4 29 (iv (fam 16 dc)).toArray from m4.blk);have KK:=hjd m4.kept;clear m4)
  | ((with_reducible refine a0p 5 ?_);(refine a0j (o:=⟨some 5,_,_,_,_,_⟩) (v:=ab key) rfl (.tmp 1) rfl rfl ?_);intro g5 w5 m5;have B5:=hjd (show Blk w5 g5 22 (bv key).toArray from m5.blk);replace B4:=hjd (B4.out.kept m5.kept (by simp));replace KK:=hjd (KK.out.a0i m5.kept);clear m5)
  | ((with_reducible refine a0p 6 ?_);(refine a0j (o:=⟨some 6,_,_,_,_,_⟩) (v:=ab SG) rfl (.tmp 2) rfl rfl ?_);intro g6 w6 m6;have B6:=hjd (show Blk w6 g6 32 (bv SG).toArray from m6.blk);replace B4:=hjd (B4.out.kept m6.kept (by simp));replace B5:=hjd (B5.out.kept m6.kept (by simp));replace KK:=hjd (KK.out.a0i m6.kept);clear m6)
  | ((with_reducible refine a0p 14 ?_);refine a0a (cs:=(iv (fam 16 dc)).toArray) (o:=⟨some 14,_,_,_,_,_⟩) a2f rfl (.tmp 4) rfl rfl B4.out rfl ?_)
  | ((with_reducible refine a0p 15 ?_);refine a0a (cs:=(bv key).toArray) (o:=⟨some 15,_,_,_,_,_⟩) a1x.row rfl (.tmp 5) rfl rfl B5.out (by simpa using hk.out) ?_)
  | (go_at_call 53;(with_reducible refine(cd.out _).mono ?_);rintro e v ⟨rfl,k⟩
     replace B4:=hjd (B4.out.kept k (by simp))
     replace B5:=hjd (B5.out.kept k (by simp))
     replace B6:=hjd (B6.out.kept k (by simp))
     replace KK:=hjd (KK.out.a0i k)
     clear k)
  | ((with_reducible refine a0p 9 ?_);(refine a0e (o:=⟨some 9,_,_,_,_,_⟩) rfl rfl a4m ?_);intro g9 w9 m9
     refine a0b (o:=⟨none,.store 85 (.tmp 9) (.tmp 17),_,_,_,_⟩) a0z rfl (.tmp 9) (.tmp 17) rfl rfl rfl m9.blk (R4.size rz) (R4.size _) (R4.one _) ?_
     intro wb9 b9 k9
     have kk:=m9.kept.a0n k9 m9.le
     have B9:=hjd b9
     replace B4:=hjd (B4.out.kept kk (by simp))
     replace B5:=hjd (B5.out.kept kk (by simp))
     replace B6:=hjd (B6.out.kept kk (by simp))
     replace KK:=hjd (KK.out.a0i kk)
     clear m9 b9 k9 kk)
  | ((with_reducible refine a0p 22 ?_);refine a0a (cs:=(iv (fam 16 dc)).toArray) (o:=⟨some 22,_,_,_,_,_⟩) a2f rfl (.tmp 4) rfl rfl B4.out rfl ?_)
  | ((with_reducible refine a0p 23 ?_);refine a0a (o:=⟨some 23,_,_,_,_,_⟩) a0z rfl (.tmp 9) rfl rfl B9.out (R4.size _) ?_)
  | (go_at_call 54;(with_reducible refine(cs.out _).mono ?_);rintro e v ⟨rfl,k⟩
     replace B4:=hjd (B4.out.kept k (by simp))
     replace B5:=hjd (B5.out.kept k (by simp))
     replace B6:=hjd (B6.out.kept k (by simp))
     replace B9:=hjd (B9.out.kept k (by simp))
     replace KK:=hjd (KK.out.a0i k)
     clear k)
  | (go_at_call 55;(with_reducible refine(b6z _ SG 32 32 c32 _ (by rw [hg.out];exact Blk.rd B6.out (by simp [hg.out]) (Nat.le_refl _)) (by rw [hg.out];decide) (by rw [hg.out];decide)).mono ?_);rintro e v ⟨rfl,k⟩
     rw [eT.out]
     replace B4:=hjd (B4.out.kept k (by simp))
     replace B5:=hjd (B5.out.kept k (by simp))
     replace B6:=hjd (B6.out.kept k (by simp))
     replace B9:=hjd (B9.out.kept k (by simp))
     replace KK:=hjd (KK.out.a0i k)
     clear k)
  | ((with_reducible refine a0p 11 ?_);(refine a0e (o:=⟨some 11,_,_,_,_,_⟩) rfl rfl a4b ?_);intro g11 w11 m11
     refine a0b (cs:=(bv TB).toArray) (o:=⟨none,Op.store 22 (.tmp 11) (.tmp 27),_,_,_,_⟩) a1x.row rfl (.tmp 11) (.tmp 27) rfl rfl rfl m11.blk (by rfl) (by simpa using hT.out) (a2v _) ?_
     intro wb11 b11 k11
     have kk:=m11.kept.a0n k11 m11.le
     have B11:=hjd b11
     replace B4:=hjd (B4.out.kept kk (by simp))
     replace B5:=hjd (B5.out.kept kk (by simp))
     replace B6:=hjd (B6.out.kept kk (by simp))
     replace B9:=hjd (B9.out.kept kk (by simp))
     replace KK:=hjd (KK.out.a0i kk)
     clear m11 b11 k11 kk)
  | ((with_reducible refine a0p 28 ?_);refine a0a (cs:=(bv TB).toArray) (o:=⟨some 28,_,_,_,_,_⟩) a1x.row rfl (.tmp 11) rfl rfl B11.out (by simpa using hT.out) ?_)
  | (go_at_call 56;(with_reducible refine(cgd.out _).mono ?_);rintro e v ⟨rfl,k⟩
     replace B4:=hjd (B4.out.kept k (by simp))
     replace B5:=hjd (B5.out.kept k (by simp))
     replace B6:=hjd (B6.out.kept k (by simp))
     replace B9:=hjd (B9.out.kept k (by simp))
     replace B11:=hjd (B11.out.kept k (by simp))
     replace KK:=hjd (KK.out.a0i k)
     clear k))
 go_ret
 exact⟨rfl,KK.out⟩
set_option maxHeartbeats 3200000 in
theorem c6v{dc:Nat→Int}{key SG RB TB m t3 h l:List UInt8}{p b q pk ng r:R4}{b0:Bool}(hk:key.length=32)(hg:SG.length=64)(eR:SG.take 32=RB)(eT:(SG.drop 32).take 32=TB)(hR:RB.length=32)(hT:TB.length=32)(hh:h.length=32)(hll:l.length=32)(mv:Value)(w:World)(hm:c1f m mv w)(cd:RdC dc key p true)(cs:RsmC dc p false)(cgd:∀u,Calls Tryz.prog 56 #[ab TB] u fun e w'=>e= .returned (.bool true)∧Kept [] u w')
 (cl3:∀u pv v v2 v3,Parts u pv [(v,RB),(v2,key),(v3,m)]→Calls Tryz.prog 45 #[pv] u fun e w'=>∃v',e= .returned v'∧c1f t3 v' w'∧Kept [] u w')
 (cm3:∀u v,c1f t3 v u→Calls Tryz.prog 44 #[v] u fun e w'=>e= .returned (ab h)∧Kept [] u w')
 (cb:RbC dc b) (cq:RmuC dc b TB q) (cp:RmuC dc p h pk) (cng:RnegC pk ng) (cad:d1l dc q ng r) (cy:BytC r l) (hb:(l == RB)=b0) :
 Calls Tryz.prog 14 #[nu dc,ab key,ab SG,mv] w fun e w'=>e= .returned (.bool b0)∧Kept [] w w':=by
 have q51:=a9m hb hll hR
 obtain⟨MA,mc,e0,_,_,_⟩:=id hm
 subst e0
 replace hk:=hjd hk
 replace hg:=hjd hg
 replace eR:=hjd eR
 replace eT:=hjd eT
 replace hR:=hjd hR
 replace hT:=hjd hT
 replace hh:=hjd hh
 replace hll:=hjd hll
 replace hm:=hjd hm
 replace cd:=hjd cd
 replace cs:=hjd cs
 replace cgd:=hjd cgd
 replace cl3:=hjd cl3
 replace cm3:=hjd cm3
 replace cb:=hjd cb
 replace cq:=hjd cq
 replace cp:=hjd cp
 replace cng:=hjd cng
 replace cad:=hjd cad
 replace cy:=hjd cy
 replace hb:=hjd hb
 go_enter Tryz.func14,Tryz.ntmps14
 go_wp2_with (first
  | ((with_reducible refine a0p 4 ?_);(refine a0j (o:=⟨some 4,_,_,_,_,_⟩) (v:=nu dc) rfl (.tmp 0) rfl rfl ?_);intro g4 w4 m4;have B4:=hjd (show Blk w4 g4 29 (iv (fam 16 dc)).toArray from m4.blk);have KK:=hjd m4.kept;clear m4)
  | ((with_reducible refine a0p 5 ?_);(refine a0j (o:=⟨some 5,_,_,_,_,_⟩) (v:=ab key) rfl (.tmp 1) rfl rfl ?_);intro g5 w5 m5;have B5:=hjd (show Blk w5 g5 22 (bv key).toArray from m5.blk);replace B4:=hjd (B4.out.kept m5.kept (by simp));replace KK:=hjd (KK.out.a0i m5.kept);clear m5)
  | ((with_reducible refine a0p 6 ?_);(refine a0j (o:=⟨some 6,_,_,_,_,_⟩) (v:=ab SG) rfl (.tmp 2) rfl rfl ?_);intro g6 w6 m6;have B6:=hjd (show Blk w6 g6 32 (bv SG).toArray from m6.blk);replace B4:=hjd (B4.out.kept m6.kept (by simp));replace B5:=hjd (B5.out.kept m6.kept (by simp));replace KK:=hjd (KK.out.a0i m6.kept);clear m6)
  | ((with_reducible refine a0p 14 ?_);refine a0a (cs:=(iv (fam 16 dc)).toArray) (o:=⟨some 14,_,_,_,_,_⟩) a2f rfl (.tmp 4) rfl rfl B4.out rfl ?_)
  | ((with_reducible refine a0p 15 ?_);refine a0a (cs:=(bv key).toArray) (o:=⟨some 15,_,_,_,_,_⟩) a1x.row rfl (.tmp 5) rfl rfl B5.out (by simpa using hk.out) ?_)
  | (go_at_call 53;(with_reducible refine(cd.out _).mono ?_);rintro e v ⟨rfl,k⟩
     replace B4:=hjd (B4.out.kept k (by simp))
     replace B5:=hjd (B5.out.kept k (by simp))
     replace B6:=hjd (B6.out.kept k (by simp))
     replace KK:=hjd (KK.out.a0i k)
     clear k)
  | ((with_reducible refine a0p 9 ?_);(refine a0e (o:=⟨some 9,_,_,_,_,_⟩) rfl rfl a4m ?_);intro g9 w9 m9
     refine a0b (o:=⟨none,.store 85 (.tmp 9) (.tmp 17),_,_,_,_⟩) a0z rfl (.tmp 9) (.tmp 17) rfl rfl rfl m9.blk (R4.size rz) (R4.size _) (R4.one _) ?_
     intro wb9 b9 k9
     have kk:=m9.kept.a0n k9 m9.le
     have B9:=hjd b9
     replace B4:=hjd (B4.out.kept kk (by simp))
     replace B5:=hjd (B5.out.kept kk (by simp))
     replace B6:=hjd (B6.out.kept kk (by simp))
     replace KK:=hjd (KK.out.a0i kk)
     clear m9 b9 k9 kk)
  | ((with_reducible refine a0p 22 ?_);refine a0a (cs:=(iv (fam 16 dc)).toArray) (o:=⟨some 22,_,_,_,_,_⟩) a2f rfl (.tmp 4) rfl rfl B4.out rfl ?_)
  | ((with_reducible refine a0p 23 ?_);refine a0a (o:=⟨some 23,_,_,_,_,_⟩) a0z rfl (.tmp 9) rfl rfl B9.out (R4.size _) ?_)
  | (go_at_call 54;(with_reducible refine(cs.out _).mono ?_);rintro e v ⟨rfl,k⟩
     replace B4:=hjd (B4.out.kept k (by simp))
     replace B5:=hjd (B5.out.kept k (by simp))
     replace B6:=hjd (B6.out.kept k (by simp))
     replace B9:=hjd (B9.out.kept k (by simp))
     replace KK:=hjd (KK.out.a0i k)
     clear k)
  | (go_at_call 55;(with_reducible refine(b6z _ SG 32 32 c32 _ (by rw [hg.out];exact Blk.rd B6.out (by simp [hg.out]) (Nat.le_refl _)) (by rw [hg.out];decide) (by rw [hg.out];decide)).mono ?_);rintro e vg ⟨rfl,k⟩
     rw [eT.out]
     replace B4:=hjd (B4.out.kept k (by simp))
     replace B5:=hjd (B5.out.kept k (by simp))
     replace B6:=hjd (B6.out.kept k (by simp))
     replace B9:=hjd (B9.out.kept k (by simp))
     replace KK:=hjd (KK.out.a0i k)
     clear k)
  | ((with_reducible refine a0p 11 ?_);(refine a0e (o:=⟨some 11,_,_,_,_,_⟩) rfl rfl a4b ?_);intro g11 w11 m11
     refine a0b (cs:=(bv TB).toArray) (o:=⟨none,Op.store 22 (.tmp 11) (.tmp 27),_,_,_,_⟩) a1x.row rfl (.tmp 11) (.tmp 27) rfl rfl rfl m11.blk (by rfl) (by simpa using hT.out) (a2v _) ?_
     intro wb11 b11 k11
     have kk:=m11.kept.a0n k11 m11.le
     have B11:=hjd b11
     replace B4:=hjd (B4.out.kept kk (by simp))
     replace B5:=hjd (B5.out.kept kk (by simp))
     replace B6:=hjd (B6.out.kept kk (by simp))
     replace B9:=hjd (B9.out.kept kk (by simp))
     replace KK:=hjd (KK.out.a0i kk)
     clear m11 b11 k11 kk)
  | ((with_reducible refine a0p 28 ?_);refine a0a (cs:=(bv TB).toArray) (o:=⟨some 28,_,_,_,_,_⟩) a1x.row rfl (.tmp 11) rfl rfl B11.out (by simpa using hT.out) ?_)
  | (go_at_call 56;(with_reducible refine(cgd.out _).mono ?_);rintro e vg ⟨rfl,k⟩
     replace B4:=hjd (B4.out.kept k (by simp))
     replace B5:=hjd (B5.out.kept k (by simp))
     replace B6:=hjd (B6.out.kept k (by simp))
     replace B9:=hjd (B9.out.kept k (by simp))
     replace B11:=hjd (B11.out.kept k (by simp))
     replace KK:=hjd (KK.out.a0i k)
     clear k))
 have hm4:=hjd (show Rd vg 1 (.slice MA m.length mc) m.length (bv m)from hm.out.a1w KK.out)
 have D5:=hjd (show Rd vg 1 (.slice (some ⟨g5,0,none⟩) 32 32) key.length (bv key)from by rw [hk.out];exact Blk.rd B5.out (by simp [hk.out]) (Nat.le_refl _))
 have D6:=hjd (show Rd vg 1 (.slice (some ⟨g6,0,none⟩) 32 64) RB.length (bv RB)from by rw [hR.out,←eR.out];exact d0d B6.out hg.out)
 refine Txt.a4r (by kernel_rfl) [Txt.isV (.slice (some ⟨g6,0,none⟩) 32 64),Txt.isV (.slice (some ⟨g5,0,none⟩) 32 32),Txt.isV (.slice MA m.length mc),a7u [((.slice (some ⟨g6,0,none⟩) 32 64),RB),((.slice (some ⟨g5,0,none⟩) 32 32),key),(.slice MA m.length mc,m)],c1f t3,Txt.isV (ab h),Txt.a7l vg.heap.size 22 (ab (a0s 32)).cells] (fun u=>Kept [] vg u) (by kernel_rfl) rfl rfl (by kernel_rfl) ((Kept.refl [] vg).drew) (fun u u2 h k=>h.a0i k) ⟨?_,?_,?_,?_,?_,?_,?_,trivial⟩ ?_
 ·exact a3k (x:=6) rfl (by decide) fun a W hx=>b1s rfl W hx
 ·exact a3k (x:=5) rfl (by decide) fun a W hx=>a8b rfl W hx
 ·exact a3k (x:=3) rfl (by decide) fun a W hx=>b4x rfl W hx
 ·exact c7p (x:=31) (y:=32) (z:=33) (i:=0) (j:=1) (k:=2) rfl rfl rfl rfl rfl rfl rfl ⟨⟨0,.data⟩,by simp,rfl,rfl⟩ rfl rfl rfl ⟨⟨1,.data⟩,by simp,rfl,rfl⟩ rfl rfl rfl ⟨⟨2,.data⟩,by simp,rfl,rfl⟩ D6.out D5.out hm4.out
 ·refine Txt.a2d rfl c2y (fun v u u2 h k=>c1f.a1w h k) fun a u hS hr _=>?_
  have e0:=hr 3 _ 34 _ rfl rfl rfl ⟨⟨3,.data⟩,by simp,rfl,rfl⟩
  have hm:Array.map a.eval #[.tmp 34]= #[a.tmps.getD 34 undef]:=by simp only [List.map_toArray,List.map_cons,List.map_nil,Act.eval]
  rw [hm]
  refine(cl3.out _ _ _ _ _ e0).mono ?_
  rintro e u2 ⟨v,rfl,hv,hk⟩
  exact⟨v,rfl,hv,hk⟩
 ·refine Txt.a2d rfl c2z (fun _ _ _ h _=>h) fun a u hS hr _=>?_
  have e0:=hr 4 _ 35 _ rfl rfl rfl ⟨⟨4,.data⟩,by simp,rfl,rfl⟩
  have hm:Array.map a.eval #[.tmp 35]= #[a.tmps.getD 35 undef]:=by simp only [List.map_toArray,List.map_cons,List.map_nil,Act.eval]
  rw [hm]
  refine(cm3.out _ _ e0).mono ?_
  rintro e u2 ⟨rfl,hk⟩
  exact⟨_,rfl,rfl,hk⟩
 ·exact Txt.a6u rfl a4b
 intro v wc kc hv
 have v0:v 0=(.slice (some ⟨g6,0,none⟩) 32 64):=hv 0 _ rfl
 have v1:v 1=(.slice (some ⟨g5,0,none⟩) 32 32):=hv 1 _ rfl
 have v2:v 2=(.slice MA m.length mc):=hv 2 _ rfl
 have v5:v 5=(ab h):=hv 5 _ rfl
 have h6:Txt.a7l vg.heap.size 22 (ab (a0s 32)).cells (v 6) wc:=hv 6 _ rfl
 clear hv
 simp [Txt.a0w,List.range,List.range.loop,Act.put,v0,v1,v2,v5]
 generalize v 3=u3 at *
 generalize v 4=u4 at *
 generalize v 6=u6 at *
 clear v0 v1 v2 v5
 obtain⟨g12,rfl,b12,l12⟩:=h6.get
 clear h6
 refine Txt.b3p a1x.row rfl rfl rfl b12 (by rfl) (by simpa using hh.out) (a2v _) ?_
 intro we b12 k12
 simp [Act.put]
 have kk:=kc.a0n k12 l12
 have B12:=hjd b12
 replace B4:=hjd (B4.out.kept kk (by simp))
 replace B6:=hjd (B6.out.kept kk (by simp))
 replace B9:=hjd (B9.out.kept kk (by simp))
 replace B11:=hjd (B11.out.kept kk (by simp))
 replace KK:=hjd (KK.out.a0i kk)
 clear hm4 D5 D6 B5 kc kk b12 k12 l12
 go_wp2_with fail
 refine Txt.a4r (by kernel_rfl) [Txt.isV (nu dc),Txt.isV (nu dc),Txt.isV (nu dc),Txt.isV b.v,Txt.isV (ab TB),Txt.isV q.v,Txt.isV (nu dc),Txt.isV p.v,Txt.isV (ab h),Txt.isV pk.v,Txt.isV ng.v,Txt.isV r.v,Txt.isV (ab l),Txt.isV (.slice (some ⟨g6,0,none⟩) 64 64),Txt.isV (ab RB),Txt.isV (.bool b0)] (fun u=>Kept [] we u) (by kernel_rfl) rfl rfl (by kernel_rfl) ((Kept.refl [] we).drew) (fun u u2 h k=>h.a0i k) ⟨?_,?_,?_,?_,?_,?_,?_,?_,?_,?_,?_,?_,?_,?_,?_,?_,trivial⟩ ?_
 ·exact Txt.a2b a2f rfl rfl (by decide) B4.out rfl
 ·exact Txt.a2b a2f rfl rfl (by decide) B4.out rfl
 ·exact Txt.a2b a2f rfl rfl (by decide) B4.out rfl
 ·refine Txt.a2d rfl b9j (fun _ _ _ h _=>h) fun a u hS hr _=>?_
  have e0:a.tmps.getD 39 undef=(nu dc):=hr 2 _ 39 _ rfl rfl rfl ⟨⟨2,.data⟩,by simp,rfl,rfl⟩
  have hm:Array.map a.eval #[.tmp 39]= #[(nu dc)]:=by simp only [List.map_toArray,List.map_cons,List.map_nil,Act.eval,e0]
  rw [hm]
  refine(cb.out u).mono ?_
  rintro e u2 ⟨rfl,hk⟩
  exact⟨_,rfl,rfl,hk⟩
 ·exact Txt.a2b a1x.row rfl rfl (by decide) B11.out (by simpa using hT.out)
 ·refine Txt.a2d rfl b3n (fun _ _ _ h _=>h) fun a u hS hr _=>?_
  have e0:a.tmps.getD 38 undef=(nu dc):=hr 1 _ 38 _ rfl rfl rfl ⟨⟨1,.data⟩,by simp,rfl,rfl⟩
  have e1:a.tmps.getD 40 undef=b.v:=hr 3 _ 40 _ rfl rfl rfl ⟨⟨3,.data⟩,by simp,rfl,rfl⟩
  have e2:a.tmps.getD 41 undef=(ab TB):=hr 4 _ 41 _ rfl rfl rfl ⟨⟨4,.data⟩,by simp,rfl,rfl⟩
  have hm:Array.map a.eval #[.tmp 38,.tmp 40,.tmp 41]= #[(nu dc),b.v,(ab TB)]:=by simp only [List.map_toArray,List.map_cons,List.map_nil,Act.eval,e0,e1,e2]
  rw [hm]
  refine(cq.out u).mono ?_
  rintro e u2 ⟨rfl,hk⟩
  exact⟨_,rfl,rfl,hk⟩
 ·exact Txt.a2b a2f rfl rfl (by decide) B4.out rfl
 ·exact Txt.a2b a0z rfl rfl (by decide) B9.out (R4.size _)
 ·exact Txt.a2b a1x.row rfl rfl (by decide) B12.out (by simpa using hh.out)
 ·refine Txt.a2d rfl b3n (fun _ _ _ h _=>h) fun a u hS hr _=>?_
  have e0:a.tmps.getD 43 undef=(nu dc):=hr 6 _ 43 _ rfl rfl rfl ⟨⟨6,.data⟩,by simp,rfl,rfl⟩
  have e1:a.tmps.getD 44 undef=p.v:=hr 7 _ 44 _ rfl rfl rfl ⟨⟨7,.data⟩,by simp,rfl,rfl⟩
  have e2:a.tmps.getD 45 undef=(ab h):=hr 8 _ 45 _ rfl rfl rfl ⟨⟨8,.data⟩,by simp,rfl,rfl⟩
  have hm:Array.map a.eval #[.tmp 43,.tmp 44,.tmp 45]= #[(nu dc),p.v,(ab h)]:=by simp only [List.map_toArray,List.map_cons,List.map_nil,Act.eval,e0,e1,e2]
  rw [hm]
  refine(cp.out u).mono ?_
  rintro e u2 ⟨rfl,hk⟩
  exact⟨_,rfl,rfl,hk⟩
 ·refine Txt.a2d rfl c1n (fun _ _ _ h _=>h) fun a u hS hr _=>?_
  have e0:a.tmps.getD 46 undef=pk.v:=hr 9 _ 46 _ rfl rfl rfl ⟨⟨9,.data⟩,by simp,rfl,rfl⟩
  have hm:Array.map a.eval #[.tmp 46]= #[pk.v]:=by simp only [List.map_toArray,List.map_cons,List.map_nil,Act.eval,e0]
  rw [hm]
  refine(cng.out u).mono ?_
  rintro e u2 ⟨rfl,hk⟩
  exact⟨_,rfl,rfl,hk⟩
 ·refine Txt.a2d rfl c1i (fun _ _ _ h _=>h) fun a u hS hr _=>?_
  have e0:a.tmps.getD 37 undef=(nu dc):=hr 0 _ 37 _ rfl rfl rfl ⟨⟨0,.data⟩,by simp,rfl,rfl⟩
  have e1:a.tmps.getD 42 undef=q.v:=hr 5 _ 42 _ rfl rfl rfl ⟨⟨5,.data⟩,by simp,rfl,rfl⟩
  have e2:a.tmps.getD 47 undef=ng.v:=hr 10 _ 47 _ rfl rfl rfl ⟨⟨10,.data⟩,by simp,rfl,rfl⟩
  have hm:Array.map a.eval #[.tmp 37,.tmp 42,.tmp 47]= #[(nu dc),q.v,ng.v]:=by simp only [List.map_toArray,List.map_cons,List.map_nil,Act.eval,e0,e1,e2]
  rw [hm]
  refine(cad.out u).mono ?_
  rintro e u2 ⟨rfl,hk⟩
  exact⟨_,rfl,rfl,hk⟩
 ·refine Txt.a2d rfl b6y (fun _ _ _ h _=>h) fun a u hS hr _=>?_
  have e0:a.tmps.getD 48 undef=r.v:=hr 11 _ 48 _ rfl rfl rfl ⟨⟨11,.data⟩,by simp,rfl,rfl⟩
  have hm:Array.map a.eval #[.tmp 48]= #[r.v]:=by simp only [List.map_toArray,List.map_cons,List.map_nil,Act.eval,e0]
  rw [hm]
  refine(cy.out u).mono ?_
  rintro e u2 ⟨rfl,hk⟩
  exact⟨_,rfl,rfl,hk⟩
 ·exact a3k (x:=6) rfl (by decide) fun a W hx=>c3h rfl W hx
 ·refine Txt.a2d rfl c2p (fun _ _ _ h _=>h) fun a u hS hr _=>?_
  have e0:a.tmps.getD 50 undef=(.slice (some ⟨g6,0,none⟩) 64 64):=hr 13 _ 50 _ rfl rfl rfl ⟨⟨13,.data⟩,by simp,rfl,rfl⟩
  have hm:Array.map a.eval #[.tmp 50,.const (.int .i64 0)]= #[(.slice (some ⟨g6,0,none⟩) 64 64),.int .i64 0]:=by simp only [List.map_toArray,List.map_cons,List.map_nil,Act.eval,e0]
  rw [hm]
  refine(b6z _ SG 0 0 rfl u (by rw [hg.out];exact Blk.rd (B6.out.kept hS (by simp)) (by simp [hg.out]) (Nat.le_refl _)) (by rw [hg.out];decide) (by rw [hg.out];decide)).mono ?_
  rintro e u2 ⟨rfl,hk⟩
  exact⟨_,rfl,by rw [List.drop_zero,eR.out];rfl,hk⟩
 ·refine b4k fun a u hS hr _=>?_
  have e0:=hr 12 _ 49 _ rfl rfl rfl ⟨⟨12,.data⟩,by simp,rfl,rfl⟩
  have e1:=hr 14 _ 51 _ rfl rfl rfl ⟨⟨14,.data⟩,by simp,rfl,rfl⟩
  exact b3f (.tmp 49) (.tmp 51) rfl e0 e1 hb.out hll.out hR.out
 intro v wc kc hv
 have v0:v 0=(nu dc):=hv 0 _ rfl
 have v1:v 1=(nu dc):=hv 1 _ rfl
 have v2:v 2=(nu dc):=hv 2 _ rfl
 have v3:v 3=b.v:=hv 3 _ rfl
 have v4:v 4=(ab TB):=hv 4 _ rfl
 have v5:v 5=q.v:=hv 5 _ rfl
 have v6:v 6=(nu dc):=hv 6 _ rfl
 have v7:v 7=p.v:=hv 7 _ rfl
 have v8:v 8=(ab h):=hv 8 _ rfl
 have v9:v 9=pk.v:=hv 9 _ rfl
 have v10:v 10=ng.v:=hv 10 _ rfl
 have v11:v 11=r.v:=hv 11 _ rfl
 have v12:v 12=(ab l):=hv 12 _ rfl
 have v13:v 13=(.slice (some ⟨g6,0,none⟩) 64 64):=hv 13 _ rfl
 have v14:v 14=(ab RB):=hv 14 _ rfl
 have v15:v 15=(.bool b0):=hv 15 _ rfl
 clear hv
 simp [Txt.a0w,List.range,List.range.loop,Act.put,v0,v1,v2,v3,v4,v5,v6,v7,v8,v9,v10,v11,v12,v13,v14,v15]
 clear v0 v1 v2 v3 v4 v5 v6 v7 v8 v9 v10 v11 v12 v13 v14 v15
 refine b3s (v:=.bool b0) rfl ?_
 simp [Act.put]
 replace KK:=hjd (KK.out.a0i kc)
 clear kc
 go_wp2_with fail
 go_ret
 exact⟨rfl,KK.out⟩
end Go.Proofs.YtdbngnlpafcogaaGreat
