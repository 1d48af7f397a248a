/-
  The document's sign: Sign.
-/
import Derived.Test.YtdbngnlpafcogaaGreatZmRs3
import Derived.Test.YtdbngnlpafcogaaGreatZmLit
set_option maxRecDepth 100000
namespace Go.Proofs.YtdbngnlpafcogaaGreat
open Go.RowKit Go.Mem Go.Txt
def xo(R S:List UInt8)(k:Nat):List UInt8:=(List.range 64).map fun j=>if j < 32 then(if j < k then R.getD j 0 else 0)else(if j - 32 < k then S.getD (j - 32) 0 else 0)
theorem e0z(R S:List UInt8)(k:Nat):(xo R S k).length=64:=by simp [xo]
theorem e3x(R S:List UInt8):xo R S 0=a0p 64:=by
 unfold xo
 simp only [Nat.not_lt_zero,if_false,ite_self]
 exact List.map_const' ..
theorem e4h(R S:List UInt8)(k:Nat)(hk:k < 32):((xo R S k).set k (R.getD k 0)).set (32 + k) (S.getD k 0)=xo R S (k + 1):=by
 apply List.ext_getElem
 ·simp [xo]
 ·intro j h1 h2
  have hj:j < 64:=by simpa [xo]using h2
  simp only [xo,List.getElem_set,List.getElem_map,List.getElem_range]
  by_cases h:32 + k=j
  ·subst h
   rw [if_pos rfl,if_neg (by omega),if_pos (by omega),show 32 + k - 32=k from by omega]
  ·rw [if_neg h]
   by_cases h':k=j
   ·subst h'
    rw [if_pos rfl,if_pos (by omega),if_pos (by omega)]
   ·rw [if_neg h']
    by_cases h3:j < 32
    ·rw [if_pos h3,if_pos h3]
     by_cases h4:j < k
     ·rw [if_pos h4,if_pos (by omega)]
     ·rw [if_neg h4,if_neg (by omega)]
    ·rw [if_neg h3,if_neg h3]
     by_cases h4:j - 32 < k
     ·rw [if_pos h4,if_pos (by omega)]
     ·rw [if_neg h4,if_neg (by omega)]
theorem xo_all(R S:List UInt8)(hR:R.length=32)(hS:S.length=32):xo R S 32=R ++ S:=by
 apply List.ext_getElem
 ·simp [xo,hR,hS]
 ·intro j h1 h2
  have hj:j < 64:=by simpa [xo]using h1
  simp only [xo,List.getElem_map,List.getElem_range]
  by_cases h3:j < 32
  ·rw [if_pos h3,if_pos h3,List.getElem_append_left (by omega)]
   simp [List.getD_eq_getElem?_getD,hR,h3]
  ·rw [if_neg h3,if_pos (by omega),List.getElem_append_right (by omega)]
   simp only [hR]
   simp [List.getD_eq_getElem?_getD,hS,show j - 32 < 32 from by omega]
section
variable {l:List Oper} {vs:List Rel} {a0:Act} {w0:World} {o:Oper}
theorem c7e{x y z i j k:Nat}{v1 v2 v3:Value}{x1 x2 x3:List UInt8}{oi oj ok:Oper}(ho:o.op= .buildSlice 45 3 #[(0,.tmp x),(1,.tmp y),(2,.tmp z)])(c0:v1.cells= #[v1])(c1:v2.cells= #[v2])(c2:v3.cells= #[v3])
 (hi:vs[i]?=some (isV v1)) (hl:l[i]?=some oi) (hd:oi.dst=some x) (hb:a2f o i) (hj:vs[j]?=some (isV v2)) (hl2:l[j]?=some oj) (hd2:oj.dst=some y) (hb2:a2f o j) (hk:vs[k]?=some (isV v3)) (hl3:l[k]?=some ok) (hd3:ok.dst=some z) (hb3:a2f o k)
 (r1:Rd w0 1 v1 x1.length (bv x1)) (r2:Rd w0 1 v2 x2.length (bv x2)) (r3:Rd w0 1 v3 x3.length (bv x3)):a5y Tryz.prog l vs (fun u=>Kept [] w0 u) a0 o (a7z [(v1,x1),(v2,x2),(v3,x3)]):=by
 refine⟨fun _ _ _ h hk=>Parts.a1o h hk,fun a w C R hS hr _ h=>?_⟩
 have e:a.tmps.getD x undef=v1:=hr i _ x oi hi hl hd hb
 have e2:a.tmps.getD y undef=v2:=hr j _ y oj hj hl2 hd2 hb2
 have e3:a.tmps.getD z undef=v3:=hr k _ z ok hk hl3 hd3 hb3
 obtain⟨q,hq,hz,hs,hb⟩:=info_parts a3n.2
 have hv:(#[(0,Operand.tmp x),(1,.tmp y),(2,.tmp z)].map fun(p:Nat × Operand)=>(p.1,a.eval p.2)).toList= [(0,v1),(1,v2),(2,v3)]:=by simp [Act.eval,←e,←e2,←e3]
 have hf:Instr.fill (fun i=>some (i * 1,1)) ((Array.range (3 * 1)).map ((Value.slice none 0 0).cells[· % (Value.slice none 0 0).cells.size]!)) [(0,v1),(1,v2),(2,v3)]=some #[v1,v2,v3]:=by
  have hr:∀f:Nat→Value,(Array.range (3 * 1)).map f= #[f 0,f 1,f 2]:=fun f=>Array.toList_inj.1 (by rw [Array.toList_map,Array.toList_range];rfl)
  rw [hr]
  simp [Instr.fill,c0,c1,c2]
 have kk:Kept [] w (w.alloc (.cells #[v1,v2,v3] 23)):=(Kept.refl [] w).alloc _
 refine wp_buildSlice _ _ 3 _ ho #[v1,v2,v3] q _ a3n.1 hq hz (by rw [hs];omega) (by rw [hs];omega) (by rw [hs];exact(congrArg (Instr.fill _ _) hv).trans hf) (h _ _ kk ⟨⟨_,_,rfl,rfl,Nat.le_refl _,fun _=>⟨_,0,rfl,fun t u hu=>by rw [(Blk.new w _ _).cell,Nat.zero_add];simpa using hu⟩⟩,fun p hp=>?_⟩)
 simp only [List.mem_cons,List.not_mem_nil,or_false]at hp
 rcases hp with rfl | rfl | rfl
 ·exact r1.a1o (hS.a0i kk)
 ·exact r2.a1o (hS.a0i kk)
 ·exact r3.a1o (hS.a0i kk)
end
theorem d9v{w:World}{g:Nat}{t:TypeId}{v1 v2:Value}{x1 x2:List UInt8}(hb:Blk w g t #[v1,v2])(h1:Rd w 1 v1 x1.length (bv x1))(h2:Rd w 1 v2 x2.length (bv x2)):Parts w (.slice (some ⟨g,0,none⟩) 2 2) [(v1,x1),(v2,x2)]:=by
 refine⟨⟨_,_,rfl,rfl,Nat.le_refl _,fun _=>⟨g,0,rfl,fun j u hu=>by rw [hb.cell,Nat.zero_add];simpa using hu⟩⟩,fun p hp=>?_⟩
 simp only [List.mem_cons,List.not_mem_nil,or_false]at hp
 rcases hp with rfl | rfl
 ·exact h1
 ·exact h2
theorem a8e.from32{w:World}{v:Value}{s:List UInt8}(h:a8e s v w)(hs:s.length=64):∃A c,v= .slice (some A) 64 c∧64≤c∧Rd w 1 (.slice (some ⟨A.block,A.off + 32,none⟩) 32 (c - 32)) 32 (bv (s.drop 32))∧A=⟨A.block,A.off,none⟩:=by
 unfold a8e at h
 rw [hs]at h
 obtain⟨b,o,c,rfl,hc,hx⟩:=h.at_ (by decide)
 refine⟨⟨b,o,none⟩,c,rfl,hc,⟨_,_,rfl,by simp [hs],by omega,fun _=>⟨b,o + 32,rfl,fun j u hu=>?_⟩⟩,rfl⟩
 rw [bv,List.map_drop,List.getElem?_drop]at hu
 have:=hx (32 + j) u hu
 rwa [←Nat.add_assoc]at this
set_option maxHeartbeats 3200000 in
theorem c6v{dc:Nat→Int}{bs n A s d r RB h x y SB m t2 t3:List UInt8}{b p:R4}(hl:bs.length=32)(hn:n.length=32)(hA:A.length=32)(hs:s.length=64)(hd:s.drop 32=d)(hr:r.length=32)(hR:RB.length=32)(hh:h.length=32)(hx:x.length=32)(hy:y.length=32)(hS:SB.length=32)(mv:Value)(w:World)(hm:a8e m mv w)
 (cn:∀u,Calls Tryz.prog 43 #[ab bs] u fun e w'=>e= .returned (ab n)∧Kept [] u w')
 (ck:∀u,Calls Tryz.prog 11 #[nu dc,ab bs] u fun e w'=>e= .returned (ab A)∧Kept [] u w')
 (cl1:∀u pv v,Parts u pv [(v,bs)]→Calls Tryz.prog 45 #[pv] u fun e w'=>∃v',e= .returned v'∧a8e s v' w'∧Kept [] u w')
 (cl2:∀u pv v v2,Parts u pv [(v,d),(v2,m)]→Calls Tryz.prog 45 #[pv] u fun e w'=>∃v',e= .returned v'∧a8e t2 v' w'∧Kept [] u w')
 (cm2:∀u v,a8e t2 v u→Calls Tryz.prog 44 #[v] u fun e w'=>e= .returned (ab r)∧Kept [] u w')
 (cb:RbC dc b) (cr:RmuC dc b r p) (cy:e7r p RB)
 (cl3:∀u pv v v2 v3,Parts u pv [(v,RB),(v2,A),(v3,m)]→Calls Tryz.prog 45 #[pv] u fun e w'=>∃v',e= .returned v'∧a8e t3 v' w'∧Kept [] u w')
 (cm3:∀u v,a8e t3 v u→Calls Tryz.prog 44 #[v] u fun e w'=>e= .returned (ab h)∧Kept [] u w')
 (cm4:∀u v,a8e n v u→Calls Tryz.prog 44 #[v] u fun e w'=>e= .returned (ab x)∧Kept [] u w')
 (cmu:∀u,Calls Tryz.prog 47 #[ab h,ab x] u fun e w'=>e= .returned (ab y)∧Kept [] u w')
 (cad:∀u,Calls Tryz.prog 46 #[ab r,ab y] u fun e w'=>e= .returned (ab SB)∧Kept [] u w') :
 Calls Tryz.prog 12 #[nu dc,ab bs,mv] w fun e w'=>e= .returned (ab (RB ++ SB))∧Kept [] w w':=by
 replace hl:=hjd hl
 replace hn:=hjd hn
 replace hA:=hjd hA
 replace hs:=hjd hs
 replace hd:=hjd hd
 replace hr:=hjd hr
 replace hR:=hjd hR
 replace hh:=hjd hh
 replace hx:=hjd hx
 replace hy:=hjd hy
 replace hS:=hjd hS
 replace hm:=hjd hm
 replace cn:=hjd cn
 replace ck:=hjd ck
 replace cl1:=hjd cl1
 replace cl2:=hjd cl2
 replace cm2:=hjd cm2
 replace cb:=hjd cb
 replace cr:=hjd cr
 replace cy:=hjd cy
 replace cl3:=hjd cl3
 replace cm3:=hjd cm3
 replace cm4:=hjd cm4
 replace cmu:=hjd cmu
 replace cad:=hjd cad
 obtain⟨MA,mc,e0,_,_,_⟩:=id hm.out
 subst e0
 go_enter Tryz.func12,Tryz.ntmps12
 go_wp2_with (first
  | ((with_reducible refine a0q 3 ?_);(refine a0m (o:=⟨some 3,_,_,_,_,_⟩) (v:=nu dc) rfl (.tmp 0) rfl rfl ?_);intro g3 w3 m3;have B3:=hjd (show Blk w3 g3 29 (iv (fam 16 dc)).toArray from m3.blk);have KK:=hjd m3.kept;clear m3)
  | ((with_reducible refine a0q 4 ?_);(refine a0m (o:=⟨some 4,_,_,_,_,_⟩) (v:=ab bs) rfl (.tmp 1) rfl rfl ?_);intro g4 w4 m4;have B4:=hjd m4.blk;replace B3:=hjd (B3.out.kept m4.kept (by simp));replace KK:=hjd (KK.out.a0i m4.kept);clear m4)
  | ((with_reducible refine a0q 6 ?_);(refine a0f (o:=⟨some 6,_,_,_,_,_⟩) rfl rfl b4x ?_);intro g6 w6 m6;have B6:=hjd m6.blk;have L6:=hjd (Nat.le_trans KK.out.size m6.le);replace B3:=hjd (B3.out.kept m6.kept (by simp));replace B4:=hjd (B4.out.kept m6.kept (by simp));replace KK:=hjd (KK.out.a0i m6.kept);clear m6)
  | ((with_reducible refine a0q 15 ?_);refine a0a (cs:=(bv bs).toArray) (o:=⟨some 15,_,_,_,_,_⟩) a1u.row rfl (.tmp 4) rfl rfl B4.out (by simpa using hl.out) ?_)
  | (go_at_call 43;(with_reducible refine(cn.out _).mono ?_);rintro e v ⟨rfl,k⟩
     replace B3:=hjd (B3.out.kept k (by simp))
     replace B4:=hjd (B4.out.kept k (by simp))
     replace B6:=hjd (B6.out.kept k (by simp))
     replace KK:=hjd (KK.out.a0i k)
     clear k)
  | ((with_reducible refine a0q 7 ?_);(refine a0f (o:=⟨some 7,_,_,_,_,_⟩) rfl rfl a3h ?_);intro g7 w7 m7
     refine a0b (cs:=(bv n).toArray) (o:=⟨none,Op.store 22 (.tmp 7) (.tmp 16),_,_,_,_⟩) a1u.row rfl (.tmp 7) (.tmp 16) rfl rfl rfl m7.blk (by rfl) (by simpa using hn.out) (a2a _) ?_
     intro wb7 b7 k7
     have kk:=m7.kept.a0n k7 m7.le
     have B7:=hjd b7
     replace B3:=hjd (B3.out.kept kk (by simp))
     replace B4:=hjd (B4.out.kept kk (by simp))
     replace B6:=hjd (B6.out.kept kk (by simp))
     replace KK:=hjd (KK.out.a0i kk)
     clear m7 b7 k7 kk)
  | ((with_reducible refine a0q 17 ?_);refine a0a (cs:=(iv (fam 16 dc)).toArray) (o:=⟨some 17,_,_,_,_,_⟩) a3c rfl (.tmp 3) rfl rfl B3.out rfl ?_)
  | ((with_reducible refine a0q 18 ?_);refine a0a (cs:=(bv bs).toArray) (o:=⟨some 18,_,_,_,_,_⟩) a1u.row rfl (.tmp 4) rfl rfl B4.out (by simpa using hl.out) ?_)
  | (go_at_call 11;(with_reducible refine(ck.out _).mono ?_);rintro e v ⟨rfl,k⟩
     replace B3:=hjd (B3.out.kept k (by simp))
     replace B4:=hjd (B4.out.kept k (by simp))
     replace B6:=hjd (B6.out.kept k (by simp))
     replace B7:=hjd (B7.out.kept k (by simp))
     replace KK:=hjd (KK.out.a0i k)
     clear k)
  | ((with_reducible refine a0q 8 ?_);(refine a0f (o:=⟨some 8,_,_,_,_,_⟩) rfl rfl a3h ?_);intro g8 w8 m8
     refine a0b (cs:=(bv A).toArray) (o:=⟨none,Op.store 22 (.tmp 8) (.tmp 19),_,_,_,_⟩) a1u.row rfl (.tmp 8) (.tmp 19) rfl rfl rfl m8.blk (by rfl) (by simpa using hA.out) (a2a _) ?_
     intro wb8 b8 k8
     have kk:=m8.kept.a0n k8 m8.le
     have B8:=hjd b8
     replace B3:=hjd (B3.out.kept kk (by simp))
     replace B4:=hjd (B4.out.kept kk (by simp))
     replace B6:=hjd (B6.out.kept kk (by simp))
     replace B7:=hjd (B7.out.kept kk (by simp))
     replace KK:=hjd (KK.out.a0i kk)
     clear m8 b8 k8 kk)
  | ((with_reducible refine a0q 21 ?_);(refine a2b (o:=⟨some 21,_,_,_,_,_⟩) (v0:=.slice (some ⟨g4,0,none⟩) 32 32) (cells:=#[.slice (some ⟨g4,0,none⟩) 32 32]) rfl a3n rfl rfl (by simp) rfl rfl ?_);intro g21 w21 m21
     have PP:=hjd (c0w (x:=bs) m21.blk (by rw [hl.out];exact Blk.rd (B4.out.kept m21.kept (by simp)) (by simp [hl.out]) (Nat.le_refl _)))
     replace B3:=hjd (B3.out.kept m21.kept (by simp))
     replace B4:=hjd (B4.out.kept m21.kept (by simp))
     replace B6:=hjd (B6.out.kept m21.kept (by simp))
     replace B7:=hjd (B7.out.kept m21.kept (by simp))
     replace B8:=hjd (B8.out.kept m21.kept (by simp))
     replace KK:=hjd (KK.out.a0i m21.kept)
     clear m21)
  | (go_at_call 45;(with_reducible refine(cl1.out _ _ _ PP.out).mono ?_);rintro e v ⟨v',rfl,r22,k⟩
     obtain⟨⟨q1,q2,q3⟩,c22,rfl,hc22,R23,hq⟩:=r22.from32 hs.out
     obtain rfl:q3=none:=by cases hq;rfl
     rw [hd.out]at R23
     replace R23:=hjd R23
     clear hq
     replace B3:=hjd (B3.out.kept k (by simp))
     replace B4:=hjd (B4.out.kept k (by simp))
     replace B6:=hjd (B6.out.kept k (by simp))
     replace B7:=hjd (B7.out.kept k (by simp))
     replace B8:=hjd (B8.out.kept k (by simp))
     replace KK:=hjd (KK.out.a0i k)
     clear k PP)
  | ((with_reducible refine a0q 25 ?_);(refine c0o (o:=⟨some 25,_,_,_,_,_⟩) (v0:=.slice (some ⟨q1,q2 + 32,none⟩) 32 (c22 - 32)) (v1:=.slice MA m.length mc) rfl a3n rfl rfl rfl rfl rfl ?_);intro g25 w25 m25
     have hdl:=hjd (show d.length=32 by rw [←hd.out];simp [hs.out])
     have PP:=hjd (d9v (x1:=d) (x2:=m) m25.blk (by rw [hdl.out];exact R23.out.a1o m25.kept) ((hm.out.a1o KK.out).a1o m25.kept))
     replace B3:=hjd (B3.out.kept m25.kept (by simp))
     replace B4:=hjd (B4.out.kept m25.kept (by simp))
     replace B6:=hjd (B6.out.kept m25.kept (by simp))
     replace B7:=hjd (B7.out.kept m25.kept (by simp))
     replace B8:=hjd (B8.out.kept m25.kept (by simp))
     replace KK:=hjd (KK.out.a0i m25.kept)
     clear m25 R23)
  | (go_at_call 45;(with_reducible refine(cl2.out _ _ _ _ PP.out).mono ?_);rintro e v ⟨v26,rfl,r26,k⟩
     have R26:=hjd r26
     replace B3:=hjd (B3.out.kept k (by simp))
     replace B4:=hjd (B4.out.kept k (by simp))
     replace B6:=hjd (B6.out.kept k (by simp))
     replace B7:=hjd (B7.out.kept k (by simp))
     replace B8:=hjd (B8.out.kept k (by simp))
     replace KK:=hjd (KK.out.a0i k)
     clear k PP r26)
  | (go_at_call 44;(with_reducible refine(cm2.out _ _ R26.out).mono ?_);rintro e v ⟨rfl,k⟩
     replace B3:=hjd (B3.out.kept k (by simp))
     replace B4:=hjd (B4.out.kept k (by simp))
     replace B6:=hjd (B6.out.kept k (by simp))
     replace B7:=hjd (B7.out.kept k (by simp))
     replace B8:=hjd (B8.out.kept k (by simp))
     replace KK:=hjd (KK.out.a0i k)
     clear R26
     clear k)
  | ((with_reducible refine a0q 9 ?_);(refine a0f (o:=⟨some 9,_,_,_,_,_⟩) rfl rfl a3h ?_);intro g9 w9 m9
     refine a0b (cs:=(bv r).toArray) (o:=⟨none,Op.store 22 (.tmp 9) (.tmp 27),_,_,_,_⟩) a1u.row rfl (.tmp 9) (.tmp 27) rfl rfl rfl m9.blk (by rfl) (by simpa using hr.out) (a2a _) ?_
     intro wb9 b9 k9
     have kk:=m9.kept.a0n k9 m9.le
     have B9:=hjd b9
     replace B3:=hjd (B3.out.kept kk (by simp))
     replace B4:=hjd (B4.out.kept kk (by simp))
     replace B6:=hjd (B6.out.kept kk (by simp))
     replace B7:=hjd (B7.out.kept kk (by simp))
     replace B8:=hjd (B8.out.kept kk (by simp))
     replace KK:=hjd (KK.out.a0i kk)
     clear m9 b9 k9 kk))
 refine Txt.a4l (by kernel_rfl) [Txt.isV (nu dc),Txt.isV (nu dc),Txt.isV b.v,Txt.isV (ab r),Txt.isV p.v,Txt.isV (ab RB),Txt.a4z wb9.heap.size 22 (ab (a0p 32)).cells] (fun u=>Kept [] wb9 u) (by kernel_rfl) rfl rfl (by kernel_rfl) ((Kept.refl [] wb9).drew) (fun u u2 h k=>h.a0i k) ⟨?_,?_,?_,?_,?_,?_,?_,trivial⟩ ?_
 ·exact Txt.a2e a3c rfl rfl (by decide) B3.out rfl
 ·exact Txt.a2e a3c rfl rfl (by decide) B3.out rfl
 ·refine Txt.a1w rfl b2f (fun _ _ _ h _=>h) fun a u hS hr _=>?_
  have e0:a.tmps.getD 29 undef=(nu dc):=hr 1 _ 29 _ rfl rfl rfl ⟨⟨1,.data⟩,by simp,rfl,rfl⟩
  have hm:Array.map a.eval #[.tmp 29]= #[(nu dc)]:=by simp only [List.map_toArray,List.map_cons,List.map_nil,Act.eval,e0]
  rw [hm]
  refine(cb.out u).mono ?_
  rintro e u2 ⟨rfl,hk⟩
  exact⟨_,rfl,rfl,hk⟩
 ·exact Txt.a2e a1u.row rfl rfl (by decide) B9.out (by simpa using hr.out)
 ·refine Txt.a1w rfl b4r (fun _ _ _ h _=>h) fun a u hS hr _=>?_
  have e0:a.tmps.getD 28 undef=(nu dc):=hr 0 _ 28 _ rfl rfl rfl ⟨⟨0,.data⟩,by simp,rfl,rfl⟩
  have e1:a.tmps.getD 30 undef=b.v:=hr 2 _ 30 _ rfl rfl rfl ⟨⟨2,.data⟩,by simp,rfl,rfl⟩
  have e2:a.tmps.getD 31 undef=(ab r):=hr 3 _ 31 _ rfl rfl rfl ⟨⟨3,.data⟩,by simp,rfl,rfl⟩
  have hm:Array.map a.eval #[.tmp 28,.tmp 30,.tmp 31]= #[(nu dc),b.v,(ab r)]:=by simp only [List.map_toArray,List.map_cons,List.map_nil,Act.eval,e0,e1,e2]
  rw [hm]
  refine(cr.out u).mono ?_
  rintro e u2 ⟨rfl,hk⟩
  exact⟨_,rfl,rfl,hk⟩
 ·refine Txt.a1w rfl b0z (fun _ _ _ h _=>h) fun a u hS hr _=>?_
  have e0:a.tmps.getD 32 undef=p.v:=hr 4 _ 32 _ rfl rfl rfl ⟨⟨4,.data⟩,by simp,rfl,rfl⟩
  have hm:Array.map a.eval #[.tmp 32]= #[p.v]:=by simp only [List.map_toArray,List.map_cons,List.map_nil,Act.eval,e0]
  rw [hm]
  refine(cy.out u).mono ?_
  rintro e u2 ⟨rfl,hk⟩
  exact⟨_,rfl,rfl,hk⟩
 ·exact Txt.a4m rfl a3h
 intro v wc kc hv
 have v0:v 0=(nu dc):=hv 0 _ rfl
 have v1:v 1=(nu dc):=hv 1 _ rfl
 have v2:v 2=b.v:=hv 2 _ rfl
 have v3:v 3=(ab r):=hv 3 _ rfl
 have v4:v 4=p.v:=hv 4 _ rfl
 have v5:v 5=(ab RB):=hv 5 _ rfl
 have h6:Txt.a4z wb9.heap.size 22 (ab (a0p 32)).cells (v 6) wc:=hv 6 _ rfl
 clear hv
 simp [Txt.a0w,List.range,List.range.loop,Act.put,v0,v1,v2,v3,v4,v5]
 generalize v 6=u6 at *
 clear v0 v1 v2 v3 v4 v5
 obtain⟨g10,rfl,b10,l10⟩:=h6.get
 clear h6
 refine Txt.a7j a1u.row rfl rfl rfl b10 (by rfl) (by simpa using hR.out) (a2a _) ?_
 intro wd b10 k10
 simp [Act.put]
 have kk:=kc.a0n k10 l10
 have B10:=hjd b10
 replace B3:=hjd (B3.out.kept kk (by simp))
 replace B6:=hjd (B6.out.kept kk (by simp))
 replace B7:=hjd (B7.out.kept kk (by simp))
 replace B8:=hjd (B8.out.kept kk (by simp))
 replace B9:=hjd (B9.out.kept kk (by simp))
 replace KK:=hjd (KK.out.a0i kk)
 clear B4 kc kk b10 k10 l10
 have hm4:=hjd (show Rd wd 1 (.slice MA m.length mc) m.length (bv m)from hm.out.a1o KK.out)
 have D8:=hjd (show Rd wd 1 (.slice (some ⟨g8,0,none⟩) 32 32) A.length (bv A)from by rw [hA.out];exact Blk.rd B8.out (by simp [hA.out]) (Nat.le_refl _))
 have D10:=hjd (show Rd wd 1 (.slice (some ⟨g10,0,none⟩) 32 32) RB.length (bv RB)from by rw [hR.out];exact Blk.rd B10.out (by simp [hR.out]) (Nat.le_refl _))
 go_wp2_with fail
 refine Txt.a4l (by kernel_rfl) [Txt.isV (.slice (some ⟨g10,0,none⟩) 32 32),Txt.isV (.slice (some ⟨g8,0,none⟩) 32 32),Txt.isV (.slice MA m.length mc),a7z [((.slice (some ⟨g10,0,none⟩) 32 32),RB),((.slice (some ⟨g8,0,none⟩) 32 32),A),(.slice MA m.length mc,m)],a8e t3,Txt.isV (ab h),Txt.a4z wd.heap.size 22 (ab (a0p 32)).cells] (fun u=>Kept [] wd u) (by kernel_rfl) rfl rfl (by kernel_rfl) ((Kept.refl [] wd).drew) (fun u u2 h k=>h.a0i k) ⟨?_,?_,?_,?_,?_,?_,?_,trivial⟩ ?_
 ·exact a2s (x:=10) rfl (by decide) fun a W hx=>a5k rfl W hx
 ·exact a2s (x:=8) rfl (by decide) fun a W hx=>a5k rfl W hx
 ·exact a2s (x:=2) rfl (by decide) fun a W hx=>a9s rfl W hx
 ·exact c7e (x:=34) (y:=35) (z:=36) (i:=0) (j:=1) (k:=2) rfl rfl rfl rfl rfl rfl rfl ⟨⟨0,.data⟩,by simp,rfl,rfl⟩ rfl rfl rfl ⟨⟨1,.data⟩,by simp,rfl,rfl⟩ rfl rfl rfl ⟨⟨2,.data⟩,by simp,rfl,rfl⟩ D10.out D8.out hm4.out
 ·refine Txt.a1w rfl c2t (fun v u u2 h k=>a8e.a1o h k) fun a u hS hr _=>?_
  have e0:=hr 3 _ 37 _ rfl rfl rfl ⟨⟨3,.data⟩,by simp,rfl,rfl⟩
  have hm:Array.map a.eval #[.tmp 37]= #[a.tmps.getD 37 undef]:=by simp only [List.map_toArray,List.map_cons,List.map_nil,Act.eval]
  rw [hm]
  refine(cl3.out _ _ _ _ _ e0).mono ?_
  rintro e u2 ⟨v,rfl,hv,hk⟩
  exact⟨v,rfl,hv,hk⟩
 ·refine Txt.a1w rfl b4f (fun _ _ _ h _=>h) fun a u hS hr _=>?_
  have e0:=hr 4 _ 38 _ rfl rfl rfl ⟨⟨4,.data⟩,by simp,rfl,rfl⟩
  have hm:Array.map a.eval #[.tmp 38]= #[a.tmps.getD 38 undef]:=by simp only [List.map_toArray,List.map_cons,List.map_nil,Act.eval]
  rw [hm]
  refine(cm3.out _ _ e0).mono ?_
  rintro e u2 ⟨rfl,hk⟩
  exact⟨_,rfl,rfl,hk⟩
 ·exact Txt.a4m rfl a3h
 intro v wc kc hv
 have v0:v 0=(.slice (some ⟨g10,0,none⟩) 32 32):=hv 0 _ rfl
 have v1:v 1=(.slice (some ⟨g8,0,none⟩) 32 32):=hv 1 _ rfl
 have v2:v 2=(.slice MA m.length mc):=hv 2 _ rfl
 have v5:v 5=(ab h):=hv 5 _ rfl
 have h6:Txt.a4z wd.heap.size 22 (ab (a0p 32)).cells (v 6) wc:=hv 6 _ rfl
 clear hv
 simp [Txt.a0w,List.range,List.range.loop,Act.put,v0,v1,v2,v5]
 generalize v 3=u3 at *
 generalize v 4=u4 at *
 generalize v 6=u6 at *
 clear v0 v1 v2 v5
 obtain⟨g11,rfl,b11,l11⟩:=h6.get
 clear h6
 refine Txt.a7j a1u.row rfl rfl rfl b11 (by rfl) (by simpa using hh.out) (a2a _) ?_
 intro we b11 k11
 simp [Act.put]
 have kk:=kc.a0n k11 l11
 have B11:=hjd b11
 replace B3:=hjd (B3.out.kept kk (by simp))
 replace B6:=hjd (B6.out.kept kk (by simp))
 replace B7:=hjd (B7.out.kept kk (by simp))
 replace B9:=hjd (B9.out.kept kk (by simp))
 replace B10:=hjd (B10.out.kept kk (by simp))
 replace KK:=hjd (KK.out.a0i kk)
 clear hm4 D8 D10 B8 kc kk b11 k11 l11
 have D7:=hjd (show a8e n (.slice (some ⟨g7,0,none⟩) 32 32) we from by unfold a8e;rw [hn.out];exact Blk.rd B7.out (by simp [hn.out]) (Nat.le_refl _))
 go_wp2_with fail
 refine Txt.a4l (by kernel_rfl) [Txt.isV (ab r),Txt.isV (ab h),Txt.isV (.slice (some ⟨g7,0,none⟩) 32 32),Txt.isV (ab x),Txt.isV (ab y),Txt.isV (ab SB),Txt.a4z we.heap.size 22 (ab (a0p 32)).cells] (fun u=>Kept [] we u) (by kernel_rfl) rfl rfl (by kernel_rfl) ((Kept.refl [] we).drew) (fun u u2 h k=>h.a0i k) ⟨?_,?_,?_,?_,?_,?_,?_,trivial⟩ ?_
 ·exact Txt.a2e a1u.row rfl rfl (by decide) B9.out (by simpa using hr.out)
 ·exact Txt.a2e a1u.row rfl rfl (by decide) B11.out (by simpa using hh.out)
 ·exact a2s (x:=7) rfl (by decide) fun a W hx=>a5k rfl W hx
 ·refine Txt.a1w rfl b4f (fun _ _ _ h _=>h) fun a u hS hr _=>?_
  have e0:a.tmps.getD 42 undef=(.slice (some ⟨g7,0,none⟩) 32 32):=hr 2 _ 42 _ rfl rfl rfl ⟨⟨2,.data⟩,by simp,rfl,rfl⟩
  have hm:Array.map a.eval #[.tmp 42]= #[(.slice (some ⟨g7,0,none⟩) 32 32)]:=by simp only [List.map_toArray,List.map_cons,List.map_nil,Act.eval,e0]
  rw [hm]
  refine(cm4.out _ _ (D7.out.a1o hS)).mono ?_
  rintro e u2 ⟨rfl,hk⟩
  exact⟨_,rfl,rfl,hk⟩
 ·refine Txt.a1w rfl c1a (fun _ _ _ h _=>h) fun a u hS hr _=>?_
  have e0:a.tmps.getD 41 undef=(ab h):=hr 1 _ 41 _ rfl rfl rfl ⟨⟨1,.data⟩,by simp,rfl,rfl⟩
  have e1:a.tmps.getD 43 undef=(ab x):=hr 3 _ 43 _ rfl rfl rfl ⟨⟨3,.data⟩,by simp,rfl,rfl⟩
  have hm:Array.map a.eval #[.tmp 41,.tmp 43]= #[(ab h),(ab x)]:=by simp only [List.map_toArray,List.map_cons,List.map_nil,Act.eval,e0,e1]
  rw [hm]
  refine(cmu.out u).mono ?_
  rintro e u2 ⟨rfl,hk⟩
  exact⟨_,rfl,rfl,hk⟩
 ·refine Txt.a1w rfl b9p (fun _ _ _ h _=>h) fun a u hS hr _=>?_
  have e0:a.tmps.getD 40 undef=(ab r):=hr 0 _ 40 _ rfl rfl rfl ⟨⟨0,.data⟩,by simp,rfl,rfl⟩
  have e1:a.tmps.getD 44 undef=(ab y):=hr 4 _ 44 _ rfl rfl rfl ⟨⟨4,.data⟩,by simp,rfl,rfl⟩
  have hm:Array.map a.eval #[.tmp 40,.tmp 44]= #[(ab r),(ab y)]:=by simp only [List.map_toArray,List.map_cons,List.map_nil,Act.eval,e0,e1]
  rw [hm]
  refine(cad.out u).mono ?_
  rintro e u2 ⟨rfl,hk⟩
  exact⟨_,rfl,rfl,hk⟩
 ·exact Txt.a4m rfl a3h
 intro v wc kc hv
 have v0:v 0=(ab r):=hv 0 _ rfl
 have v1:v 1=(ab h):=hv 1 _ rfl
 have v2:v 2=(.slice (some ⟨g7,0,none⟩) 32 32):=hv 2 _ rfl
 have v3:v 3=(ab x):=hv 3 _ rfl
 have v4:v 4=(ab y):=hv 4 _ rfl
 have v5:v 5=(ab SB):=hv 5 _ rfl
 have h6:Txt.a4z we.heap.size 22 (ab (a0p 32)).cells (v 6) wc:=hv 6 _ rfl
 clear hv
 simp [Txt.a0w,List.range,List.range.loop,Act.put,v0,v1,v2,v3,v4,v5]
 generalize v 6=u6 at *
 clear v0 v1 v2 v3 v4 v5
 obtain⟨g12,rfl,b12,l12⟩:=h6.get
 clear h6
 refine Txt.a7j a1u.row rfl rfl rfl b12 (by rfl) (by simpa using hS.out) (a2a _) ?_
 intro wf b12 k12
 simp [Act.put]
 have kk:=kc.a0n k12 l12
 have B12:=hjd b12
 replace B6:=hjd (B6.out.kept kk (by simp))
 replace B10:=hjd (B10.out.kept kk (by simp))
 replace KK:=hjd (KK.out.a0i kk)
 clear B3 B7 B9 B11 D7 kc kk b12 k12 l12
 go_wp2_with ((with_reducible refine a0q 13 ?_);(refine a0f (o:=⟨some 13,_,_,_,_,_⟩) rfl rfl b4x ?_);intro g13 wg m13;have B13:=hjd m13.blk;have L13:=hjd (Nat.le_trans KK.out.size m13.le);have N6:=hjd (m13.ne B6.out.lt);have N10:=hjd (m13.ne B10.out.lt);have N12:=hjd (m13.ne B12.out.lt);replace B6:=hjd (B6.out.kept m13.kept (by simp));replace B10:=hjd (B10.out.kept m13.kept (by simp));replace B12:=hjd (B12.out.kept m13.kept (by simp));replace KK:=hjd (KK.out.a0i m13.kept);clear m13)
 go_loopg [14] 32 (fun f i wk=>∃k:Nat,k≤32∧f + k=32∧i= .int .i64 k∧Blk wk g13 32 (bv (xo RB SB k)).toArray∧Kept [g13] wg wk)
 case atStart=>exact⟨0,Nat.zero_le _,rfl,rfl,by rw [e3x];exact B13.out,Kept.refl _ _⟩
 case round=>
  obtain⟨k,hk,hf,rfl,hb,hkw⟩:=hrel
  by_cases hlt:k < 32
  ·have c1:=a6k (i:=k) (B10.out.kept hkw (by simpa using N10.out)) (by rw [hR.out];exact hlt) rfl
   have c2:=a6k (i:=k) (B12.out.kept hkw (by simpa using N12.out)) (by rw [hS.out];exact hlt) rfl
   have hfz:=hb.frozen k
   have c3:=a6k (i:=k) hb (by rw [e0z];omega) rfl
   have hst:=hjd (e4h RB SB k hlt▸b4e (i:=32 + k) (b4e (i:=k) hb (RB.getD k 0)) (SB.getD k 0))
   have c4:=a6k (i:=32 + k) (b4e (i:=k) hb (RB.getD k 0)) (by rw [List.length_set,e0z];omega) rfl
   have hfz4:=(b4e (i:=k) hb (RB.getD k 0)).frozen (32 + k)
   have c5:=a6k (i:=k) ((B12.out.kept hkw (by simpa using N12.out)).far (p:=⟨g13,k,none⟩) N12.out (.int .u8 ((RB.getD k 0).toNat:Int))) (by rw [hS.out];exact hlt) rfl
   have hk2:=hjd ((hkw.setCell (p:=⟨g13,k,none⟩) (.inl (by simp)) (.int .u8 ((RB.getD k 0).toNat:Int))).setCell (p:=⟨g13,32 + k,none⟩) (.inl (by simp)) (.int .u8 ((SB.getD k 0).toNat:Int)))
   clear hb hkw
   generalize RB.getD k 0=rk at *
   generalize SB.getD k 0=sk at *
   generalize (xo RB SB k).getD k 0=xk at *
   generalize ((xo RB SB k).set k rk).getD (32 + k) 0=yk at *
   go_wp2_with fail
   trace_state
   go_roundg (32 - (k + 1))
   case measure=>omega
   case rel=>exact⟨k + 1,by omega,by omega,by go_num,hst.out,hk2.out⟩
  ·obtain rfl:k=32:=by omega
   rw [xo_all _ _ hR.out hS.out]at hb
   have hb2:=hjd hb
   have hk2:=hjd hkw
   have hO:=hjd (show(RB ++ SB).length=64 by simp [hR.out,hS.out])
   clear hb hkw
   obtain⟨OUT,hOO⟩:∃O,O=RB ++ SB:=⟨_,rfl⟩
   rw [←hOO]at hb2 hO
   replace hOO:=hjd hOO
   go_wp2_with (first
    | (refine a0a (cs:=(bv OUT).toArray) (o:=⟨some 61,_,_,_,_,_⟩) Q.b4d rfl (.tmp 13) rfl rfl hb2.out (by simpa using hO.out) ?_)
    | (refine a0b (cs:=(bv OUT).toArray) (o:=⟨none,Op.store 32 (.tmp 6) (.tmp 61),_,_,_,_⟩) Q.b4d rfl (.tmp 6) (.tmp 61) rfl rfl rfl (B6.out.kept hk2.out (by simpa using N6.out)) (by rfl) (by simpa using hO.out) (a2a _) ?_;intro wz bz kz))
   exact a0y Q.b4d rfl rfl bz (by simpa using hO.out) rfl ⟨by rw [hOO.out],(KK.out.a0n hk2.out L13.out).a0n kz L6.out⟩
end Go.Proofs.YtdbngnlpafcogaaGreat
