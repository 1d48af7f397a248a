/-
  The sign: Verify.
-/
import Derived.Test.YtdbngnlpafcogaaGreatZmSg4
set_option maxRecDepth 100000
namespace Go.Proofs.YtdbngnlpafcogaaGreat
open Go.RowKit Go.Mem Go.Txt
theorem e6l{w:World}{g:Nat}{bt:TypeId}{s:List UInt8}(hb:Blk w g bt (bv s).toArray)(h:s.length=64):Rd w 1 (.slice (some ⟨g,0,none⟩) 32 64) 32 (bv (s.take 32)):=
 ⟨_,_,rfl,by simp [h],by decide,fun _=>⟨g,0,rfl,fun j u hu=>by
  rw [hb.cell,Nat.zero_add]
  rw [bv,List.map_take,List.getElem?_take]at hu
  split at hu
  ·simpa [bv]using hu
  ·cases hu⟩⟩
theorem c1t{w:World}{g:Nat}{bt:TypeId}{s:List UInt8}(hb:Blk w g bt (bv s).toArray)(h:s.length=64):w.rangeAt g 32 (bv (s.drop 32)):=by
 refine Blk.range (bt:=bt) (pre:=bv (s.take 32)) (post:=[]) ?_ (by simp [h])
 have e:bv (s.take 32) ++ (bv (s.drop 32) ++ [])=bv s:=by
  rw [List.append_nil,bv,bv,←List.map_append,List.take_append_drop]
 rw [e];exact hb
theorem b8f(g:Nat)(W:World):(Instr.arrayAt 22 (.slice (some ⟨g,32,none⟩) 32 32)).run Tryz.prog W= .ok (.pointer (some ⟨g,32,none⟩)) W:=by kernel_rfl
theorem b5n{a:Act}{o:Oper}{x g:Nat}(ho:o.op= .slice 32 (.tmp x) none (some (.const (.int .i64 32))) none)(W:World)(hx:a.tmps.getD x undef= .pointer (some ⟨g,0,none⟩)):(execOp a.eval o).run Tryz.prog W= .ok (.value (.slice (some ⟨g,0,none⟩) 32 64)) W:=by
 unfold execOp
 simp only [ho,Sem.run_bind,Act.eval,hx]
 kernel_rfl
theorem d6q{a:Act}{o:Oper}{x g:Nat}(ho:o.op= .sliceToArrayPointer 22 (.tmp x))(W:World)(hx:a.tmps.getD x undef= .slice (some ⟨g,0,none⟩) 32 64):(execOp a.eval o).run Tryz.prog W= .ok (.value (.pointer (some ⟨g,0,none⟩))) W:=by
 unfold execOp
 simp only [ho,Sem.run_bind,Act.eval,hx]
 kernel_rfl
section
variable {l:List Oper} {vs:List Rel} {a0:Act} {w0:World} {o:Oper}
theorem b3w{v:Value}(hc:∀(a:Act) w,Kept [] w0 w→(∀(j:Nat) (r':Rel) d oj,vs[j]?=some r'→l[j]?=some oj→oj.dst=some d→a2f o j→r' (a.tmps.getD d undef) w)→(∀t,(∀x∈l,x.dst≠some t)→a.tmps.getD t undef=a0.tmps.getD t undef)→
 (execOp a.eval o).run Tryz.prog w= .ok (.value v) w):a5y Tryz.prog l vs (fun u=>Kept [] w0 u) a0 o (isV v):=
 ⟨fun _ _ _ h _=>h,fun a w _ _ hS hr hoth h=>c1z (hc a w hS hr hoth) (h _ _ (Kept.refl _ _) rfl)⟩
theorem c6z{f:FuncId}{ats:Array TypeId}{v u u2 u3:Value}{x j x2 j2 x3 j3:Nat}{oj oj2 oj3:Oper}(ho:o.op= .call {callee:=.value (.func f),args:=#[.tmp x,.tmp x2,.tmp x3],argTypes:=ats})
 (hen:∀(xs:Array Value) w,(callFunc f xs).run Tryz.prog w= .ok (.enter f xs) w) (hj:vs[j]?=some (isV u)) (hl:l[j]?=some oj) (hd:oj.dst=some x) (hb:a2f o j) (hj2:vs[j2]?=some (isV u2)) (hl2:l[j2]?=some oj2) (hd2:oj2.dst=some x2) (hb2:a2f o j2) (hj3:vs[j3]?=some (isV u3)) (hl3:l[j3]?=some oj3) (hd3:oj3.dst=some x3) (hb3:a2f o j3)
 (hc:∀w,Calls Tryz.prog f #[u,u2,u3] w fun e w'=>e= .returned v∧Kept [] w w'):a5y Tryz.prog l vs (fun u=>Kept [] w0 u) a0 o (isV v):=
 a1w ho hen (fun _ _ _ h _=>h) fun a w _ hr _=>by
  have e:a.tmps.getD x undef=u:=hr j _ x oj hj hl hd hb
  have e2:a.tmps.getD x2 undef=u2:=hr j2 _ x2 oj2 hj2 hl2 hd2 hb2
  have e3:a.tmps.getD x3 undef=u3:=hr j3 _ x3 oj3 hj3 hl3 hd3 hb3
  have:Array.map a.eval #[.tmp x,.tmp x2,.tmp x3]= #[u,u2,u3]:=by simp only [List.map_toArray,List.map_cons,List.map_nil,Act.eval,e,e2,e3]
  rw [this]
  exact(hc w).mono (by rintro e w' ⟨rfl,hk⟩;exact⟨_,rfl,rfl,hk⟩)
end
theorem c1y(xs:Array Value)(w:World):(callFunc 51 xs).run Tryz.prog w= .ok (.enter 51 xs) w:=enters_of (c:=_) Tryz.func51 (by kernel_rfl) rfl xs w
set_option maxHeartbeats 3200000 in
theorem ver_no{key SG:List UInt8}{p:P4}(hk:key.length=32)(pv:Value)(w:World)(cd:DsC key p 50) :
 Calls Tryz.prog 13 #[ab key,ab SG,pv] w fun e w'=>e= .returned (.bool false)∧Kept [] w w':=by
 replace hk:=hjd hk
 replace cd:=hjd cd
 go_enter Tryz.func13,Tryz.ntmps13
 go_wp2_with (first
  | ((with_reducible refine a0q 3 ?_);(refine a0m (o:=⟨some 3,_,_,_,_,_⟩) (v:=ab key) rfl (.tmp 0) rfl rfl ?_);intro g3 w1 m1;have B3:=hjd m1.blk;have KK:=hjd m1.kept;clear m1)
  | ((with_reducible refine a0q 4 ?_);(refine a0m (o:=⟨some 4,_,_,_,_,_⟩) (v:=ab SG) rfl (.tmp 1) rfl rfl ?_);intro g4 w2 m2
     have B4:=hjd m2.blk
     replace B3:=hjd (B3.out.kept m2.kept (by simp))
     replace KK:=hjd (KK.out.a0i m2.kept)
     clear m2)
  | ((with_reducible refine a0q 14 ?_);refine a0a (cs:=(bv key).toArray) (o:=⟨some 14,_,_,_,_,_⟩) a1u.row rfl (.tmp 3) rfl rfl B3.out (by simpa using hk.out) ?_)
  | (go_at_call 48;(with_reducible refine(cd.out _).mono ?_);rintro e w3 ⟨rfl,k3⟩
     replace B3:=hjd (B3.out.kept k3 (by simp))
     replace B4:=hjd (B4.out.kept k3 (by simp))
     replace KK:=hjd (KK.out.a0i k3)
     clear k3)
  | ((with_reducible refine a0q 7 ?_);(refine a0f (o:=⟨some 7,_,_,_,_,_⟩) rfl rfl a3p ?_);intro g7 w7 m7
     refine a0b (o:=⟨none,Op.store 72 (.tmp 7) (.tmp 16),_,_,_,_⟩) a0l rfl (.tmp 7) (.tmp 16) rfl rfl rfl m7.blk pz.size (P4.size _) (P4.one _) ?_
     intro wb7 b7 k7
     have kk:=m7.kept.a0n k7 m7.le
     have B7:=hjd b7
     replace B3:=hjd (B3.out.kept kk (by simp))
     replace B4:=hjd (B4.out.kept kk (by simp))
     replace KK:=hjd (KK.out.a0i kk)
     clear m7 b7 k7 kk))
 go_ret
 exact⟨rfl,KK.out⟩
set_option maxHeartbeats 3200000 in
theorem d0u{key SG TB:List UInt8}{p:P4}(hk:key.length=32)(hg:SG.length=64)(eT:SG.drop 32=TB)(pv:Value)(w:World)(cd:DsC key p 0)(cs:SaC p true) :
 Calls Tryz.prog 13 #[ab key,ab SG,pv] w fun e w'=>e= .returned (.bool false)∧Kept [] w w':=by
 replace hk:=hjd hk
 replace hg:=hjd hg
 replace eT:=hjd eT
 replace cd:=hjd cd
 replace cs:=hjd cs
 go_enter Tryz.func13,Tryz.ntmps13
 go_wp2_with (first
  | ((with_reducible refine a0q 3 ?_);(refine a0m (o:=⟨some 3,_,_,_,_,_⟩) (v:=ab key) rfl (.tmp 0) rfl rfl ?_);intro g3 w1 m1;have B3:=hjd m1.blk;have KK:=hjd m1.kept;clear m1)
  | ((with_reducible refine a0q 4 ?_);(refine a0m (o:=⟨some 4,_,_,_,_,_⟩) (v:=ab SG) rfl (.tmp 1) rfl rfl ?_);intro g4 w2 m2
     have B4:=hjd m2.blk
     replace B3:=hjd (B3.out.kept m2.kept (by simp))
     replace KK:=hjd (KK.out.a0i m2.kept)
     clear m2)
  | ((with_reducible refine a0q 14 ?_);refine a0a (cs:=(bv key).toArray) (o:=⟨some 14,_,_,_,_,_⟩) a1u.row rfl (.tmp 3) rfl rfl B3.out (by simpa using hk.out) ?_)
  | (go_at_call 48;(with_reducible refine(cd.out _).mono ?_);rintro e w3 ⟨rfl,k3⟩
     replace B3:=hjd (B3.out.kept k3 (by simp))
     replace B4:=hjd (B4.out.kept k3 (by simp))
     replace KK:=hjd (KK.out.a0i k3)
     clear k3)
  | ((with_reducible refine a0q 7 ?_);(refine a0f (o:=⟨some 7,_,_,_,_,_⟩) rfl rfl a3p ?_);intro g7 w7 m7
     refine a0b (o:=⟨none,Op.store 72 (.tmp 7) (.tmp 16),_,_,_,_⟩) a0l rfl (.tmp 7) (.tmp 16) rfl rfl rfl m7.blk pz.size (P4.size _) (P4.one _) ?_
     intro wb7 b7 k7
     have kk:=m7.kept.a0n k7 m7.le
     have B7:=hjd b7
     replace B3:=hjd (B3.out.kept kk (by simp))
     replace B4:=hjd (B4.out.kept kk (by simp))
     replace KK:=hjd (KK.out.a0i kk)
     clear m7 b7 k7 kk)
  | ((with_reducible refine a0q 21 ?_);refine a0a (o:=⟨some 21,_,_,_,_,_⟩) a0l rfl (.tmp 7) rfl rfl B7.out (P4.size _) ?_)
  | (go_at_call 49;(with_reducible refine(cs.out _).mono ?_);rintro e w8 ⟨rfl,k8⟩
     replace B3:=hjd (B3.out.kept k8 (by simp))
     replace B4:=hjd (B4.out.kept k8 (by simp))
     replace B7:=hjd (B7.out.kept k8 (by simp))
     replace KK:=hjd (KK.out.a0i k8)
     have hat:=b8f g4
     have htl:=hjd (c1t B4.out hg.out)
     rw [eT.out]at htl
     clear k8))
 go_ret
 exact⟨rfl,KK.out⟩
set_option maxHeartbeats 3200000 in
theorem e4t{key SG TB:List UInt8}{p:P4}{s:Nat}(hk:key.length=32)(hg:SG.length=64)(eT:SG.drop 32=TB)(hT:TB.length=32)(pv:Value)(w:World)(cd:DsC key p 0)(cs:SaC p false)
 (cnw:∀u,Calls Tryz.prog 50 #[ab TB] u fun e w'=>e= .returned (.tuple #[Z.w4 s,.bool false])∧Kept [] u w') :
 Calls Tryz.prog 13 #[ab key,ab SG,pv] w fun e w'=>e= .returned (.bool false)∧Kept [] w w':=by
 replace hk:=hjd hk
 replace hg:=hjd hg
 replace eT:=hjd eT
 replace hT:=hjd hT
 replace cd:=hjd cd
 replace cs:=hjd cs
 replace cnw:=hjd cnw
 go_enter Tryz.func13,Tryz.ntmps13
 go_wp2_with (first
  | ((with_reducible refine a0q 3 ?_);(refine a0m (o:=⟨some 3,_,_,_,_,_⟩) (v:=ab key) rfl (.tmp 0) rfl rfl ?_);intro g3 w1 m1;have B3:=hjd m1.blk;have KK:=hjd m1.kept;clear m1)
  | ((with_reducible refine a0q 4 ?_);(refine a0m (o:=⟨some 4,_,_,_,_,_⟩) (v:=ab SG) rfl (.tmp 1) rfl rfl ?_);intro g4 w2 m2
     have B4:=hjd m2.blk
     replace B3:=hjd (B3.out.kept m2.kept (by simp))
     replace KK:=hjd (KK.out.a0i m2.kept)
     clear m2)
  | ((with_reducible refine a0q 14 ?_);refine a0a (cs:=(bv key).toArray) (o:=⟨some 14,_,_,_,_,_⟩) a1u.row rfl (.tmp 3) rfl rfl B3.out (by simpa using hk.out) ?_)
  | (go_at_call 48;(with_reducible refine(cd.out _).mono ?_);rintro e w3 ⟨rfl,k3⟩
     replace B3:=hjd (B3.out.kept k3 (by simp))
     replace B4:=hjd (B4.out.kept k3 (by simp))
     replace KK:=hjd (KK.out.a0i k3)
     clear k3)
  | ((with_reducible refine a0q 7 ?_);(refine a0f (o:=⟨some 7,_,_,_,_,_⟩) rfl rfl a3p ?_);intro g7 w7 m7
     refine a0b (o:=⟨none,Op.store 72 (.tmp 7) (.tmp 16),_,_,_,_⟩) a0l rfl (.tmp 7) (.tmp 16) rfl rfl rfl m7.blk pz.size (P4.size _) (P4.one _) ?_
     intro wb7 b7 k7
     have kk:=m7.kept.a0n k7 m7.le
     have B7:=hjd b7
     replace B3:=hjd (B3.out.kept kk (by simp))
     replace B4:=hjd (B4.out.kept kk (by simp))
     replace KK:=hjd (KK.out.a0i kk)
     clear m7 b7 k7 kk)
  | ((with_reducible refine a0q 21 ?_);refine a0a (o:=⟨some 21,_,_,_,_,_⟩) a0l rfl (.tmp 7) rfl rfl B7.out (P4.size _) ?_)
  | (go_at_call 49;(with_reducible refine(cs.out _).mono ?_);rintro e w8 ⟨rfl,k8⟩
     replace B3:=hjd (B3.out.kept k8 (by simp))
     replace B4:=hjd (B4.out.kept k8 (by simp))
     replace B7:=hjd (B7.out.kept k8 (by simp))
     replace KK:=hjd (KK.out.a0i k8)
     have hat:=b8f g4
     have htl:=hjd (c1t B4.out hg.out)
     rw [eT.out]at htl
     clear k8)
  | ((with_reducible refine a0q 27 ?_);refine a1h (o:=⟨some 27,_,_,_,_,_⟩) (cs:=bv TB) a1u.row rfl (.tmp 26) rfl rfl htl.out (by simpa using hT.out) ?_)
  | (go_at_call 50;(with_reducible refine(cnw.out _).mono ?_);rintro e w9 ⟨rfl,k9⟩
     replace B3:=hjd (B3.out.kept k9 (by simp))
     replace B4:=hjd (B4.out.kept k9 (by simp))
     replace B7:=hjd (B7.out.kept k9 (by simp))
     replace KK:=hjd (KK.out.a0i k9)
     clear k9)
  | ((with_reducible refine a0q 9 ?_);(refine a0f (o:=⟨some 9,_,_,_,_,_⟩) rfl rfl Z.a7o ?_);intro g9 w10 m9
     refine a0b (o:=⟨none,Op.store 78 (.tmp 9) (.tmp 29),_,_,_,_⟩) Z.a1x rfl (.tmp 9) (.tmp 29) rfl rfl rfl m9.blk rfl rfl (a2d _) ?_
     intro wb9 b9 k9
     have kk:=m9.kept.a0n k9 m9.le
     have B9:=hjd b9
     replace B3:=hjd (B3.out.kept kk (by simp))
     replace B4:=hjd (B4.out.kept kk (by simp))
     replace B7:=hjd (B7.out.kept kk (by simp))
     replace KK:=hjd (KK.out.a0i kk)
     clear m9 b9 k9 kk hat htl))
 go_ret
 exact⟨rfl,KK.out⟩
set_option maxHeartbeats 3200000 in
theorem d6n{key SG RB TB SB KB l:List UInt8}{p q r:P4}{b:Bool}{s h:Nat}(hk:key.length=32)(hg:SG.length=64)(eR:SG.take 32=RB)(eT:SG.drop 32=TB)(hR:RB.length=32)(hT:TB.length=32)(hl:l.length=32)
 (pv:Value) (ps:List (Value × List UInt8)) (w:World) (hp:Parts w pv ps) (hn2:ps.length≤1000000000) (cd:DsC key p 0) (cs:SaC p false)
 (cnw:∀u,Calls Tryz.prog 50 #[ab TB] u fun e w'=>e= .returned (.tuple #[Z.w4 s,.bool true])∧Kept [] u w')
 (ch:∀u v z1 z2,Parts u v ((z1,RB) :: (z2,key) :: ps)→Calls Tryz.prog 34 #[v] u fun e w'=>e= .returned (Z.w4 h)∧Kept [] u w')
 (chs:∀u,Calls Tryz.prog 36 #[Z.w4 s] u fun e w'=>e= .returned (ab SB)∧Kept [] u w')
 (chk:∀u,Calls Tryz.prog 36 #[Z.w4 h] u fun e w'=>e= .returned (ab KB)∧Kept [] u w')
 (cng:NgC p q) (cbo:BosC SB q KB r) (chr:HsC r l) (hb:(l == RB)=b) :
 Calls Tryz.prog 13 #[ab key,ab SG,pv] w fun e w'=>e= .returned (.bool b)∧Kept [] w w':=by
 have q51:=c2e hb hl hR
 replace hk:=hjd hk
 replace hg:=hjd hg
 replace eR:=hjd eR
 replace eT:=hjd eT
 replace hR:=hjd hR
 replace hT:=hjd hT
 replace hl:=hjd hl
 replace hp:=hjd hp
 replace hn2:=hjd hn2
 replace cd:=hjd cd
 replace cs:=hjd cs
 replace cnw:=hjd cnw
 replace ch:=hjd ch
 replace chs:=hjd chs
 replace chk:=hjd chk
 replace cng:=hjd cng
 replace cbo:=hjd cbo
 replace chr:=hjd chr
 replace hb:=hjd hb
 obtain⟨PA,pc,e0,_,_,_⟩:=hp.out.outer
 subst e0
 go_enter Tryz.func13,Tryz.ntmps13
 go_wp2_with (first
  | ((with_reducible refine a0q 3 ?_);(refine a0m (o:=⟨some 3,_,_,_,_,_⟩) (v:=ab key) rfl (.tmp 0) rfl rfl ?_);intro g3 w1 m1;have B3:=hjd m1.blk;have KK:=hjd m1.kept;clear m1)
  | ((with_reducible refine a0q 4 ?_);(refine a0m (o:=⟨some 4,_,_,_,_,_⟩) (v:=ab SG) rfl (.tmp 1) rfl rfl ?_);intro g4 w2 m2
     have B4:=hjd m2.blk
     replace B3:=hjd (B3.out.kept m2.kept (by simp))
     replace KK:=hjd (KK.out.a0i m2.kept)
     clear m2)
  | ((with_reducible refine a0q 14 ?_);refine a0a (cs:=(bv key).toArray) (o:=⟨some 14,_,_,_,_,_⟩) a1u.row rfl (.tmp 3) rfl rfl B3.out (by simpa using hk.out) ?_)
  | (go_at_call 48;(with_reducible refine(cd.out _).mono ?_);rintro e w3 ⟨rfl,k3⟩
     replace B3:=hjd (B3.out.kept k3 (by simp))
     replace B4:=hjd (B4.out.kept k3 (by simp))
     replace KK:=hjd (KK.out.a0i k3)
     clear k3)
  | ((with_reducible refine a0q 7 ?_);(refine a0f (o:=⟨some 7,_,_,_,_,_⟩) rfl rfl a3p ?_);intro g7 w7 m7
     refine a0b (o:=⟨none,Op.store 72 (.tmp 7) (.tmp 16),_,_,_,_⟩) a0l rfl (.tmp 7) (.tmp 16) rfl rfl rfl m7.blk pz.size (P4.size _) (P4.one _) ?_
     intro wb7 b7 k7
     have kk:=m7.kept.a0n k7 m7.le
     have B7:=hjd b7
     replace B3:=hjd (B3.out.kept kk (by simp))
     replace B4:=hjd (B4.out.kept kk (by simp))
     replace KK:=hjd (KK.out.a0i kk)
     clear m7 b7 k7 kk)
  | ((with_reducible refine a0q 21 ?_);refine a0a (o:=⟨some 21,_,_,_,_,_⟩) a0l rfl (.tmp 7) rfl rfl B7.out (P4.size _) ?_)
  | (go_at_call 49;(with_reducible refine(cs.out _).mono ?_);rintro e w8 ⟨rfl,k8⟩
     replace B3:=hjd (B3.out.kept k8 (by simp))
     replace B4:=hjd (B4.out.kept k8 (by simp))
     replace B7:=hjd (B7.out.kept k8 (by simp))
     replace KK:=hjd (KK.out.a0i k8)
     have hat:=b8f g4
     have htl:=hjd (c1t B4.out hg.out)
     rw [eT.out]at htl
     clear k8)
  | ((with_reducible refine a0q 27 ?_);refine a1h (o:=⟨some 27,_,_,_,_,_⟩) (cs:=bv TB) a1u.row rfl (.tmp 26) rfl rfl htl.out (by simpa using hT.out) ?_)
  | (go_at_call 50;(with_reducible refine(cnw.out _).mono ?_);rintro e w9 ⟨rfl,k9⟩
     replace B3:=hjd (B3.out.kept k9 (by simp))
     replace B4:=hjd (B4.out.kept k9 (by simp))
     replace B7:=hjd (B7.out.kept k9 (by simp))
     replace KK:=hjd (KK.out.a0i k9)
     clear k9)
  | ((with_reducible refine a0q 9 ?_);(refine a0f (o:=⟨some 9,_,_,_,_,_⟩) rfl rfl Z.a7o ?_);intro g9 w10 m9
     refine a0b (o:=⟨none,Op.store 78 (.tmp 9) (.tmp 29),_,_,_,_⟩) Z.a1x rfl (.tmp 9) (.tmp 29) rfl rfl rfl m9.blk rfl rfl (a2d _) ?_
     intro wb9 b9 k9
     have kk:=m9.kept.a0n k9 m9.le
     have B9:=hjd b9
     replace B3:=hjd (B3.out.kept kk (by simp))
     replace B4:=hjd (B4.out.kept kk (by simp))
     replace B7:=hjd (B7.out.kept kk (by simp))
     replace KK:=hjd (KK.out.a0i kk)
     clear m9 b9 k9 kk hat htl))
 have PP:=hjd (hp.out.a1o KK.out)
 have D3:=hjd (show Rd wb9 1 (.slice (some ⟨g3,0,none⟩) 32 32) key.length (bv key)from by rw [hk.out];exact Blk.rd B3.out (by simp [hk.out]) (Nat.le_refl _))
 have D4:=hjd (show Rd wb9 1 (.slice (some ⟨g4,0,none⟩) 32 64) RB.length (bv RB)from by rw [hR.out,←eR.out];exact e6l B4.out hg.out)
 refine Txt.a4l (by kernel_rfl) [Txt.isV (.slice PA ps.length pc),Txt.isV (.slice (some ⟨g4,0,none⟩) 32 64),Txt.isV (.slice (some ⟨g3,0,none⟩) 32 32),c9p wb9.heap.size (.slice (some ⟨g4,0,none⟩) 32 64) (.slice (some ⟨g3,0,none⟩) 32 32),a7z ((.slice (some ⟨g4,0,none⟩) 32 64,RB) :: (.slice (some ⟨g3,0,none⟩) 32 32,key) :: ps),Txt.isV (Z.w4 h),Txt.a4z wb9.heap.size 78 (Z.w4 0).cells] (fun u=>Kept [] wb9 u) (by kernel_rfl) rfl rfl (by kernel_rfl) ((Kept.refl [] wb9).drew) (fun u u' h k=>h.a0i k) ⟨?_,?_,?_,?_,?_,?_,?_,trivial⟩ ?_
 ·exact a2s (x:=2) rfl (by decide) fun a W hx=>a9s rfl W hx
 ·exact a2s (x:=4) rfl (by decide) fun a W hx=>b5n rfl W hx
 ·exact a2s (x:=3) rfl (by decide) fun a W hx=>a5k rfl W hx
 ·exact c5c (x:=34) (y:=35) (j:=1) (k:=2) rfl rfl rfl rfl rfl rfl ⟨⟨1,.data⟩,by simp,rfl,rfl⟩ rfl rfl rfl ⟨⟨2,.data⟩,by simp,rfl,rfl⟩
 ·refine Txt.a1w rfl b4k (fun v u u' h k=>Parts.a1o h k) fun a u hS hr _=>?_
  have e1:a.tmps.getD 33 undef= .slice PA ps.length pc:=hr 0 _ 33 _ rfl rfl rfl ⟨⟨0,.data⟩,by simp,rfl,rfl⟩
  have e2:c9p wb9.heap.size (.slice (some ⟨g4,0,none⟩) 32 64) (.slice (some ⟨g3,0,none⟩) 32 32) (a.tmps.getD 36 undef) u:=hr 3 _ 36 _ rfl rfl rfl ⟨⟨3,.data⟩,by simp,rfl,rfl⟩
  obtain⟨g,h1,h2,h3⟩:=e2
  have:Array.map a.eval #[.tmp 33,.tmp 36]= #[.slice PA ps.length pc,.slice (some ⟨g,0,none⟩) 2 2]:=by simp only [List.map_toArray,List.map_cons,List.map_nil,Act.eval,e1,h1]
  rw [this]
  refine(b4o (n:=2) [(.slice (some ⟨g4,0,none⟩) 32 64,RB),(.slice (some ⟨g3,0,none⟩) 32 32,key)] PP.out (by simpa using⟨D4.out,D3.out⟩) ⟨h2,hS,h3⟩ rfl rfl hn2.out (by simp)).mono ?_
  rintro e u' ⟨v,rfl,hv,hk⟩
  exact⟨v,rfl,hv,hk⟩
 ·refine Txt.a1w rfl b0a (fun _ _ _ h _=>h) fun a u hS hr _=>?_
  have e1:a7z ((.slice (some ⟨g4,0,none⟩) 32 64,RB) :: (.slice (some ⟨g3,0,none⟩) 32 32,key) :: ps) (a.tmps.getD 37 undef) u:=hr 4 _ 37 _ rfl rfl rfl ⟨⟨4,.data⟩,by simp,rfl,rfl⟩
  have:Array.map a.eval #[.tmp 37]= #[a.tmps.getD 37 undef]:=by simp only [List.map_toArray,List.map_cons,List.map_nil,Act.eval]
  rw [this]
  refine(ch.out _ _ _ _ e1).mono ?_
  rintro e u' ⟨rfl,hk⟩
  exact⟨_,rfl,rfl,hk⟩
 ·exact Txt.a4m rfl Z.a7o
 intro v wc kc hv
 have v0:v 0= .slice PA ps.length pc:=hv 0 _ rfl
 have v1:v 1= .slice (some ⟨g4,0,none⟩) 32 64:=hv 1 _ rfl
 have v2:v 2= .slice (some ⟨g3,0,none⟩) 32 32:=hv 2 _ rfl
 have v5:v 5=Z.w4 h:=hv 5 _ rfl
 have h6:Txt.a4z wb9.heap.size 78 (Z.w4 0).cells (v 6) wc:=hv 6 _ rfl
 clear hv
 simp [Txt.a0w,List.range,List.range.loop,Act.put,v0,v1,v2,v5]
 generalize v 3=u33 at *
 generalize v 4=u34 at *
 generalize v 6=u6 at *
 clear v0 v1 v2 v5
 obtain⟨g11,rfl,b11,l11⟩:=h6.get
 clear h6
 refine Txt.a7j Z.a1x rfl rfl rfl b11 rfl rfl (a2d _) ?_
 intro we b11 k11
 simp [Act.put]
 have B11:=hjd b11
 have kk:=kc.a0n k11 l11
 replace B4:=hjd (B4.out.kept kk (by simp))
 replace B7:=hjd (B7.out.kept kk (by simp))
 replace B9:=hjd (B9.out.kept kk (by simp))
 replace KK:=hjd (KK.out.a0i kk)
 clear kc k11 l11 kk PP D3 D4 B3 b11
 go_wp2_with fail
 refine Txt.a4l (by kernel_rfl) [Txt.isV (Z.w4 s),Txt.isV (ab SB),Txt.isV p.v,Txt.isV q.v,Txt.isV (Z.w4 h),Txt.isV (ab KB),Txt.isV r.v,Txt.isV (ab l),Txt.a4z we.heap.size 22 (ab (a0p 32)).cells] (fun u=>Kept [] we u) (by kernel_rfl) rfl rfl (by kernel_rfl) ((Kept.refl [] we).drew) (fun u u' h k=>h.a0i k) ⟨?_,?_,?_,?_,?_,?_,?_,?_,?_,trivial⟩ ?_
 ·exact Txt.a2e Z.a1x rfl rfl (by decide) B9.out rfl
 ·exact Txt.a3w (x:=39) (j:=0) rfl a5h rfl rfl rfl ⟨⟨0,.data⟩,by simp,rfl,rfl⟩ chs.out
 ·exact Txt.a2e a0l rfl rfl (by decide) B7.out (P4.size _)
 ·exact Txt.a3w (x:=41) (j:=2) rfl c1r rfl rfl rfl ⟨⟨2,.data⟩,by simp,rfl,rfl⟩ cng.out
 ·exact Txt.a2e Z.a1x rfl rfl (by decide) B11.out rfl
 ·exact Txt.a3w (x:=43) (j:=4) rfl a5h rfl rfl rfl ⟨⟨4,.data⟩,by simp,rfl,rfl⟩ chk.out
 ·exact c6z (x:=40) (x2:=42) (x3:=44) (j:=1) (j2:=3) (j3:=5) rfl c1y rfl rfl rfl ⟨⟨1,.data⟩,by simp,rfl,rfl⟩ rfl rfl rfl ⟨⟨3,.data⟩,by simp,rfl,rfl⟩ rfl rfl rfl ⟨⟨5,.data⟩,by simp,rfl,rfl⟩ cbo.out
 ·exact Txt.a3w (x:=45) (j:=6) rfl a8i rfl rfl rfl ⟨⟨6,.data⟩,by simp,rfl,rfl⟩ chr.out
 ·exact Txt.a4m rfl a3h
 intro v wc kc hv
 have v0:v 0=Z.w4 s:=hv 0 _ rfl
 have v1:v 1=ab SB:=hv 1 _ rfl
 have v2:v 2=p.v:=hv 2 _ rfl
 have v3:v 3=q.v:=hv 3 _ rfl
 have v4:v 4=Z.w4 h:=hv 4 _ rfl
 have v5:v 5=ab KB:=hv 5 _ rfl
 have v6:v 6=r.v:=hv 6 _ rfl
 have v7:v 7=ab l:=hv 7 _ rfl
 have h8:Txt.a4z we.heap.size 22 (ab (a0p 32)).cells (v 8) wc:=hv 8 _ rfl
 clear hv
 simp [Txt.a0w,List.range,List.range.loop,Act.put,v0,v1,v2,v3,v4,v5,v6,v7]
 generalize v 8=u8 at *
 clear v0 v1 v2 v3 v4 v5 v6 v7
 obtain⟨g12,rfl,b12,l12⟩:=h8.get
 clear h8
 refine Txt.a7j a1u.row rfl rfl rfl b12 (by rfl) (by simpa using hl.out) (a2a _) ?_
 intro wf b12 k12
 simp [Act.put]
 have B12:=hjd b12
 have kk:=kc.a0n k12 l12
 replace B4:=hjd (B4.out.kept kk (by simp))
 replace KK:=hjd (KK.out.a0i kk)
 clear kc k12 l12 kk B7 B9 B11 b12
 go_wp2_with fail
 refine Txt.a4l (by kernel_rfl) [Txt.isV (ab l),Txt.isV (.slice (some ⟨g4,0,none⟩) 32 64),Txt.isV (.pointer (some ⟨g4,0,none⟩)),Txt.isV (ab RB),Txt.isV (.bool b)] (fun u=>Kept [] wf u) (by kernel_rfl) rfl rfl (by kernel_rfl) ((Kept.refl [] wf).drew) (fun u u' h k=>h.a0i k) ⟨?_,?_,?_,?_,?_,trivial⟩ ?_
 ·exact Txt.a2e a1u.row rfl rfl (by decide) B12.out (by simpa using hl.out)
 ·exact a2s (x:=4) rfl (by decide) fun a W hx=>b5n rfl W hx
 ·exact b3w fun a u hS hr _=>d6q rfl u (hr 1 _ 48 _ rfl rfl rfl ⟨⟨1,.data⟩,by simp,rfl,rfl⟩)
 ·exact b3w fun a u hS hr _=>a6q a1u.row (.tmp 49) rfl (hr 2 _ 49 _ rfl rfl rfl ⟨⟨2,.data⟩,by simp,rfl,rfl⟩) (eR.out▸d2m (B4.out.kept hS (by simp)) 32) (by simpa using hR.out)
 ·exact b3w fun a u hS hr _=>b7v (.tmp 47) (.tmp 50) rfl (hr 0 _ 47 _ rfl rfl rfl ⟨⟨0,.data⟩,by simp,rfl,rfl⟩) (hr 3 _ 50 _ rfl rfl rfl ⟨⟨3,.data⟩,by simp,rfl,rfl⟩) hb.out hl.out hR.out
 intro v wc kc hv
 have v0:v 0=ab l:=hv 0 _ rfl
 have v1:v 1= .slice (some ⟨g4,0,none⟩) 32 64:=hv 1 _ rfl
 have v2:v 2= .pointer (some ⟨g4,0,none⟩):=hv 2 _ rfl
 have v3:v 3=ab RB:=hv 3 _ rfl
 have v4:v 4= .bool b:=hv 4 _ rfl
 clear hv
 simp [Txt.a0w,List.range,List.range.loop,Act.put,v0,v1,v2,v3,v4]
 refine c1z (v:=.bool b) rfl ?_
 simp [Act.put]
 replace KK:=hjd (KK.out.a0i kc)
 clear kc
 go_wp2_with fail
 go_ret
 exact⟨rfl,KK.out⟩
end Go.Proofs.YtdbngnlpafcogaaGreat
