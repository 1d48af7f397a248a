/-
  The sign's laws: which signatures are right (SignReads): the walk.
-/
import Derived.Test.YtdbngnlpafcogaaGreatZrRs6
set_option maxRecDepth 100000
namespace Go.Proofs.YtdbngnlpafcogaaGreat
open Go.RowKit Go.Mem Go.Txt
theorem b8e(xs:Array Value)(w:World):(callFunc 13 xs).run Tryz.prog w= .ok (.enter 13 xs) w:=enters_of (c:=_) Tryz.func13 (by kernel_rfl) rfl xs w
theorem c1q(xs:Array Value)(w:World):(callFunc 8 xs).run Tryz.prog w= .ok (.enter 8 xs) w:=enters_of (c:=_) Tryz.func8 (by kernel_rfl) rfl xs w
theorem c7s(xs:Array Value)(w:World):(callFunc 14 xs).run Tryz.prog w= .ok (.enter 14 xs) w:=enters_of (c:=_) Tryz.func14 (by kernel_rfl) rfl xs w
theorem d6z{a:Act}{o:Oper}{u:World}{x y:Tmp}{b:Bool}(ho:o.op= .binOp .eql 4 (.tmp x) (.tmp y) 4)(hx:a.tmps.getD x undef= .bool b)(hy:a.tmps.getD y undef= .bool b):(execOp a.eval o).run Tryz.prog u= .ok (.value (.bool true)) u:=by
 unfold execOp
 simp only [ho,Sem.run_bind,Act.eval,hx,hy]
 cases b <;> kernel_rfl
section
variable {l:List Oper} {vs:List Rel} {a0:Act} {w0:World} {o:Oper}
theorem d6e{x i:Nat}{v1:Value}{x1:List UInt8}{oi:Oper}(ho:o.op= .buildSlice 45 1 #[(0,.tmp x)])(c0:v1.cells= #[v1])
 (hi:vs[i]?=some (isV v1)) (hl:l[i]?=some oi) (hd:oi.dst=some x) (hb:a2s o i) (r1:Rd w0 1 v1 x1.length (bv x1)):a5z Tryz.prog l vs (fun u=>Kept [] w0 u) a0 o (a7u [(v1,x1)]):=by
 refine⟨fun _ _ _ h hk=>Parts.a1w h hk,fun a w C R hS hr _ h=>?_⟩
 have e:a.tmps.getD x undef=v1:=hr i _ x oi hi hl hd hb
 obtain⟨q,hq,hz,hs,hb⟩:=info_parts a4o.2
 have hv:(#[(0,Operand.tmp x)].map fun(p:Nat × Operand)=>(p.1,a.eval p.2)).toList= [(0,v1)]:=by simp [Act.eval,←e]
 have hf:Instr.fill (fun i=>some (i * 1,1)) ((Array.range (1 * 1)).map ((Value.slice none 0 0).cells[· % (Value.slice none 0 0).cells.size]!)) [(0,v1)]=some #[v1]:=by
  have hr:∀f:Nat→Value,(Array.range (1 * 1)).map f= #[f 0]:=fun f=>Array.toList_inj.1 (by rw [Array.toList_map,Array.toList_range];rfl)
  rw [hr]
  simp [Instr.fill,c0]
 have kk:Kept [] w (w.alloc (.cells #[v1] 23)):=(Kept.refl [] w).alloc _
 exact wp_buildSlice _ _ 1 _ ho #[v1] q _ a4o.1 hq hz (by rw [hs];omega) (by rw [hs];omega) (by rw [hs];exact(congrArg (Instr.fill _ _) hv).trans hf) (h _ _ kk (d4b (Blk.new w _ _) (r1.a1w (hS.a0i kk))))
end
theorem cut_b{w:World}{v:Value}{bs:List UInt8}(h:c1f bs v w)(m:Nat)(hm:m≤bs.length):∃B d,(∀W,(Instr.sliceAt 23 v none (some (.int .i64 (m:Int))) none).run Tryz.prog W= .ok (.slice B m d) W)∧c1f (bs.take m) (.slice B m d) w:=by
 obtain⟨B,d,h1,h2,_,_⟩:=cut_to a3l h .i64 m hm
 refine⟨B,d,h1,?_⟩
 unfold c1f
 rw [List.length_take,Nat.min_eq_left hm]
 rw [Nat.mul_one]at h2
 rwa [bv,List.map_take]
theorem e4k(n c:Nat)(z:Int)(hz:(c:Int)=z):∃m:Nat,m≤c∧m≤n∧(m:Int)=if z < (n:Int)then z else(n:Int):=by
 subst hz
 exact⟨min c n,by omega,by omega,by split <;> omega⟩
set_option maxHeartbeats 3200000 in
theorem c2q(key SG:List UInt8)(v:Value)(bs:List UInt8)(w:World)(hk:key.length=32)(hg:SG.length=64)(rd:Rd w 1 v bs.length (bv bs))(_:bs.length≤9223372036854775807) :
 Calls Tryz.prog 4 #[ab key,ab SG,v] w fun e w'=>e= .returned (.bool true)∧Kept [] w w':=by
 have cf:=hjd d0u
 obtain⟨m,hm2000,hml,hmin⟩:=e4k bs.length 2000 2000 rfl
 obtain⟨B,d,hB,hR⟩:=cut_b (show c1f bs v w from rd) m hml
 have hbl:(bs.take m).length≤2000:=by rw [List.length_take];omega
 have hbm:(bs.take m).length=m:=by rw [List.length_take];omega
 generalize bs.take m=b at *
 obtain⟨dc,cnw,hD⟩:=new_r
 have cv:=hjd (d9b hk hg (show b.length≤100000000000 by omega) (rfl:okV key SG b=okV key SG b))
 have cr:=hjd (fun u (h:c1f b (.slice B m d) u)=>d3l hD key SG hk hg _ b u h (by omega))
 generalize okV key SG b=ok at *
 obtain⟨A,c,rfl,_⟩:=rd
 replace hmin:=hjd hmin
 replace hR:=hjd hR
 replace hbm:=hjd hbm
 replace cnw:=hjd cnw
 replace hk:=hjd hk
 replace hg:=hjd hg
 clear hD hbl hm2000 hml
 go_enter Tryz.func4,Tryz.ntmps4
 go_wp2_with (first
  | ((with_reducible refine a0p 3 ?_);(refine a0j (o:=⟨some 3,_,_,_,_,_⟩) (v:=ab key) rfl (.tmp 0) rfl rfl ?_);intro g3 w3 m3;have B3:=hjd (show Blk w3 g3 22 (bv key).toArray from m3.blk);have KK:=hjd m3.kept;clear m3)
  | ((with_reducible refine a0p 4 ?_);(refine a0j (o:=⟨some 4,_,_,_,_,_⟩) (v:=ab SG) rfl (.tmp 1) rfl rfl ?_);intro g4 w4 m4;have B4:=hjd (show Blk w4 g4 32 (bv SG).toArray from m4.blk);replace B3:=hjd (B3.out.kept m4.kept (by simp));replace KK:=hjd (KK.out.a0i m4.kept);clear m4)
  | (go_at_call 7;(with_reducible refine(cf.out _).mono ?_);rintro e w5 ⟨rfl,k⟩
     replace B3:=hjd (B3.out.kept k (by simp))
     replace B4:=hjd (B4.out.kept k (by simp))
     replace KK:=hjd (KK.out.a0i k)
     clear k)
  | ((with_reducible refine a0p 13 ?_);refine e5n (o:=⟨some 13,_,_,_,_,_⟩) rfl (.tmp 12) (.const (.int .i64 2000)) rfl rfl rfl hmin.out ?_))
 have hm1:=hjd (show Rd w5 1 (.slice B m d) b.length (bv b)from hR.out.a1w KK.out)
 refine Txt.a4r (by kernel_rfl) [Txt.isV (ab key),Txt.isV (ab SG),Txt.isV (.slice B m d),a7u [(.slice B m d,b)],Txt.isV (.bool ok),Txt.isV (nu dc),Txt.isV (ab key),Txt.isV (ab SG),Txt.isV (.slice B m d),Txt.isV (.bool ok),Txt.isV (.bool true)] (fun u=>Kept [] w5 u) (by kernel_rfl) rfl rfl (by kernel_rfl) ((Kept.refl [] w5).drew) (fun u u2 h k=>h.a0i k) ⟨?_,?_,?_,?_,?_,?_,?_,?_,?_,?_,?_,trivial⟩ ?_
 ·exact Txt.a2b a1x.row rfl rfl (by decide) B3.out (by simpa using hk.out)
 ·exact Txt.a2b Q.c2g rfl rfl (by decide) B4.out (by simpa using hg.out)
 ·exact a3k (x:=7) rfl (by decide) fun a W hx=>b4x rfl W hx
 ·exact d6e (x:=17) (i:=2) rfl rfl rfl rfl rfl ⟨⟨2,.data⟩,by simp,rfl,rfl⟩ hm1.out
 ·refine Txt.a2d rfl b8e (fun _ _ _ h _=>h) fun a u hS hr _=>?_
  have e0:a.tmps.getD 15 undef=(ab key):=hr 0 _ 15 _ rfl rfl rfl ⟨⟨0,.data⟩,by simp,rfl,rfl⟩
  have e1:a.tmps.getD 16 undef=(ab SG):=hr 1 _ 16 _ rfl rfl rfl ⟨⟨1,.data⟩,by simp,rfl,rfl⟩
  have e2:=hr 3 _ 18 _ rfl rfl rfl ⟨⟨3,.data⟩,by simp,rfl,rfl⟩
  have hm:Array.map a.eval #[.tmp 15,.tmp 16,.tmp 18]= #[(ab key),(ab SG),a.tmps.getD 18 undef]:=by simp only [List.map_toArray,List.map_cons,List.map_nil,Act.eval,e0,e1]
  rw [hm]
  refine(cv.out _ _ _ e2).mono ?_
  rintro e u2 ⟨rfl,hk⟩
  exact⟨_,rfl,rfl,hk⟩
 ·refine Txt.a2d rfl c1q (fun _ _ _ h _=>h) fun a u hS hr _=>?_
  have hm:Array.map a.eval #[]= #[]:=by simp only [List.map_toArray,List.map_nil]
  rw [hm]
  refine(cnw.out u).mono ?_
  rintro e u2 ⟨rfl,hk⟩
  exact⟨_,rfl,rfl,hk⟩
 ·exact Txt.a2b a1x.row rfl rfl (by decide) B3.out (by simpa using hk.out)
 ·exact Txt.a2b Q.c2g rfl rfl (by decide) B4.out (by simpa using hg.out)
 ·exact a3k (x:=7) rfl (by decide) fun a W hx=>b4x rfl W hx
 ·refine Txt.a2d rfl c7s (fun _ _ _ h _=>h) fun a u hS hr _=>?_
  have e0:a.tmps.getD 20 undef=(nu dc):=hr 5 _ 20 _ rfl rfl rfl ⟨⟨5,.data⟩,by simp,rfl,rfl⟩
  have e1:a.tmps.getD 21 undef=(ab key):=hr 6 _ 21 _ rfl rfl rfl ⟨⟨6,.data⟩,by simp,rfl,rfl⟩
  have e2:a.tmps.getD 22 undef=(ab SG):=hr 7 _ 22 _ rfl rfl rfl ⟨⟨7,.data⟩,by simp,rfl,rfl⟩
  have e3:a.tmps.getD 23 undef=(.slice B m d):=hr 8 _ 23 _ rfl rfl rfl ⟨⟨8,.data⟩,by simp,rfl,rfl⟩
  have hm:Array.map a.eval #[.tmp 20,.tmp 21,.tmp 22,.tmp 23]= #[(nu dc),(ab key),(ab SG),(.slice B m d)]:=by simp only [List.map_toArray,List.map_cons,List.map_nil,Act.eval,e0,e1,e2,e3]
  rw [hm]
  refine(cr.out u (hm1.out.a1w hS)).mono ?_
  rintro e u2 ⟨rfl,hk⟩
  exact⟨_,rfl,rfl,hk⟩
 ·refine b4k fun a u hS hr _=>?_
  have e0:=hr 4 _ 19 _ rfl rfl rfl ⟨⟨4,.data⟩,by simp,rfl,rfl⟩
  have e1:=hr 9 _ 24 _ rfl rfl rfl ⟨⟨9,.data⟩,by simp,rfl,rfl⟩
  exact d6z rfl e0 e1
 intro v wc kc hv
 have v0:v 0=(ab key):=hv 0 _ rfl
 have v1:v 1=(ab SG):=hv 1 _ rfl
 have v2:v 2=(.slice B m d):=hv 2 _ rfl
 have v4:v 4=(.bool ok):=hv 4 _ rfl
 have v5:v 5=(nu dc):=hv 5 _ rfl
 have v6:v 6=(ab key):=hv 6 _ rfl
 have v7:v 7=(ab SG):=hv 7 _ rfl
 have v8:v 8=(.slice B m d):=hv 8 _ rfl
 have v9:v 9=(.bool ok):=hv 9 _ rfl
 have v10:v 10=(.bool true):=hv 10 _ rfl
 clear hv
 simp [Txt.a0w,List.range,List.range.loop,Act.put,v0,v1,v2,v4,v5,v6,v7,v8,v9,v10]
 generalize v 3=u3 at *
 clear v0 v1 v2 v4 v5 v6 v7 v8 v9 v10
 refine b3s (v:=.bool true) rfl ?_
 simp [Act.put]
 replace KK:=hjd (KK.out.a0i kc)
 clear kc
 go_wp2_with fail
 go_ret
 exact⟨rfl,KK.out⟩
end Go.Proofs.YtdbngnlpafcogaaGreat
