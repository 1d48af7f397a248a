/-
  The sign's laws: what keys and signatures are (SignMakes): the walk.
-/
import Derived.Test.YtdbngnlpafcogaaGreatZmLwSReads
import Derived.Test.YtdbngnlpafcogaaGreatZmMrel2
set_option maxRecDepth 100000
namespace Go.Proofs.YtdbngnlpafcogaaGreat
open Go.RowKit Go.Mem Go.Txt
theorem b6r(xs:Array Value)(w:World):(callFunc 9 xs).run Tryz.prog w= .ok (.enter 9 xs) w:=enters_of (c:=_) Tryz.func9 (by kernel_rfl) rfl xs w
theorem c2n(xs:Array Value)(w:World):(callFunc 10 xs).run Tryz.prog w= .ok (.enter 10 xs) w:=enters_of (c:=_) Tryz.func10 (by kernel_rfl) rfl xs w
theorem e5u{a:Act}{o:Oper}{x y:Tmp}{r v vi:Value}(ho:o.op= .slice 23 (.tmp x) none (some (.tmp y)) none)(W:World)(hx:a.tmps.getD x undef=v)(hy:a.tmps.getD y undef=vi)(h:∀W,(Instr.sliceAt 23 v none (some vi) none).run Tryz.prog W= .ok r W):(execOp a.eval o).run Tryz.prog W= .ok (.value r) W:=by
 unfold execOp
 simp [ho,Act.eval,hx,hy,h]
theorem e2o{a:Act}{o:Oper}{x y:Tmp}{r v vi:Value}(ho:o.op= .slice 23 (.tmp x) (some (.tmp y)) none none)(W:World)(hx:a.tmps.getD x undef=v)(hy:a.tmps.getD y undef=vi)(h:∀W,(Instr.sliceAt 23 v (some vi) none none).run Tryz.prog W= .ok r W):(execOp a.eval o).run Tryz.prog W= .ok (.value r) W:=by
 unfold execOp
 simp [ho,Act.eval,hx,hy,h]
theorem arrS:ArrT Tryz.prog 32 5 64:=⟨Tryz.underlying32,by kernel_rfl⟩
theorem d2h{l m:List UInt8}{b:Bool}(h:(l == m)=b)(h1:l.length=64)(h2:m.length=64)(W:World):(Op.equalIn 10000 32 (ab l) (ab m)).run Tryz.prog W= .ok b W:=by
 have:=a2z arrS Tryz.underlying5 (by kernel_rfl) l m h1 h2 W
 rwa [h]at this
theorem c7j{a:Act}{o:Oper}{u:World}{l m:List UInt8}{b:Bool}(x y:Operand){r:TypeId}(ho:o.op= .binOp .eql 32 x y r)(hx:a.eval x=ab l)(hy:a.eval y=ab m)(h:(l == m)=b)(h1:l.length=64)(h2:m.length=64):(execOp a.eval o).run Tryz.prog u= .ok (.value (.bool b)) u:=
 (b4j arrS Tryz.underlying5 (by kernel_rfl) (by kernel_rfl) x y ho hx hy h1 h2).trans (by rw [h])
section
variable {l:List Oper} {vs:List Rel} {a0:Act} {w0:World} {o:Oper}
theorem d3g{x y i j:Nat}{v1 v2:Value}{x1 x2:List UInt8}{oi oj:Oper}(ho:o.op= .buildSlice 45 2 #[(0,.tmp x),(1,.tmp y)])(c0:v1.cells= #[v1])(c1:v2.cells= #[v2])
 (hi:vs[i]?=some (isV v1)) (hl:l[i]?=some oi) (hd:oi.dst=some x) (hb:a2f o i) (hj:vs[j]?=some (isV v2)) (hl2:l[j]?=some oj) (hd2:oj.dst=some y) (hb2:a2f o j) (r1:Rd w0 1 v1 x1.length (bv x1)) (r2:Rd w0 1 v2 x2.length (bv x2)):a5y Tryz.prog l vs (fun u=>Kept [] w0 u) a0 o (a7z [(v1,x1),(v2,x2)]):=by
 refine⟨fun _ _ _ h hk=>Parts.a1o h hk,fun a w C R hS hr _ h=>?_⟩
 have e:a.tmps.getD x undef=v1:=hr i _ x oi hi hl hd hb
 have e2:a.tmps.getD y undef=v2:=hr j _ y oj hj hl2 hd2 hb2
 obtain⟨q,hq,hz,hs,hb⟩:=info_parts a3n.2
 have hv:(#[(0,Operand.tmp x),(1,.tmp y)].map fun(p:Nat × Operand)=>(p.1,a.eval p.2)).toList= [(0,v1),(1,v2)]:=by simp [Act.eval,←e,←e2]
 have hf:Instr.fill (fun i=>some (i * 1,1)) ((Array.range (2 * 1)).map ((Value.slice none 0 0).cells[· % (Value.slice none 0 0).cells.size]!)) [(0,v1),(1,v2)]=some #[v1,v2]:=by
  have hr:∀f:Nat→Value,(Array.range (2 * 1)).map f= #[f 0,f 1]:=fun f=>Array.toList_inj.1 (by rw [Array.toList_map,Array.toList_range];rfl)
  rw [hr]
  simp [Instr.fill,c0,c1]
 have kk:Kept [] w (w.alloc (.cells #[v1,v2] 23)):=(Kept.refl [] w).alloc _
 exact wp_buildSlice _ _ 2 _ ho #[v1,v2] q _ a3n.1 hq hz (by rw [hs];omega) (by rw [hs];omega) (by rw [hs];exact(congrArg (Instr.fill _ _) hv).trans hf) (h _ _ kk (d9v (Blk.new w _ _) (r1.a1o (hS.a0i kk)) (r2.a1o (hS.a0i kk))))
end
theorem parts3{w:World}{g:Nat}{t:TypeId}{v1 v2 v3:Value}{x1 x2 x3:List UInt8}(hb:Blk w g t #[v1,v2,v3])(h1:a8e x1 v1 w)(h2:a8e x2 v2 w)(h3:a8e x3 v3 w):Parts w (.slice (some ⟨g,0,none⟩) 3 3) [(v1,x1),(v2,x2),(v3,x3)]:=by
 refine⟨⟨_,_,rfl,rfl,Nat.le_refl _,fun _=>⟨g,0,rfl,fun j u hu=>by rw [hb.cell,Nat.zero_add];simpa using hu⟩⟩,fun p hp=>?_⟩
 simp only [List.mem_cons,List.not_mem_nil,or_false]at hp
 rcases hp with rfl | rfl | rfl
 ·exact h1
 ·exact h2
 ·exact h3
theorem d7b(w:World):a8e [] (.slice none 0 0) w:=⟨_,_,rfl,rfl,Nat.le_refl _,fun h=>absurd h (by decide)⟩
theorem e6p(c:Int)(m:Nat)(hm:m≤1000000000):∃n:Nat,(IntKind.u64.wrap c).tmod ((m:Int) + 1)=n∧n≤m:=by
 have h0:0≤IntKind.u64.wrap c:=by rw [IntKind.wrap_u64];exact Int.emod_nonneg _ (by omega)
 rw [Int.tmod_eq_emod_of_nonneg h0]
 have h1:=Int.emod_nonneg (IntKind.u64.wrap c) (show((m:Int) + 1)≠0 by omega)
 have h2:=Int.emod_lt_of_pos (IntKind.u64.wrap c) (show(0:Int) < (m:Int) + 1 by omega)
 generalize IntKind.u64.wrap c % ((m:Int) + 1)=z at *
 exact⟨z.toNat,by omega,by omega⟩
set_option maxHeartbeats 3200000 in
theorem c3c(seed:List UInt8)(v:Value)(bs:List UInt8)(at_:Int)(w:World){K S b b1 b2:List UInt8}{dc:Nat→Int}{n k:Nat}{B B1 B2:Option Addr}{d d1 d2:Nat}(hl:seed.length=32)(hK:K.length=32)(hS:S.length=64)(hn:n≤2000)(hkn:k≤n)
 (rd:Rd w 1 v bs.length (bv bs)) (hmin:(n:Int)=if (2000:Int) < (bs.length:Int)then 2000 else(bs.length:Int)) (hk:(IntKind.u64.wrap at_).tmod ((n:Int) + 1)=k)
 (hB:∀W,(Instr.sliceAt 23 v none (some (.int .i64 (n:Int))) none).run Tryz.prog W= .ok (.slice B n d) W)
 (hB1:∀W,(Instr.sliceAt 23 (.slice B n d) none (some (.int .i64 (k:Int))) none).run Tryz.prog W= .ok (.slice B1 k d1) W)
 (hB2:∀W,(Instr.sliceAt 23 (.slice B n d) (some (.int .i64 (k:Int))) none none).run Tryz.prog W= .ok (.slice B2 (n - k) d2) W)
 (R0:a8e b (.slice B n d) w) (R1:a8e b1 (.slice B1 k d1) w) (R2:a8e b2 (.slice B2 (n - k) d2) w)
 (cnw:NwC dc) (cp:∀u,Calls Tryz.prog 9 #[ab seed] u fun e w'=>e= .returned (ab K)∧Kept [] u w')
 (cs:∀u pv v1 v2,Parts u pv [(v1,b1),(v2,b2)]→Calls Tryz.prog 10 #[ab seed,pv] u fun e w'=>e= .returned (ab S)∧Kept [] u w')
 (ck:∀u,Calls Tryz.prog 11 #[nu dc,ab seed] u fun e w'=>e= .returned (ab K)∧Kept [] u w')
 (cr:∀u,a8e b (.slice B n d) u→Calls Tryz.prog 12 #[nu dc,ab seed,.slice B n d] u fun e w'=>e= .returned (ab S)∧Kept [] u w')
 (cv:VrC K S b true) (cv3:∀u pv v1 v2 v3,Parts u pv [(v1,b1),(v2,[]),(v3,b2)]→Calls Tryz.prog 13 #[ab K,ab S,pv] u fun e w'=>e= .returned (.bool true)∧Kept [] u w') :
 Calls Tryz.prog 3 #[ab seed,v,.int .i64 at_] w fun e w'=>e= .returned (.bool true)∧Kept [] w w':=by
 have cf:=hjd d3s
 have q43:=c2e (beq_self_eq_true K) hK hK
 have q50:=d2h (beq_self_eq_true S) hS hS
 obtain⟨A,c,rfl,_⟩:=rd
 replace hl:=hjd hl
 replace hK:=hjd hK
 replace hS:=hjd hS
 replace hmin:=hjd hmin
 replace R0:=hjd R0
 replace R1:=hjd R1
 replace R2:=hjd R2
 replace cnw:=hjd cnw
 replace cp:=hjd cp
 replace cs:=hjd cs
 replace ck:=hjd ck
 replace cr:=hjd cr
 replace cv:=hjd cv
 replace cv3:=hjd cv3
 go_enter Tryz.func3,Tryz.ntmps3
 go_wp2_with (first
  | ((with_reducible refine a0q 3 ?_);(refine a0m (o:=⟨some 3,_,_,_,_,_⟩) (v:=ab seed) rfl (.tmp 0) rfl rfl ?_);intro g3 w3 m3;have t:=hjd ((Pm.none w).kept m3.kept |>.cons (show Blk w3 g3 22 (bv seed).toArray from m3.blk));clear m3)
  | (go_at_call 7;(with_reducible refine(cf.out _).mono ?_);rintro e v ⟨rfl,kk⟩;replace t:=hjd (t.out.kept kk);clear kk)
  | ((with_reducible refine a0q 17 ?_);refine e5n (o:=⟨some 17,_,_,_,_,_⟩) rfl (.tmp 16) (.const (.int .i64 2000)) rfl rfl rfl hmin.out ?_)
  | (go_at_call 8;(with_reducible refine(cnw.out _).mono ?_);rintro e v ⟨rfl,kk⟩;replace t:=hjd (t.out.kept kk);clear kk)
  | ((with_reducible refine a0q 9 ?_);(refine a0f (o:=⟨some 9,_,_,_,_,_⟩) rfl rfl e1u ?_);intro g9 w9' m9
     refine a0b (o:=⟨none,.store 29 (.tmp 9) (.tmp 27),_,_,_,_⟩) a3c rfl (.tmp 9) (.tmp 27) rfl rfl rfl m9.blk rfl rfl (a1j _) ?_
     intro w9 b9 k9
     replace t:=hjd (t.out.put m9 b9 k9)
     clear m9 b9 k9))
 have B3:=hjd (t.out.s (g3,22,(bv seed).toArray) (by simp))
 have KK:=hjd t.out.k
 refine Txt.c8b (by kernel_rfl) [Txt.isV (ab seed),Txt.isV (ab K),Txt.isV (ab seed),Txt.isV (.slice B n d),Txt.isV (.int .i64 (k:Int)),Txt.isV (.slice B1 k d1),Txt.isV (.slice B n d),Txt.isV (.int .i64 (k:Int)),Txt.isV (.slice B2 (n - k) d2),a7z [((.slice B1 k d1),b1),((.slice B2 (n - k) d2),b2)],Txt.isV (ab S),Txt.a4z w9.heap.size 22 (ab (a0p 32)).cells,Txt.a4z w9.heap.size 32 (ab (a0p 64)).cells] (fun u=>Kept [] w9 u) (by kernel_rfl) rfl rfl rfl (by kernel_rfl) ⟨⟨13,.chain⟩,by simp,rfl,rfl⟩ ((Kept.refl [] w9).drew) (fun u u2 h k=>h.a0i k) ⟨?_,?_,?_,?_,?_,?_,?_,?_,?_,?_,?_,?_,?_,trivial⟩ ?_
 ·exact Txt.a2e a1u.row rfl rfl (by decide) B3.out (by simpa using hl.out)
 ·refine Txt.a1w rfl b6r (fun _ _ _ h _=>h) fun a u hS hr _=>?_
  have e0:a.tmps.getD 28 undef=(ab seed):=hr 0 _ 28 _ rfl rfl rfl ⟨⟨0,.data⟩,by simp,rfl,rfl⟩
  have hm:Array.map a.eval #[.tmp 28]= #[(ab seed)]:=by simp only [List.map_toArray,List.map_cons,List.map_nil,Act.eval,e0]
  rw [hm]
  refine(cp.out u).mono ?_
  rintro e u2 ⟨rfl,hk⟩
  exact⟨_,rfl,rfl,hk⟩
 ·exact Txt.a2e a1u.row rfl rfl (by decide) B3.out (by simpa using hl.out)
 ·exact a2s (x:=7) rfl (by decide) fun a W hx=>a9s rfl W hx
 ·exact a2s (x:=8) rfl (by decide) fun a W hx=>a9s rfl W hx
 ·refine b3w fun a u hS hr _=>?_
  have e0:=hr 3 _ 31 _ rfl rfl rfl ⟨⟨3,.data⟩,by simp,rfl,rfl⟩
  have e1:=hr 4 _ 32 _ rfl rfl rfl ⟨⟨4,.data⟩,by simp,rfl,rfl⟩
  exact e5u rfl u e0 e1 hB1
 ·exact a2s (x:=7) rfl (by decide) fun a W hx=>a9s rfl W hx
 ·exact a2s (x:=8) rfl (by decide) fun a W hx=>a9s rfl W hx
 ·refine b3w fun a u hS hr _=>?_
  have e0:=hr 6 _ 34 _ rfl rfl rfl ⟨⟨6,.data⟩,by simp,rfl,rfl⟩
  have e1:=hr 7 _ 35 _ rfl rfl rfl ⟨⟨7,.data⟩,by simp,rfl,rfl⟩
  exact e2o rfl u e0 e1 hB2
 ·exact d3g (x:=33) (y:=36) (i:=5) (j:=8) rfl rfl rfl rfl rfl rfl ⟨⟨5,.data⟩,by simp,rfl,rfl⟩ rfl rfl rfl ⟨⟨8,.data⟩,by simp,rfl,rfl⟩ (R1.out.a1o KK.out) (R2.out.a1o KK.out)
 ·refine Txt.a1w rfl c2n (fun _ _ _ h _=>h) fun a u hS hr _=>?_
  have e0:a.tmps.getD 30 undef=(ab seed):=hr 2 _ 30 _ rfl rfl rfl ⟨⟨2,.data⟩,by simp,rfl,rfl⟩
  have e1:=hr 9 _ 37 _ rfl rfl rfl ⟨⟨9,.data⟩,by simp,rfl,rfl⟩
  have hm:Array.map a.eval #[.tmp 30,.tmp 37]= #[(ab seed),a.tmps.getD 37 undef]:=by simp only [List.map_toArray,List.map_cons,List.map_nil,Act.eval,e0]
  rw [hm]
  refine(cs.out _ _ _ _ e1).mono ?_
  rintro e u2 ⟨rfl,hk⟩
  exact⟨_,rfl,rfl,hk⟩
 ·exact Txt.a4m rfl a3h
 ·exact Txt.a4m rfl b4x
 intro v wc kc hv
 have v0:v 0=(ab seed):=hv 0 _ rfl
 have v1:v 1=(ab K):=hv 1 _ rfl
 have v2:v 2=(ab seed):=hv 2 _ rfl
 have v3:v 3=(.slice B n d):=hv 3 _ rfl
 have v4:v 4=(.int .i64 (k:Int)):=hv 4 _ rfl
 have v5:v 5=(.slice B1 k d1):=hv 5 _ rfl
 have v6:v 6=(.slice B n d):=hv 6 _ rfl
 have v7:v 7=(.int .i64 (k:Int)):=hv 7 _ rfl
 have v8:v 8=(.slice B2 (n - k) d2):=hv 8 _ rfl
 have v10:v 10=(ab S):=hv 10 _ rfl
 have h11:Txt.a4z w9.heap.size 22 (ab (a0p 32)).cells (v 11) wc:=hv 11 _ rfl
 have h12:Txt.a4z w9.heap.size 32 (ab (a0p 64)).cells (v 12) wc:=hv 12 _ rfl
 clear hv
 simp [Txt.a0w,List.range,List.range.loop,Act.put,v0,v1,v2,v3,v4,v5,v6,v7,v8,v10]
 generalize v 9=u9 at *
 generalize v 11=u11 at *
 generalize v 12=u12 at *
 clear v0 v1 v2 v3 v4 v5 v6 v7 v8 v10
 obtain⟨g10,rfl,b10,l10⟩:=h11.get
 clear h11
 obtain⟨g11,rfl,b11,l11⟩:=h12.get
 clear h12
 have n1011:=hjd (show g10≠g11 from b10.ne_ b11 (by decide))
 have t2:=hjd (show Pm w [(g9,29,(iv (fam 16 dc)).toArray),(g3,22,(bv seed).toArray)] wc from t.out.kept kc)
 have T10:=hjd (fun p (hp:p∈[(g9,29,(iv (fam 16 dc)).toArray),(g3,22,(bv seed).toArray)])=>(show p.1≠g10 from fun e=>by have:=(t.out.s p hp).lt;omega))
 have T11:=hjd (fun p (hp:p∈[(g9,29,(iv (fam 16 dc)).toArray),(g3,22,(bv seed).toArray)])=>(show p.1≠g11 from fun e=>by have:=(t.out.s p hp).lt;omega))
 have L10:=hjd (Nat.le_trans t.out.k.size l10)
 have L11:=hjd (Nat.le_trans t.out.k.size l11)
 clear t B3 KK kc l10 l11
 refine Txt.a7j a1u.row rfl rfl rfl b10 (by rfl) (by simpa using hK.out) (a2a _) ?_
 intro wd c10 k10
 simp [Act.put]
 have b11':=b11.kept k10 (by simpa using n1011.out.symm)
 have t3:=hjd (show Pm w ((g10,22,(bv K).toArray) :: [(g9,29,(iv (fam 16 dc)).toArray),(g3,22,(bv seed).toArray)]) wd from(⟨fun p hp=>(List.mem_cons.1 hp).elim (fun e=>by subst e;exact c10) (fun hp=>(t2.out.s p hp).kept k10 (by simpa using T10.out p hp)),t2.out.k.a0n k10 L10.out⟩))
 clear t2 c10 k10 b10 b11
 refine Txt.a7j Q.b4d rfl rfl rfl b11' (by rfl) (by simpa using hS.out) (a2a _) ?_
 intro we c11 k11
 simp [Act.put]
 have t:=hjd (show Pm w ((g11,32,(bv S).toArray) :: (g10,22,(bv K).toArray) :: [(g9,29,(iv (fam 16 dc)).toArray),(g3,22,(bv seed).toArray)]) we from(⟨fun p hp=>(List.mem_cons.1 hp).elim (fun e=>by subst e;exact c11) (fun hp=>(List.mem_cons.1 hp).elim (fun e=>by subst e;exact(t3.out.s _ (by simp)).kept k11 (by simpa using n1011.out)) (fun hp=>(t3.out.s p (by simp at hp ⊢;exact .inr hp)).kept k11 (by simpa using T11.out p hp))),t3.out.k.a0n k11 L11.out⟩))
 clear t3 c11 k11 b11' n1011 T10 T11 L10 L11
 go_wp2_with fail
 refine Txt.a1y [0,1,2,4,6,7,8,11,14,15,21,22] (Pm w [(g11,32,(bv S).toArray),(g10,22,(bv K).toArray),(g9,29,(iv (fam 16 dc)).toArray),(g3,22,(bv seed).toArray)]) [[_,_,_,_],[_,_,_,_,_,_,_],[_,_,_,_,_,_,_],[_],[_,_,_,_,_,_,_,_,_,_,_],[_],[_,_]] (by kernel_rfl) (by kernel_rfl) rfl t.out.drew (Txt.a0h ?_)
 replace t:=hjd t.out.drew
 go_wp2_with (first
  | ((with_reducible refine a0q 39 ?_);refine a0a (cs:=(bv K).toArray) (o:=⟨some 39,_,_,_,_,_⟩) a1u.row rfl (.tmp 10) rfl rfl (t.out.s (g10,22,(bv K).toArray) (by simp)) (by simpa using hK.out) ?_)
  | ((with_reducible refine a0q 40 ?_);refine a0a (cs:=(iv (fam 16 dc)).toArray) (o:=⟨some 40,_,_,_,_,_⟩) a3c rfl (.tmp 9) rfl rfl (t.out.s (g9,29,(iv (fam 16 dc)).toArray) (by simp)) rfl ?_)
  | ((with_reducible refine a0q 41 ?_);refine a0a (cs:=(bv seed).toArray) (o:=⟨some 41,_,_,_,_,_⟩) a1u.row rfl (.tmp 3) rfl rfl (t.out.s (g3,22,(bv seed).toArray) (by simp)) (by simpa using hl.out) ?_)
  | (go_at_call 11;(with_reducible refine(ck.out _).mono ?_);rintro e v ⟨rfl,kk⟩;replace t:=hjd (t.out.kept kk);clear kk))
 refine⟨rfl,t.out,Txt.a0h ?_⟩
 go_wp2_with (first
  | ((with_reducible refine a0q 45 ?_);refine a0a (cs:=(bv S).toArray) (o:=⟨some 45,_,_,_,_,_⟩) Q.b4d rfl (.tmp 11) rfl rfl (t.out.s (g11,32,(bv S).toArray) (by simp)) (by simpa using hS.out) ?_)
  | ((with_reducible refine a0q 46 ?_);refine a0a (cs:=(iv (fam 16 dc)).toArray) (o:=⟨some 46,_,_,_,_,_⟩) a3c rfl (.tmp 9) rfl rfl (t.out.s (g9,29,(iv (fam 16 dc)).toArray) (by simp)) rfl ?_)
  | ((with_reducible refine a0q 47 ?_);refine a0a (cs:=(bv seed).toArray) (o:=⟨some 47,_,_,_,_,_⟩) a1u.row rfl (.tmp 3) rfl rfl (t.out.s (g3,22,(bv seed).toArray) (by simp)) (by simpa using hl.out) ?_)
  | (go_at_call 12;(with_reducible refine(cr.out _ (R0.out.a1o t.out.k)).mono ?_);rintro e v ⟨rfl,kk⟩;replace t:=hjd (t.out.kept kk);clear kk))
 refine⟨rfl,t.out,Txt.a0h ?_⟩
 go_wp2_with (first
  | ((with_reducible refine a0q 53 ?_);refine a0a (cs:=(bv K).toArray) (o:=⟨some 53,_,_,_,_,_⟩) a1u.row rfl (.tmp 10) rfl rfl (t.out.s (g10,22,(bv K).toArray) (by simp)) (by simpa using hK.out) ?_)
  | ((with_reducible refine a0q 54 ?_);refine a0a (cs:=(bv S).toArray) (o:=⟨some 54,_,_,_,_,_⟩) Q.b4d rfl (.tmp 11) rfl rfl (t.out.s (g11,32,(bv S).toArray) (by simp)) (by simpa using hS.out) ?_)
  | ((with_reducible refine a0q 56 ?_);(refine a2b (o:=⟨some 56,_,_,_,_,_⟩) (v0:=.slice B n d) (cells:=#[.slice B n d]) rfl a3n rfl rfl (by simp) rfl rfl ?_);intro gp wp mp
     have PP:=hjd (c0w (x:=b) mp.blk ((R0.out.a1o t.out.k).a1o mp.kept))
     replace t:=hjd (t.out.kept mp.kept)
     clear mp))
 refine⟨rfl,t.out,Txt.a0h ?_⟩
 go_wp2_with (first
  | (go_at_call 13;(with_reducible refine(cv.out _ _ _ PP.out).mono ?_);rintro e v ⟨rfl,kk⟩;replace t:=hjd (t.out.kept kk);clear kk PP))
 refine⟨rfl,t.out,Txt.a0h ?_⟩
 go_wp2_with (first
  | ((with_reducible refine a0q 60 ?_);refine a0a (cs:=(bv K).toArray) (o:=⟨some 60,_,_,_,_,_⟩) a1u.row rfl (.tmp 10) rfl rfl (t.out.s (g10,22,(bv K).toArray) (by simp)) (by simpa using hK.out) ?_)
  | ((with_reducible refine a0q 61 ?_);refine a0a (cs:=(bv S).toArray) (o:=⟨some 61,_,_,_,_,_⟩) Q.b4d rfl (.tmp 11) rfl rfl (t.out.s (g11,32,(bv S).toArray) (by simp)) (by simpa using hS.out) ?_)
  | ((with_reducible refine a0q 68 ?_);(refine c2u (o:=⟨some 68,_,_,_,_,_⟩) (v0:=.slice B1 k d1) (v1:=.slice none 0 0) (v2:=.slice B2 (n - k) d2) rfl a3n rfl rfl rfl rfl rfl rfl rfl ?_);intro gp wp mp
     have PP:=hjd (parts3 mp.blk ((R1.out.a1o t.out.k).a1o mp.kept) (d7b _) ((R2.out.a1o t.out.k).a1o mp.kept))
     replace t:=hjd (t.out.kept mp.kept)
     clear mp))
 refine⟨rfl,t.out,Txt.a0h ?_⟩
 go_wp2_with (first
  | (go_at_call 13;(with_reducible refine(cv3.out _ _ _ _ _ PP.out).mono ?_);rintro e v ⟨rfl,kk⟩;replace t:=hjd (t.out.kept kk);clear kk PP))
 refine⟨rfl,t.out,Txt.a0h ?_⟩
 go_wp2_with fail
 refine⟨rfl,t.out,Txt.a1l ⟨⟨by kernel_rfl,?_⟩,?_⟩⟩
 ·intro j hj o ho hw
  have hj2:j=0∨j=1∨j=2∨j=4∨j=6∨j=7∨j=8∨j=11∨j=14∨j=15∨j=21∨j=22:=by simpa using hj
  rcases hj2 with rfl | rfl | rfl | rfl | rfl | rfl | rfl | rfl | rfl | rfl | rfl | rfl <;> cases ho
  ·exact⟨39,rfl,fun u hu=>a0r a1u.row (.tmp 10) rfl rfl (hu.s (g10,22,(bv K).toArray) (by simp)) (by simpa using hK.out)⟩
  ·exact⟨40,rfl,fun u hu=>a0r a3c (.tmp 9) rfl rfl (hu.s (g9,29,(iv (fam 16 dc)).toArray) (by simp)) rfl⟩
  ·exact⟨41,rfl,fun u hu=>a0r a1u.row (.tmp 3) rfl rfl (hu.s (g3,22,(bv seed).toArray) (by simp)) (by simpa using hl.out)⟩
  ·exact⟨43,rfl,fun u _=>b7v (.tmp 39) (.tmp 42) rfl rfl rfl (beq_self_eq_true _) hK.out hK.out⟩
  ·exact⟨45,rfl,fun u hu=>a0r Q.b4d (.tmp 11) rfl rfl (hu.s (g11,32,(bv S).toArray) (by simp)) (by simpa using hS.out)⟩
  ·exact⟨46,rfl,fun u hu=>a0r a3c (.tmp 9) rfl rfl (hu.s (g9,29,(iv (fam 16 dc)).toArray) (by simp)) rfl⟩
  ·exact⟨47,rfl,fun u hu=>a0r a1u.row (.tmp 3) rfl rfl (hu.s (g3,22,(bv seed).toArray) (by simp)) (by simpa using hl.out)⟩
  ·exact⟨50,rfl,fun u _=>c7j (.tmp 45) (.tmp 49) rfl rfl rfl (beq_self_eq_true _) hS.out hS.out⟩
  ·exact⟨53,rfl,fun u hu=>a0r a1u.row (.tmp 10) rfl rfl (hu.s (g10,22,(bv K).toArray) (by simp)) (by simpa using hK.out)⟩
  ·exact⟨54,rfl,fun u hu=>a0r Q.b4d (.tmp 11) rfl rfl (hu.s (g11,32,(bv S).toArray) (by simp)) (by simpa using hS.out)⟩
  ·exact⟨60,rfl,fun u hu=>a0r a1u.row (.tmp 10) rfl rfl (hu.s (g10,22,(bv K).toArray) (by simp)) (by simpa using hK.out)⟩
  ·exact⟨61,rfl,fun u hu=>a0r Q.b4d (.tmp 11) rfl rfl (hu.s (g11,32,(bv S).toArray) (by simp)) (by simpa using hS.out)⟩
 go_wp2_with fail
 go_ret
 exact⟨rfl,t.out.k⟩
theorem c2s(seed:List UInt8)(v:Value)(bs:List UInt8)(at_:Int)(w:World)(hl:seed.length=32)(rd:Rd w 1 v bs.length (bv bs))(_:bs.length≤9223372036854775807)(_:(Lit.int .i64 at_).wf=true) :
 Calls Tryz.prog 3 #[ab seed,v,.int .i64 at_] w fun e w'=>e= .returned (.bool true)∧Kept [] w w':=by
 obtain⟨n,hn,hnl,hmin⟩:=e5o bs.length 2000 2000 rfl
 obtain⟨k,hk,hkn⟩:=e6p at_ n (by omega)
 obtain⟨B,d,hB,R0⟩:=cut_b (show a8e bs v w from rd) n hnl
 have hbl:(bs.take n).length=n:=by rw [List.length_take];omega
 obtain⟨B1,d1,hB1,R1⟩:=cut_b R0 k (by omega)
 obtain⟨B2,d2,hB2,R2⟩:=cut_e R0 k (by omega)
 rw [hbl]at hB2 R2
 generalize bs.take n=b at *
 obtain⟨dc,cnw,hD⟩:=new_r
 have hK:=a5i (a7q seed)
 have hS:=d2z seed b
 refine c3c seed v bs at_ w hl hK hS hn hkn rd hmin hk hB hB1 hB2 R0 R1 R2 cnw (fun u=>b6n _ hl u) ?_ (fun u=>c4b hD _ hl u) (fun u h=>d0s hD _ hl _ b u h (by omega)) (d4q hK hS (by omega) (c1v _ _)) ?_
 ·intro u pv v1 v2 h
  exact c4g _ hl pv _ b u h (by simp [a1k,bytesOf]) (by simp) (by omega)
 ·intro u pv v1 v2 v3 h
  have:=b5t (b3b (a7q seed)) (a9r seed b) hK hS pv _ b u h (by simp [a1k,bytesOf]) (by simp) (by omega)
  rwa [c1v]at this
end Go.Proofs.YtdbngnlpafcogaaGreat
