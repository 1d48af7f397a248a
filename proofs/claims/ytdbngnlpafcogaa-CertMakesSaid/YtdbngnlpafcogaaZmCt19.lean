/-
  The certificates' laws: certificates are made of a quorum's right shares (CertMakes): the walk.
-/
import Derived.Test.YtdbngnlpafcogaaZmJ06
set_option maxRecDepth 100000
namespace Go.Proofs.Ytdbngnlpafcogaa
open Go.RowKit Go.Mem Go.Txt
set_option maxHeartbeats 6400000 in
theorem c3w{SL:Nat→UInt8→List UInt8}{KY:Nat→List UInt8}{okm:Nat→List UInt8→Bool}{keys:Nat→List (List UInt8)}{body:List UInt8}{ps:List (Int × Bool × Bool)}(f:Int)(bw tv:Value)(w:World)
 (hb:a2b body bw w) (hbl:body.length≤140737488351232) (ht:Rd w 3 tv ps.length (ps.flatMap a5v)) (hSL:∀i t,(SL i t).length=64)
 (hK:∀n,(keys n).length=n) (hok:∀(n m:Nat) sg,m < n→okR (keys n) 5 body m sg=okm m sg)
 (ck:∀r b kv u (n m:Nat),RgJ r b kv (keys n) u→m < n→Calls Try.prog 22 #[.pointer (some ⟨r,0,none⟩),.int .i64 (m:Int)] u fun e w'=>e= .returned (ab (KY m))∧Kept [] u w')
 (cw:∀(m:Nat) sg u v,sg.length=64→a2b body v u→Calls Try.prog 16 #[ab (KY m),.int .u8 5,v,ab sg] u fun e w'=>e= .returned (.bool (okm m sg))∧Kept [] u w')
 (c1:∀u,Calls Try.prog 30 #[] u fun e w'=>e= .returned (.bool true)∧Kept [] u w')
 (co:∀(k:Nat) u,k≤2→Calls Try.prog 31 #[.int .i64 (k:Int)] u fun e w'=>∃r b kv sv,e= .returned (.tuple #[.pointer (some ⟨r,0,none⟩),sv])∧RgJ r b kv (keys (3 * k + 1)) w'∧Rd w' 32 sv (3 * k + 1) ((a4y (3 * k + 1)).flatMap bv)∧Kept [] u w'∧u.heap.size≤b)
 (cs5:∀(i:Nat) u v,a2b body v u→Calls Try.prog 17 #[ab (a4f i),.int .u8 5,v] u fun e w'=>e= .returned (ab (SL i 5))∧Kept [] u w')
 (cs4:∀(i:Nat) u v,a2b body v u→Calls Try.prog 17 #[ab (a4f i),.int .u8 4,v] u fun e w'=>e= .returned (ab (SL i 4))∧Kept [] u w') :
 Calls Try.prog 8 #[.int .i64 f,bw,tv] w fun e w'=>e= .returned (.bool true)∧Kept [] w w':=by
 obtain⟨k,hk,hk2⟩:=e3e f
 replace hb:=hjd hb
 replace hbl:=hjd hbl
 replace ht:=hjd ht
 replace hSL:=hjd hSL
 replace c1:=hjd c1
 replace hK:=hjd hK
 replace hok:=hjd hok
 replace ck:=hjd ck
 replace cw:=hjd cw
 replace co:=hjd co
 replace cs5:=hjd cs5
 replace cs4:=hjd cs4
 have hbS:=hb.out
 obtain⟨BA,bc,rfl,e1⟩:=hbS
 clear e1
 have hks:=hjd (show k≤2 by omega)
 have htS:=ht.out
 obtain⟨TA,tc,rfl,e1⟩:=htS
 clear e1
 go_enter Try.func8,Try.ntmps8
 go_upto_region 4 with(first
  | (go_at_call 30;(with_reducible refine(c1.out _).mono ?_);rintro e v27 ⟨rfl,K⟩;replace K:=hjd K))
 rw [hk]
 go_upto_block 0 with(first
  | (go_at_call 31;(with_reducible refine(co.out k _ hks.out).mono ?_);rintro e u1 ⟨r,b,kv,sdv,rfl,J,S,K1,L⟩
     have hB:=hjd (show∀q∈[b],w.heap.size≤q by simpa using Nat.le_trans K.out.size L)
     have hBu:=hjd J
     have B:=hjd (show W2 u1 r b kv sdv (3 * k + 1) (keys (3 * k + 1)) body (.slice BA body.length bc) ps (.slice TA ps.length tc)from⟨J,S,a2b.a0o (a2b.a0o hb.out K.out) K1,(ht.out.a0o K.out).a0o K1⟩)
     replace K:=hjd (K.out.a0f K1)
     obtain⟨sb,so,sc,rfl,e2,e3⟩:=S.at_ (by omega)
     clear e2 e3 L J S K1)
  | ((with_reducible refine a0e 40 ?_);refine d5e a5z rfl (.tmp 39) (.tmp 39) rfl (n:=3 * k + 1) rfl rfl (by have:=hks.out;omega) (by have:=hks.out;omega) ?_
     intro g11 w11 m11
     replace m11:=hjd m11)
  | ((with_reducible refine a0e 43 ?_);refine d5e b1t rfl (.tmp 42) (.tmp 42) rfl (n:=3 * k + 1) rfl rfl (by have:=hks.out;omega) (by have:=hks.out;omega) ?_
     intro g12 w12 m12
     have X:=hjd (show CX u1 g11 g12 (3 * k + 1) (fun _=>false) (fun _=>a0q 64) [] (.slice none 0 0) w12 from⟨m11.out.kept.a0f m12.kept,by have h:=m11.out.blk.kept m12.kept (by simp);rw [c9b k hks.out]at h;exact h,by have h:=m12.blk;rw [d3f k hks.out]at h;exact h,m11.out.le,Nat.le_trans m11.out.kept.size m12.le,Ow.nil _ _ _,fun k h=>by cases h⟩)
     clear m12 m11))
 have HK:=hjd hk2
 have MS0:=hjd (MkS.start (okR (keys (3 * k + 1)) 5 body))
 go_cut [10,13] (fun x10 x13 wc=>True∧∃C:Nat,x13= .int .i64 (C:Int)∧Hid (∃(sh:List Shr) (R:Nat→Bool) (G:Nat→List UInt8),sh.length≤20∧MkS (okR (keys (3 * k + 1)) 5 body) sh R G C∧CX u1 g11 g12 (3 * k + 1) R G sh x10 wc))
 case first=>
  go_wp2_with fail
  go_loopg [10,13,46] ps.length (fun f' x10 x13 x46 wk=>∃(i C:Nat),i≤ps.length∧f' + i=ps.length∧x46= .int .i64 (i:Int)∧x13= .int .i64 (C:Int)∧Hid (i≤20)∧Hid (∃(sh:List Shr) (R:Nat→Bool) (G:Nat→List UInt8),sh.length=i∧MkS (okR (keys (3 * k + 1)) 5 body) sh R G C∧CX u1 g11 g12 (3 * k + 1) R G sh x10 wk))
  case atStart=>exact⟨0,0,by omega,by omega,rfl,rfl,hjd (by omega),hjd ⟨[],_,_,rfl,MS0.out,X.out⟩⟩
  case round=>
   clear X MS0
   obtain⟨i,C,hi,hf,rfl,rfl,hi20,hE⟩:=hrel
   by_cases hlt:i < ps.length
   ·obtain⟨sh,R,G,hsl,MS,X⟩:=hE.out
    clear hE
    replace MS:=hjd MS
    replace X:=hjd X
    replace hsl:=hjd hsl
    obtain⟨SA,sc1,rfl,e2⟩:=X.out.s.shape
    clear e2
    obtain⟨⟨x,wr0,ot⟩,hpe⟩:∃x,ps.getD i (0,false,false)=x:=⟨_,rfl⟩
    have T:=hjd (d6t (X.out.k) B.out.pu hlt)
    rw [hpe]at T
    clear hpe
    obtain⟨tb,tp,tc2,e,e2,e3⟩:=B.out.pu.at_ (by omega)
    cases e
    clear e2 e3
    go_upto_region 12 with(first
     | ((with_reducible refine a0e 49 ?_);refine a3x (o:=⟨some 49,_,_,_,_,_⟩) partsT rfl (.tmp 44) (.tmp 46) rfl rfl rfl hlt ?_)
     | ((with_reducible refine a0e 50 ?_);refine a0z (o:=⟨some 50,_,_,_,_,_⟩) (cs:=a5v (x,wr0,ot)) partR rfl (.tmp 49) rfl rfl (T.out _ _ _ rfl) rfl ?_)
     | ((with_reducible refine a0e 15 ?_);(refine a0h (o:=⟨some 15,_,_,_,_,_⟩) rfl rfl d6o ?_);intro g15 w15 m15)
     | ((with_reducible refine a2w (.tmp 15) (.tmp 50) ?_);refine a0c (cs:=(a5v (x,wr0,ot)).toArray) (o:=⟨none,Op.store 72 (.tmp 15) (.tmp 50),_,_,_,_⟩) partR rfl (.tmp 15) (.tmp 50) rfl rfl rfl m15.blk rfl rfl (d8h _) ?_
        intro wb b15 k15
        have B15:=hjd b15
        have K15:=m15.kept.a0r k15 m15.le
        replace X:=hjd (X.out.a0o K15)
        clear m15 b15 k15 K15))
    clear T
    by_cases h20:(20:Int)≤(i:Int)
    ·go_wp2_with fail
     go_meet
     have hb4:=hi20.out
     exact⟨trivial,_,rfl,hjd ⟨sh,R,G,by have:=hsl.out;omega,MS.out,X.out⟩⟩
    ·have hC7:=hjd MS.out.le
     have hsl19:=hjd (show sh.length≤19 by have:=hsl.out;omega)
     obtain⟨m,hm,hmL⟩:=mod_n x (m:=3 * k + 1 + 1) (by omega) (by have:=hks.out;omega)
     have hm2:wrap64 ((IntKind.u64.wrap x).tmod (3 * (k:Int) + 1 + 1))=(m:Int):=by
      have e:((3 * k + 1 + 1:Nat):Int)=3 * (k:Int) + 1 + 1:=by omega
      rw [e]at hm
      exact hm
     go_upto_region 14 with(first
      | ((with_reducible refine a0e 54 ?_);refine a0v (v:=.int .i64 x) (by kernel_rfl) (a1s rfl (fun w=>by kernel_rfl) rfl (B15.out.cell 0)) ?_))
     rw [hm2]
     clear hm hm2
     go_upto_region 15 with(first
      | ((with_reducible refine a0e 63 ?_);refine a3t (v:=.int .i64 (m:Int)) (cs:=(shC ((m:Int),a0q 64)).toArray) rfl 0 (.tmp 62) rfl rfl (c0z _) ?_)
      | ((with_reducible refine a0e 17 ?_);(refine a0h (o:=⟨some 17,_,_,_,_,_⟩) rfl rfl d3a ?_);intro g17 w17 m17)
      | ((with_reducible refine a2w (.tmp 17) (.tmp 63) ?_);refine a0c (cs:=(shC ((m:Int),a0q 64)).toArray) (o:=⟨none,Op.store 60 (.tmp 17) (.tmp 63),_,_,_,_⟩) a6u rfl (.tmp 17) (.tmp 63) rfl rfl rfl m17.blk (show(shC (0,a0q 64)).toArray.size=65 from by rw [List.size_toArray];exact a0s rfl) (by rw [List.size_toArray];exact a0s rfl) (d3s _) ?_
         intro ws b17 k17
         have B17:=hjd b17
         have F17:=hjd (X.out.off m17.le)
         have K17:=m17.kept.a0r k17 m17.le
         have N15:=hjd (show g15≠g17 by have:=B15.out.lt;have:=m17.le;omega)
         replace B15:=hjd (B15.out.kept K17 (by simp))
         replace X:=hjd (X.out.a0o K17)
         clear m17 b17 k17 K17))
     by_cases hmn:m < 3 * k + 1
     ·replace hmn:=hjd hmn
      have hmn':=hmn.out
      clear hmL
      cases ot with
      | true=>
        cases wr0 with
        | true=>
          have hmi:(m:Int) < 3 * (k:Int) + 1:=by omega
          clear hmn'
          go_upto_region 19 with(first
           | ((with_reducible refine a0e 69 ?_);refine a0v (v:=.bool true) (by kernel_rfl) (a1s rfl (fun w=>by kernel_rfl) rfl (B15.out.cell 2)) ?_))
          obtain⟨sg0,hsg0⟩:∃sg,SL m 4=sg:=⟨_,rfl⟩
          have hs0:=hjd (show sg0.length=64 from hsg0▸hSL.out m 4)
          have hse:=hjd hsg0
          clear hsg0
          go_upto_region 20 with(first
           | ((with_reducible refine a0e 72 ?_);refine a0v (v:=.pointer (some ⟨sb,so + m * 32,none⟩)) (by kernel_rfl) (a4h rfl rfl rfl (a5o (P:=Try.prog) (g:=sb) (off:=so) (c:=sc) (i:=m) a7r hmn.out _ _)) ?_)
           | ((with_reducible refine a0e 73 ?_);refine a0z (o:=⟨some 73,_,_,_,_,_⟩) (cs:=bv (a4f m)) a2k.row (by kernel_rfl) (.tmp 72) rfl rfl (b1k B.out.sd X.out.k hmn.out) (by simpa using a4a m) ?_)
           | (go_at_call 17;(with_reducible refine(cs4.out m _ _ (a2b.a0o B.out.bo X.out.k)).mono ?_);rintro e vs ⟨rfl,kk⟩
              rw [hse.out]
              replace X:=hjd (X.out.a0o kk)
              replace B15:=hjd (B15.out.kept kk (by simp))
              replace B17:=hjd (B17.out.kept kk (by simp))
              clear kk)
           | ((with_reducible refine a2w (.tmp 77) (.tmp 76) ?_);refine a9h (o:=⟨none,Op.store 24 (.tmp 77) (.tmp 76),_,_,_,_⟩) Q.a8z rfl (.tmp 77) (.tmp 76) rfl rfl (pre:=[.int .i64 (m:Int)]) (mid:=bv (a0q 64)) (post:=[]) rfl (by rw [List.append_nil];exact B17.out) rfl (by simp [a0q]) (by simpa using hs0.out) (a2v _) ?_
              intro ws b17 k17
              replace B17:=hjd (show Blk ws g17 60 (shC ((m:Int),sg0)).toArray from by rw [List.append_nil]at b17;exact b17)
              replace X:=hjd (X.out.write F17.out k17)
              replace B15:=hjd (B15.out.kept k17 (by simpa using N15.out))
              clear b17 k17))
          obtain⟨y,hy⟩:∃y,sg0[5]?=some y:=⟨_,List.getElem?_eq_getElem (by have:=hs0.out;omega)⟩
          have qy:=hjd (show ws.cell? ⟨g17,6,none⟩=some (.int .u8 (y.toNat:Int))from by rw [B17.out.cell];simp [shC,bv,hy,a2r])
          have x0:=d1n y
          replace hy:=hjd hy
          go_upto_region 22 with(first
           | ((with_reducible refine a0e 79 ?_);refine a0v (v:=.bool true) (by kernel_rfl) (a1s rfl (fun w=>by kernel_rfl) rfl (B15.out.cell 1)) ?_)
           | ((with_reducible refine a0e 81 ?_);refine a0v (v:=.pointer (some ⟨g17,1 + 5,none⟩)) (by kernel_rfl) (a4h rfl rfl rfl (d8q (i:=5) (by omega) _ _)) ?_)
           | ((with_reducible refine a0e 82 ?_);refine a0v (v:=.int .u8 (y.toNat:Int)) (by kernel_rfl) (a1s rfl (fun w=>by kernel_rfl) rfl qy.out) ?_)
           | ((with_reducible refine a0e 85 ?_);refine a0v (v:=.pointer (some ⟨g17,1 + 5,none⟩)) (by kernel_rfl) (a4h rfl rfl rfl (d8q (i:=5) (by omega) _ _)) ?_)
           | ((with_reducible refine a2w (.tmp 85) (.tmp 83) ?_);refine a6f (o':=⟨none,Op.store 5 (.tmp 85) (.tmp 83),_,_,_,_⟩) (by kernel_rfl) (.tmp 85) (.tmp 83) rfl (b:=g17) (off:=6) rfl (v:=a2r (y ^^^ 1)) rfl rfl (by kernel_rfl) B17.out (by rw [List.size_toArray,a0s hs0.out];omega) ?_
              intro ws b17 k17
              replace B17:=hjd (show Blk ws g17 60 (shC ((m:Int),sg0.set 5 (y ^^^ 1))).toArray from by rw [←c0u B17.out];exact b17)
              replace X:=hjd (X.out.write F17.out k17)
              replace B15:=hjd (B15.out.kept k17 (by simpa using N15.out))
              clear b17 k17 qy))
          obtain⟨sg,hsg⟩:∃sg,sg0.set 5 (y ^^^ 1)=sg:=⟨_,rfl⟩
          have hs64:=hjd (show sg.length=64 from by rw [←hsg,List.length_set];exact hs0.out)
          rw [hsg]at B17
          clear hsg hy x0
          clear B15 N15 hse hs0
          cases hRm:R m with
          | true=>
            have hML:=hjd (MS.out.leave (p:=((m:Int),sg)) hs64.out (fun h=>by have h3:=h.2.2.1;simp [hRm]at h3))
            replace hRm:=hjd hRm
            obtain⟨W,hWd⟩:∃W,ws=W:=⟨_,rfl⟩
            have XW:=hjd (hWd▸X.out)
            have B17W:=hjd (hWd▸B17.out)
            have RB:=hjd (fun u (hu:Kept [] W u)=>(show u.cell? ⟨g11,1 * m,none⟩=some (.bool true)from by have h:=(XW.out.a0o hu).lr hmn.out;rw [hRm.out]at h;rw [Nat.one_mul];exact h))
            clear X B17
            refine Txt.a4e (by kernel_rfl) [Txt.isV (.slice (some ⟨g11,0,none⟩) (3 * k + 1) (3 * k + 1)),Txt.isV (.int .i64 (m:Int)),Txt.isV (.pointer (some ⟨g11,1 * m,none⟩)),Txt.isV (.bool true),Txt.isV (.bool false),Txt.isV (.bool false),Txt.isV undef,Txt.isV undef,Txt.isV undef,Txt.isV undef,Txt.isV undef,Txt.isV undef,Txt.isV undef] (fun _ u=>Kept [] W u) (fun _=>[]) (by kernel_rfl) (by kernel_rfl) (by simp) (by kernel_rfl) (hWd▸(Kept.refl [] ws).drew) (fun _ _ _ _ h=>h) (fun _ _ _ _ _ h k=>h.a0f k) ⟨?_,?_,?_,?_,?_,?_,?_,?_,?_,?_,?_,?_,?_,trivial⟩ ?_
            ·refine a0k (.inl rfl) fun L ac u hL hS hr hoth=>?_
             have e0:ac.eval (.tmp 11)=(.slice (some ⟨g11,0,none⟩) (3 * k + 1) (3 * k + 1)):=(hoth 11 (by decide)).trans rfl
             exact a6q rfl e0
            ·refine a0k (.inl rfl) fun L ac u hL hS hr hoth=>?_
             have e0:ac.eval (.tmp 16)=(.int .i64 (m:Int)):=(hoth 16 (by decide)).trans rfl
             exact a6q rfl e0
            ·refine a0k (.inl rfl) fun L ac u hL hS hr hoth=>?_
             have e0:ac.eval (.tmp 86)=(.slice (some ⟨g11,0,none⟩) (3 * k + 1) (3 * k + 1)):=hr 0 _ 86 _ rfl rfl rfl ⟨⟨0,.data⟩,by simp,rfl,rfl⟩
             have e1:ac.eval (.tmp 87)=(.int .i64 (m:Int)):=hr 1 _ 87 _ rfl rfl rfl ⟨⟨1,.data⟩,by simp,rfl,rfl⟩
             exact a4h rfl e0 e1 (a4q a5z hmn.out _ _)
            ·refine a0k (.inl rfl) fun L ac u hL hS hr hoth=>?_
             have e0:ac.eval (.tmp 88)=(.pointer (some ⟨g11,1 * m,none⟩)):=hr 2 _ 88 _ rfl rfl rfl ⟨⟨2,.data⟩,by simp,rfl,rfl⟩
             exact a1s rfl (fun w=>by kernel_rfl) e0 (RB.out u hS)
            ·refine a0k (.inl rfl) fun L ac u hL hS hr hoth=>?_
             have e0:ac.eval (.tmp 89)=(.bool true):=hr 3 _ 89 _ rfl rfl rfl ⟨⟨3,.data⟩,by simp,rfl,rfl⟩
             exact b9w rfl e0
            ·refine a0k (.inl rfl) fun L ac u hL hS hr hoth=>?_
             have e0:ac.eval (.tmp 90)=(.bool false):=hr 4 _ 90 _ rfl rfl rfl ⟨⟨4,.data⟩,by simp,rfl,rfl⟩
             exact a6q rfl e0
            ·exact a2e (k:=5) (b:=true) rfl rfl (fun _=>rfl) (fun _ _ _ _ _ _ h _=>h)
            ·exact a2e (k:=5) (b:=true) rfl rfl (fun _=>rfl) (fun _ _ _ _ _ _ h _=>h)
            ·exact a2e (k:=5) (b:=true) rfl rfl (fun _=>rfl) (fun _ _ _ _ _ _ h _=>h)
            ·exact a2e (k:=5) (b:=true) rfl rfl (fun _=>rfl) (fun _ _ _ _ _ _ h _=>h)
            ·exact a2e (k:=5) (b:=true) rfl rfl (fun _=>rfl) (fun _ _ _ _ _ _ h _=>h)
            ·exact a2e (k:=5) (b:=true) rfl rfl (fun _=>rfl) (fun _ _ _ _ _ _ h _=>h)
            ·exact a2e (k:=5) (b:=true) rfl rfl (fun _=>rfl) (fun _ _ _ _ _ _ h _=>h)
            intro v wc kc hv
            have y0:v 0=(.slice (some ⟨g11,0,none⟩) (3 * k + 1) (3 * k + 1)):=hv 0 _ rfl
            have y1:v 1=(.int .i64 (m:Int)):=hv 1 _ rfl
            have y2:v 2=(.pointer (some ⟨g11,1 * m,none⟩)):=hv 2 _ rfl
            have y3:v 3=(.bool true):=hv 3 _ rfl
            have y4:v 4=(.bool false):=hv 4 _ rfl
            have y5:v 5=(.bool false):=hv 5 _ rfl
            have y6:v 6=undef:=hv 6 _ rfl
            have y7:v 7=undef:=hv 7 _ rfl
            have y8:v 8=undef:=hv 8 _ rfl
            have y9:v 9=undef:=hv 9 _ rfl
            have y10:v 10=undef:=hv 10 _ rfl
            have y11:v 11=undef:=hv 11 _ rfl
            have y12:v 12=undef:=hv 12 _ rfl
            clear hv
            simp [Txt.a1a,List.range,List.range.loop,Act.put,y0,y1,y2,y3,y4,y5,y6,y7,y8,y9,y10,y11,y12]
            clear y0 y1 y2 y3 y4 y5 y6 y7 y8 y9 y10 y11 y12
            unfold Txt.a4m
            refine a3l (v:=.bool false) rfl ?_
            unfold Txt.a4m
            simp [Act.put]
            have X:=hjd (XW.out.a0o kc)
            have B17:=hjd (B17W.out.kept kc (by simp))
            clear kc RB XW B17W hWd
            go_wp2_with (first
             | ((with_reducible refine a0e 111 ?_);refine a0d (cs:=(shC ((m:Int),sg)).toArray) (o:=⟨some 111,_,_,_,_,_⟩) a6u rfl (.tmp 17) rfl rfl B17.out (by rw [List.size_toArray];exact a0s hs64.out) ?_)
             | ((with_reducible refine a0e 112 ?_);(refine a1f (o:=⟨some 112,_,_,_,_,_⟩) (v0:=.agg (shC ((m:Int),sg)).toArray) (cells:=(shC ((m:Int),sg)).toArray) rfl a2c rfl rfl (by decide) rfl (by rw [List.size_toArray];exact a0s hs64.out) ?_);intro gl wl ml
                have RL:=hjd (a6a ml.blk (a0s hs64.out))
                replace X:=hjd (X.out.a0o ml.kept)
                clear ml)
             | (at_builtin;refine a2h a2c rfl (.tmp 110) (.tmp 112) rfl rfl (xs:=sh.flatMap shC) (n:=sh.length) (m:=1) (news:=shC ((m:Int),sg)) X.out.s rfl RL.out (a2m _) (by have:=hsl19.out;omega) (by have:=hsl19.out;omega) ?_
                intro xa wa oa ka ba
                have X2:=hjd (X.out.b1l (p:=((m:Int),sg)) oa ka ba)
                clear oa ka ba RL))
            go_roundg (ps.length - (i + 1))
            case measure=>omega
            case rel=>exact⟨i + 1,C,by omega,by omega,by go_num,rfl,hjd (by omega),hjd ⟨_,R,G,by rw [List.length_append,List.length_singleton,hsl.out],hML.out,X2.out⟩⟩
          | false=>
            have hRm2:=hRm
            replace hRm:=hjd hRm
            obtain⟨W,hWd⟩:∃W,ws=W:=⟨_,rfl⟩
            have XW:=hjd (hWd▸X.out)
            have B17W:=hjd (hWd▸B17.out)
            have RB:=hjd (fun u (hu:Kept [] W u)=>(show u.cell? ⟨g11,1 * m,none⟩=some (.bool false)from by have h:=(XW.out.a0o hu).lr hmn.out;rw [hRm.out]at h;rw [Nat.one_mul];exact h))
            have SGF:=hjd (fun u (hu:Kept [] W u)=>(show u.rangeAt g17 1 (bv sg)from a4p (B17W.out.kept hu (by simp))))
            have JJ:=hjd (fun u (hu:Kept [] W u)=>RgJ.far B.out.j (by simp) B.out.j (XW.out.k.a0f hu))
            have HB3:=hjd (fun u (hu:Kept [] W u)=>a2b.a0o B.out.bo (XW.out.k.a0f hu))
            clear X B17
            refine Txt.a4e (by kernel_rfl) [Txt.isV (.slice (some ⟨g11,0,none⟩) (3 * k + 1) (3 * k + 1)),Txt.isV (.int .i64 (m:Int)),Txt.isV (.pointer (some ⟨g11,1 * m,none⟩)),Txt.isV (.bool false),Txt.isV (.bool true),Txt.isV (.bool true),Txt.isV (.pointer (some ⟨r,0,none⟩)),Txt.isV (.int .i64 (m:Int)),Txt.isV (ab (KY m)),Txt.isV (.slice BA body.length bc),Txt.isV (.pointer (some ⟨g17,1,none⟩)),Txt.isV (ab sg),Txt.isV (.bool (okm m sg))] (fun _ u=>Kept [] W u) (fun _=>[]) (by kernel_rfl) (by kernel_rfl) (by simp) (by kernel_rfl) (hWd▸(Kept.refl [] ws).drew) (fun _ _ _ _ h=>h) (fun _ _ _ _ _ h k=>h.a0f k) ⟨?_,?_,?_,?_,?_,?_,?_,?_,?_,?_,?_,?_,?_,trivial⟩ ?_
            ·refine a0k (.inl rfl) fun L ac u hL hS hr hoth=>?_
             have e0:ac.eval (.tmp 11)=(.slice (some ⟨g11,0,none⟩) (3 * k + 1) (3 * k + 1)):=(hoth 11 (by decide)).trans rfl
             exact a6q rfl e0
            ·refine a0k (.inl rfl) fun L ac u hL hS hr hoth=>?_
             have e0:ac.eval (.tmp 16)=(.int .i64 (m:Int)):=(hoth 16 (by decide)).trans rfl
             exact a6q rfl e0
            ·refine a0k (.inl rfl) fun L ac u hL hS hr hoth=>?_
             have e0:ac.eval (.tmp 86)=(.slice (some ⟨g11,0,none⟩) (3 * k + 1) (3 * k + 1)):=hr 0 _ 86 _ rfl rfl rfl ⟨⟨0,.data⟩,by simp,rfl,rfl⟩
             have e1:ac.eval (.tmp 87)=(.int .i64 (m:Int)):=hr 1 _ 87 _ rfl rfl rfl ⟨⟨1,.data⟩,by simp,rfl,rfl⟩
             exact a4h rfl e0 e1 (a4q a5z hmn.out _ _)
            ·refine a0k (.inl rfl) fun L ac u hL hS hr hoth=>?_
             have e0:ac.eval (.tmp 88)=(.pointer (some ⟨g11,1 * m,none⟩)):=hr 2 _ 88 _ rfl rfl rfl ⟨⟨2,.data⟩,by simp,rfl,rfl⟩
             exact a1s rfl (fun w=>by kernel_rfl) e0 (RB.out u hS)
            ·refine a0k (.inl rfl) fun L ac u hL hS hr hoth=>?_
             have e0:ac.eval (.tmp 89)=(.bool false):=hr 3 _ 89 _ rfl rfl rfl ⟨⟨3,.data⟩,by simp,rfl,rfl⟩
             exact b9w rfl e0
            ·refine a0k (.inl rfl) fun L ac u hL hS hr hoth=>?_
             have e0:ac.eval (.tmp 90)=(.bool true):=hr 4 _ 90 _ rfl rfl rfl ⟨⟨4,.data⟩,by simp,rfl,rfl⟩
             exact a6q rfl e0
            ·refine a0k (.inr ⟨5,true,rfl,rfl⟩) fun L ac u hL hS hr hoth=>?_
             have e0:ac.eval (.tmp 8)=(.pointer (some ⟨r,0,none⟩)):=(hoth 8 (by decide)).trans rfl
             exact a6q rfl e0
            ·refine a0k (.inr ⟨5,true,rfl,rfl⟩) fun L ac u hL hS hr hoth=>?_
             have e0:ac.eval (.tmp 16)=(.int .i64 (m:Int)):=(hoth 16 (by decide)).trans rfl
             exact a6q rfl e0
            ·refine a5s rfl (fun xs w=>enters_of (c:=_) Try.func22 (by kernel_rfl) rfl xs w) (.inr ⟨5,true,rfl,rfl⟩) (fun _ _ _ _ _ _ h _=>h) fun L ac u hL hS hr hoth=>?_
             have e0:ac.eval (.tmp 92)=(.pointer (some ⟨r,0,none⟩)):=hr 6 _ 92 _ rfl rfl rfl ⟨⟨6,.data⟩,by simp,rfl,rfl⟩
             have e1:ac.eval (.tmp 93)=(.int .i64 (m:Int)):=hr 7 _ 93 _ rfl rfl rfl ⟨⟨7,.data⟩,by simp,rfl,rfl⟩
             refine⟨#[(.pointer (some ⟨r,0,none⟩)),(.int .i64 (m:Int))],by simp only [List.map_toArray,List.map_cons,List.map_nil,e0,e1] <;> rfl,(ck.out _ _ _ _ (3 * k + 1) m (JJ.out u hS) hmn.out).mono ?_⟩
             rintro e u2 ⟨rfl,hk⟩
             exact⟨_,rfl,rfl,hk⟩
            ·refine a0k (.inr ⟨5,true,rfl,rfl⟩) fun L ac u hL hS hr hoth=>?_
             have e0:ac.eval (.tmp 1)=(.slice BA body.length bc):=(hoth 1 (by decide)).trans rfl
             exact a6q rfl e0
            ·refine a0k (.inr ⟨5,true,rfl,rfl⟩) fun L ac u hL hS hr hoth=>?_
             have e0:ac.eval (.tmp 17)=(.pointer (some ⟨g17,0,none⟩)):=(hoth 17 (by decide)).trans rfl
             exact b6d rfl e0 (by kernel_rfl)
            ·refine a0k (.inr ⟨5,true,rfl,rfl⟩) fun L ac u hL hS hr hoth=>?_
             have e0:ac.eval (.tmp 96)=(.pointer (some ⟨g17,1,none⟩)):=hr 10 _ 96 _ rfl rfl rfl ⟨⟨10,.data⟩,by simp,rfl,rfl⟩
             exact a2s Q.a8z (.tmp 96) rfl e0 (SGF.out u hS) (by simpa using hs64.out)
            ·refine a5s rfl (fun xs w=>enters_of (c:=_) Try.func16 (by kernel_rfl) rfl xs w) (.inr ⟨5,true,rfl,rfl⟩) (fun _ _ _ _ _ _ h _=>h) fun L ac u hL hS hr hoth=>?_
             have e0:ac.eval (.tmp 94)=(ab (KY m)):=hr 8 _ 94 _ rfl rfl rfl ⟨⟨8,.data⟩,by simp,rfl,rfl⟩
             have e1:ac.eval (.tmp 95)=(.slice BA body.length bc):=hr 9 _ 95 _ rfl rfl rfl ⟨⟨9,.data⟩,by simp,rfl,rfl⟩
             have e2:ac.eval (.tmp 97)=(ab sg):=hr 11 _ 97 _ rfl rfl rfl ⟨⟨11,.data⟩,by simp,rfl,rfl⟩
             refine⟨#[(ab (KY m)),(.int IntKind.u8 5),(.slice BA body.length bc),(ab sg)],by simp only [List.map_toArray,List.map_cons,List.map_nil,e0,e1,e2] <;> rfl,(cw.out m sg u _ hs64.out (HB3.out u hS)).mono ?_⟩
             rintro e u2 ⟨rfl,hk⟩
             exact⟨_,rfl,rfl,hk⟩
            intro v wc kc hv
            have y0:v 0=(.slice (some ⟨g11,0,none⟩) (3 * k + 1) (3 * k + 1)):=hv 0 _ rfl
            have y1:v 1=(.int .i64 (m:Int)):=hv 1 _ rfl
            have y2:v 2=(.pointer (some ⟨g11,1 * m,none⟩)):=hv 2 _ rfl
            have y3:v 3=(.bool false):=hv 3 _ rfl
            have y4:v 4=(.bool true):=hv 4 _ rfl
            have y5:v 5=(.bool true):=hv 5 _ rfl
            have y6:v 6=(.pointer (some ⟨r,0,none⟩)):=hv 6 _ rfl
            have y7:v 7=(.int .i64 (m:Int)):=hv 7 _ rfl
            have y8:v 8=(ab (KY m)):=hv 8 _ rfl
            have y9:v 9=(.slice BA body.length bc):=hv 9 _ rfl
            have y10:v 10=(.pointer (some ⟨g17,1,none⟩)):=hv 10 _ rfl
            have y11:v 11=(ab sg):=hv 11 _ rfl
            have y12:v 12=(.bool (okm m sg)):=hv 12 _ rfl
            clear hv
            simp [Txt.a1a,List.range,List.range.loop,Act.put,y0,y1,y2,y3,y4,y5,y6,y7,y8,y9,y10,y11,y12]
            clear y0 y1 y2 y3 y4 y5 y6 y7 y8 y9 y10 y11 y12
            unfold Txt.a4m
            refine a3l (v:=.bool (okm m sg)) rfl ?_
            unfold Txt.a4m
            simp [Act.put]
            have X:=hjd (XW.out.a0o kc)
            have B17:=hjd (B17W.out.kept kc (by simp))
            clear kc RB XW B17W hWd SGF JJ HB3
            cases hkm:okm m sg with
            | false=>
              have hML:=hjd (MS.out.leave (p:=((m:Int),sg)) hs64.out (fun h=>by have h4:=h.2.2.2;simp [hok.out _ _ _ hmn.out,hkm]at h4))
              replace hkm:=hjd hkm
              go_wp2_with (first
               | ((with_reducible refine a0e 111 ?_);refine a0d (cs:=(shC ((m:Int),sg)).toArray) (o:=⟨some 111,_,_,_,_,_⟩) a6u rfl (.tmp 17) rfl rfl B17.out (by rw [List.size_toArray];exact a0s hs64.out) ?_)
               | ((with_reducible refine a0e 112 ?_);(refine a1f (o:=⟨some 112,_,_,_,_,_⟩) (v0:=.agg (shC ((m:Int),sg)).toArray) (cells:=(shC ((m:Int),sg)).toArray) rfl a2c rfl rfl (by decide) rfl (by rw [List.size_toArray];exact a0s hs64.out) ?_);intro gl wl ml
                  have RL:=hjd (a6a ml.blk (a0s hs64.out))
                  replace X:=hjd (X.out.a0o ml.kept)
                  clear ml)
               | (at_builtin;refine a2h a2c rfl (.tmp 110) (.tmp 112) rfl rfl (xs:=sh.flatMap shC) (n:=sh.length) (m:=1) (news:=shC ((m:Int),sg)) X.out.s rfl RL.out (a2m _) (by have:=hsl19.out;omega) (by have:=hsl19.out;omega) ?_
                  intro xa wa oa ka ba
                  have X2:=hjd (X.out.b1l (p:=((m:Int),sg)) oa ka ba)
                  clear oa ka ba RL))
              go_roundg (ps.length - (i + 1))
              case measure=>omega
              case rel=>exact⟨i + 1,C,by omega,by omega,by go_num,rfl,hjd (by omega),hjd ⟨_,R,G,by rw [List.length_append,List.length_singleton,hsl.out],hML.out,X2.out⟩⟩
            | true=>
              have hML:=hjd (MS.out.take (m:=m) (sg:=sg) (by have:=hmn.out;have:=hks.out;omega) hRm2 (by rw [hok.out _ _ _ hmn.out];exact hkm) hs64.out)
              replace hkm:=hjd hkm
              clear hRm2
              go_wp2_with (first
               | ((with_reducible refine a0e 102 ?_);refine a0v (v:=.pointer (some ⟨g11,1 * m,none⟩)) (by kernel_rfl) (a4h rfl rfl rfl (a4q a5z hmn.out _ _)) ?_)
               | ((with_reducible refine a2w (.tmp 102) (.const (.bool true)) ?_);refine a6f (o':=⟨none,Op.store 4 (.tmp 102) (.const (.bool true)),_,_,_,_⟩) (by kernel_rfl) (.tmp 102) (.const (.bool true)) rfl (b:=g11) (off:=1 * m) rfl (v:=.bool true) rfl rfl (by kernel_rfl) X.out.r (by rw [List.size_toArray,a6h (k:=1) (fun _=>rfl)];have:=hmn.out;omega) ?_
                  intro wr1 b11 k11
                  rw [a9t hmn.out]at b11
                  replace B17:=hjd (B17.out.kept k11 (by simpa using F17.out.a.symm))
                  replace X:=hjd (X.out.setR b11 k11)
                  clear b11 k11)
               | ((with_reducible refine a0e 108 ?_);refine a0z (o:=⟨some 108,_,_,_,_,_⟩) (cs:=bv sg) Q.a8z (by kernel_rfl) (.tmp 107) rfl rfl (a4p B17.out) (by simpa using hs64.out) ?_)
               | ((with_reducible refine a0e 109 ?_);refine a0v (v:=.pointer (some ⟨g12,64 * m,none⟩)) (by kernel_rfl) (a4h rfl rfl rfl (a4q b1t hmn.out _ _)) ?_)
               | ((with_reducible refine a2w (.tmp 109) (.tmp 108) ?_);refine a4r (o:=⟨none,Op.store 24 (.tmp 109) (.tmp 108),_,_,_,_⟩) (q:=bv sg) Q.a8z (by kernel_rfl) (.tmp 109) (.tmp 108) rfl rfl rfl X.out.g (b2d MS.out.gl) hmn.out (by simpa using hs64.out) (a2v _) ?_
                  intro wr2 b12 k12
                  replace B17:=hjd (B17.out.kept k12 (by simpa using F17.out.b.symm))
                  replace X:=hjd (X.out.setG b12 k12)
                  clear b12 k12)
               | ((with_reducible refine a0e 111 ?_);refine a0d (cs:=(shC ((m:Int),sg)).toArray) (o:=⟨some 111,_,_,_,_,_⟩) a6u rfl (.tmp 17) rfl rfl B17.out (by rw [List.size_toArray];exact a0s hs64.out) ?_)
               | ((with_reducible refine a0e 112 ?_);(refine a1f (o:=⟨some 112,_,_,_,_,_⟩) (v0:=.agg (shC ((m:Int),sg)).toArray) (cells:=(shC ((m:Int),sg)).toArray) rfl a2c rfl rfl (by decide) rfl (by rw [List.size_toArray];exact a0s hs64.out) ?_);intro gl wl ml
                  have RL:=hjd (a6a ml.blk (a0s hs64.out))
                  replace X:=hjd (X.out.a0o ml.kept)
                  clear ml)
               | (at_builtin;refine a2h a2c rfl (.tmp 110) (.tmp 112) rfl rfl (xs:=sh.flatMap shC) (n:=sh.length) (m:=1) (news:=shC ((m:Int),sg)) X.out.s rfl RL.out (a2m _) (by have:=hsl19.out;omega) (by have:=hsl19.out;omega) ?_
                  intro xa wa oa ka ba
                  have X2:=hjd (X.out.b1l (p:=((m:Int),sg)) oa ka ba)
                  clear oa ka ba RL))
              go_roundg (ps.length - (i + 1))
              case measure=>omega
              case rel=>exact⟨i + 1,C + 1,by omega,by omega,by go_num,by have hc:C≤7:=hC7.out;show Value.int _ _=Value.int _ _;rw [IntWalk.wrap64_in _ (by omega)];rfl,hjd (by omega),hjd ⟨_,_,_,by rw [List.length_append,List.length_singleton,hsl.out],hML.out,X2.out⟩⟩
        | false=>
          have hmi:(m:Int) < 3 * (k:Int) + 1:=by omega
          clear hmn'
          go_upto_region 19 with(first
           | ((with_reducible refine a0e 69 ?_);refine a0v (v:=.bool true) (by kernel_rfl) (a1s rfl (fun w=>by kernel_rfl) rfl (B15.out.cell 2)) ?_))
          obtain⟨sg0,hsg0⟩:∃sg,SL m 4=sg:=⟨_,rfl⟩
          have hs0:=hjd (show sg0.length=64 from hsg0▸hSL.out m 4)
          have hse:=hjd hsg0
          clear hsg0
          go_upto_region 20 with(first
           | ((with_reducible refine a0e 72 ?_);refine a0v (v:=.pointer (some ⟨sb,so + m * 32,none⟩)) (by kernel_rfl) (a4h rfl rfl rfl (a5o (P:=Try.prog) (g:=sb) (off:=so) (c:=sc) (i:=m) a7r hmn.out _ _)) ?_)
           | ((with_reducible refine a0e 73 ?_);refine a0z (o:=⟨some 73,_,_,_,_,_⟩) (cs:=bv (a4f m)) a2k.row (by kernel_rfl) (.tmp 72) rfl rfl (b1k B.out.sd X.out.k hmn.out) (by simpa using a4a m) ?_)
           | (go_at_call 17;(with_reducible refine(cs4.out m _ _ (a2b.a0o B.out.bo X.out.k)).mono ?_);rintro e vs ⟨rfl,kk⟩
              rw [hse.out]
              replace X:=hjd (X.out.a0o kk)
              replace B15:=hjd (B15.out.kept kk (by simp))
              replace B17:=hjd (B17.out.kept kk (by simp))
              clear kk)
           | ((with_reducible refine a2w (.tmp 77) (.tmp 76) ?_);refine a9h (o:=⟨none,Op.store 24 (.tmp 77) (.tmp 76),_,_,_,_⟩) Q.a8z rfl (.tmp 77) (.tmp 76) rfl rfl (pre:=[.int .i64 (m:Int)]) (mid:=bv (a0q 64)) (post:=[]) rfl (by rw [List.append_nil];exact B17.out) rfl (by simp [a0q]) (by simpa using hs0.out) (a2v _) ?_
              intro ws b17 k17
              replace B17:=hjd (show Blk ws g17 60 (shC ((m:Int),sg0)).toArray from by rw [List.append_nil]at b17;exact b17)
              replace X:=hjd (X.out.write F17.out k17)
              replace B15:=hjd (B15.out.kept k17 (by simpa using N15.out))
              clear b17 k17))
          go_upto_region 22 with(first
           | ((with_reducible refine a0e 79 ?_);refine a0v (v:=.bool false) (by kernel_rfl) (a1s rfl (fun w=>by kernel_rfl) rfl (B15.out.cell 1)) ?_))
          obtain⟨sg,hsg⟩:∃sg,sg0=sg:=⟨_,rfl⟩
          have hs64:=hjd (show sg.length=64 from by rw [←hsg];exact hs0.out)
          rw [hsg]at B17
          clear hsg
          clear B15 N15 hse hs0
          cases hRm:R m with
          | true=>
            have hML:=hjd (MS.out.leave (p:=((m:Int),sg)) hs64.out (fun h=>by have h3:=h.2.2.1;simp [hRm]at h3))
            replace hRm:=hjd hRm
            obtain⟨W,hWd⟩:∃W,ws=W:=⟨_,rfl⟩
            have XW:=hjd (hWd▸X.out)
            have B17W:=hjd (hWd▸B17.out)
            have RB:=hjd (fun u (hu:Kept [] W u)=>(show u.cell? ⟨g11,1 * m,none⟩=some (.bool true)from by have h:=(XW.out.a0o hu).lr hmn.out;rw [hRm.out]at h;rw [Nat.one_mul];exact h))
            clear X B17
            refine Txt.a4e (by kernel_rfl) [Txt.isV (.slice (some ⟨g11,0,none⟩) (3 * k + 1) (3 * k + 1)),Txt.isV (.int .i64 (m:Int)),Txt.isV (.pointer (some ⟨g11,1 * m,none⟩)),Txt.isV (.bool true),Txt.isV (.bool false),Txt.isV (.bool false),Txt.isV undef,Txt.isV undef,Txt.isV undef,Txt.isV undef,Txt.isV undef,Txt.isV undef,Txt.isV undef] (fun _ u=>Kept [] W u) (fun _=>[]) (by kernel_rfl) (by kernel_rfl) (by simp) (by kernel_rfl) (hWd▸(Kept.refl [] ws).drew) (fun _ _ _ _ h=>h) (fun _ _ _ _ _ h k=>h.a0f k) ⟨?_,?_,?_,?_,?_,?_,?_,?_,?_,?_,?_,?_,?_,trivial⟩ ?_
            ·refine a0k (.inl rfl) fun L ac u hL hS hr hoth=>?_
             have e0:ac.eval (.tmp 11)=(.slice (some ⟨g11,0,none⟩) (3 * k + 1) (3 * k + 1)):=(hoth 11 (by decide)).trans rfl
             exact a6q rfl e0
            ·refine a0k (.inl rfl) fun L ac u hL hS hr hoth=>?_
             have e0:ac.eval (.tmp 16)=(.int .i64 (m:Int)):=(hoth 16 (by decide)).trans rfl
             exact a6q rfl e0
            ·refine a0k (.inl rfl) fun L ac u hL hS hr hoth=>?_
             have e0:ac.eval (.tmp 86)=(.slice (some ⟨g11,0,none⟩) (3 * k + 1) (3 * k + 1)):=hr 0 _ 86 _ rfl rfl rfl ⟨⟨0,.data⟩,by simp,rfl,rfl⟩
             have e1:ac.eval (.tmp 87)=(.int .i64 (m:Int)):=hr 1 _ 87 _ rfl rfl rfl ⟨⟨1,.data⟩,by simp,rfl,rfl⟩
             exact a4h rfl e0 e1 (a4q a5z hmn.out _ _)
            ·refine a0k (.inl rfl) fun L ac u hL hS hr hoth=>?_
             have e0:ac.eval (.tmp 88)=(.pointer (some ⟨g11,1 * m,none⟩)):=hr 2 _ 88 _ rfl rfl rfl ⟨⟨2,.data⟩,by simp,rfl,rfl⟩
             exact a1s rfl (fun w=>by kernel_rfl) e0 (RB.out u hS)
            ·refine a0k (.inl rfl) fun L ac u hL hS hr hoth=>?_
             have e0:ac.eval (.tmp 89)=(.bool true):=hr 3 _ 89 _ rfl rfl rfl ⟨⟨3,.data⟩,by simp,rfl,rfl⟩
             exact b9w rfl e0
            ·refine a0k (.inl rfl) fun L ac u hL hS hr hoth=>?_
             have e0:ac.eval (.tmp 90)=(.bool false):=hr 4 _ 90 _ rfl rfl rfl ⟨⟨4,.data⟩,by simp,rfl,rfl⟩
             exact a6q rfl e0
            ·exact a2e (k:=5) (b:=true) rfl rfl (fun _=>rfl) (fun _ _ _ _ _ _ h _=>h)
            ·exact a2e (k:=5) (b:=true) rfl rfl (fun _=>rfl) (fun _ _ _ _ _ _ h _=>h)
            ·exact a2e (k:=5) (b:=true) rfl rfl (fun _=>rfl) (fun _ _ _ _ _ _ h _=>h)
            ·exact a2e (k:=5) (b:=true) rfl rfl (fun _=>rfl) (fun _ _ _ _ _ _ h _=>h)
            ·exact a2e (k:=5) (b:=true) rfl rfl (fun _=>rfl) (fun _ _ _ _ _ _ h _=>h)
            ·exact a2e (k:=5) (b:=true) rfl rfl (fun _=>rfl) (fun _ _ _ _ _ _ h _=>h)
            ·exact a2e (k:=5) (b:=true) rfl rfl (fun _=>rfl) (fun _ _ _ _ _ _ h _=>h)
            intro v wc kc hv
            have y0:v 0=(.slice (some ⟨g11,0,none⟩) (3 * k + 1) (3 * k + 1)):=hv 0 _ rfl
            have y1:v 1=(.int .i64 (m:Int)):=hv 1 _ rfl
            have y2:v 2=(.pointer (some ⟨g11,1 * m,none⟩)):=hv 2 _ rfl
            have y3:v 3=(.bool true):=hv 3 _ rfl
            have y4:v 4=(.bool false):=hv 4 _ rfl
            have y5:v 5=(.bool false):=hv 5 _ rfl
            have y6:v 6=undef:=hv 6 _ rfl
            have y7:v 7=undef:=hv 7 _ rfl
            have y8:v 8=undef:=hv 8 _ rfl
            have y9:v 9=undef:=hv 9 _ rfl
            have y10:v 10=undef:=hv 10 _ rfl
            have y11:v 11=undef:=hv 11 _ rfl
            have y12:v 12=undef:=hv 12 _ rfl
            clear hv
            simp [Txt.a1a,List.range,List.range.loop,Act.put,y0,y1,y2,y3,y4,y5,y6,y7,y8,y9,y10,y11,y12]
            clear y0 y1 y2 y3 y4 y5 y6 y7 y8 y9 y10 y11 y12
            unfold Txt.a4m
            refine a3l (v:=.bool false) rfl ?_
            unfold Txt.a4m
            simp [Act.put]
            have X:=hjd (XW.out.a0o kc)
            have B17:=hjd (B17W.out.kept kc (by simp))
            clear kc RB XW B17W hWd
            go_wp2_with (first
             | ((with_reducible refine a0e 111 ?_);refine a0d (cs:=(shC ((m:Int),sg)).toArray) (o:=⟨some 111,_,_,_,_,_⟩) a6u rfl (.tmp 17) rfl rfl B17.out (by rw [List.size_toArray];exact a0s hs64.out) ?_)
             | ((with_reducible refine a0e 112 ?_);(refine a1f (o:=⟨some 112,_,_,_,_,_⟩) (v0:=.agg (shC ((m:Int),sg)).toArray) (cells:=(shC ((m:Int),sg)).toArray) rfl a2c rfl rfl (by decide) rfl (by rw [List.size_toArray];exact a0s hs64.out) ?_);intro gl wl ml
                have RL:=hjd (a6a ml.blk (a0s hs64.out))
                replace X:=hjd (X.out.a0o ml.kept)
                clear ml)
             | (at_builtin;refine a2h a2c rfl (.tmp 110) (.tmp 112) rfl rfl (xs:=sh.flatMap shC) (n:=sh.length) (m:=1) (news:=shC ((m:Int),sg)) X.out.s rfl RL.out (a2m _) (by have:=hsl19.out;omega) (by have:=hsl19.out;omega) ?_
                intro xa wa oa ka ba
                have X2:=hjd (X.out.b1l (p:=((m:Int),sg)) oa ka ba)
                clear oa ka ba RL))
            go_roundg (ps.length - (i + 1))
            case measure=>omega
            case rel=>exact⟨i + 1,C,by omega,by omega,by go_num,rfl,hjd (by omega),hjd ⟨_,R,G,by rw [List.length_append,List.length_singleton,hsl.out],hML.out,X2.out⟩⟩
          | false=>
            have hRm2:=hRm
            replace hRm:=hjd hRm
            obtain⟨W,hWd⟩:∃W,ws=W:=⟨_,rfl⟩
            have XW:=hjd (hWd▸X.out)
            have B17W:=hjd (hWd▸B17.out)
            have RB:=hjd (fun u (hu:Kept [] W u)=>(show u.cell? ⟨g11,1 * m,none⟩=some (.bool false)from by have h:=(XW.out.a0o hu).lr hmn.out;rw [hRm.out]at h;rw [Nat.one_mul];exact h))
            have SGF:=hjd (fun u (hu:Kept [] W u)=>(show u.rangeAt g17 1 (bv sg)from a4p (B17W.out.kept hu (by simp))))
            have JJ:=hjd (fun u (hu:Kept [] W u)=>RgJ.far B.out.j (by simp) B.out.j (XW.out.k.a0f hu))
            have HB3:=hjd (fun u (hu:Kept [] W u)=>a2b.a0o B.out.bo (XW.out.k.a0f hu))
            clear X B17
            refine Txt.a4e (by kernel_rfl) [Txt.isV (.slice (some ⟨g11,0,none⟩) (3 * k + 1) (3 * k + 1)),Txt.isV (.int .i64 (m:Int)),Txt.isV (.pointer (some ⟨g11,1 * m,none⟩)),Txt.isV (.bool false),Txt.isV (.bool true),Txt.isV (.bool true),Txt.isV (.pointer (some ⟨r,0,none⟩)),Txt.isV (.int .i64 (m:Int)),Txt.isV (ab (KY m)),Txt.isV (.slice BA body.length bc),Txt.isV (.pointer (some ⟨g17,1,none⟩)),Txt.isV (ab sg),Txt.isV (.bool (okm m sg))] (fun _ u=>Kept [] W u) (fun _=>[]) (by kernel_rfl) (by kernel_rfl) (by simp) (by kernel_rfl) (hWd▸(Kept.refl [] ws).drew) (fun _ _ _ _ h=>h) (fun _ _ _ _ _ h k=>h.a0f k) ⟨?_,?_,?_,?_,?_,?_,?_,?_,?_,?_,?_,?_,?_,trivial⟩ ?_
            ·refine a0k (.inl rfl) fun L ac u hL hS hr hoth=>?_
             have e0:ac.eval (.tmp 11)=(.slice (some ⟨g11,0,none⟩) (3 * k + 1) (3 * k + 1)):=(hoth 11 (by decide)).trans rfl
             exact a6q rfl e0
            ·refine a0k (.inl rfl) fun L ac u hL hS hr hoth=>?_
             have e0:ac.eval (.tmp 16)=(.int .i64 (m:Int)):=(hoth 16 (by decide)).trans rfl
             exact a6q rfl e0
            ·refine a0k (.inl rfl) fun L ac u hL hS hr hoth=>?_
             have e0:ac.eval (.tmp 86)=(.slice (some ⟨g11,0,none⟩) (3 * k + 1) (3 * k + 1)):=hr 0 _ 86 _ rfl rfl rfl ⟨⟨0,.data⟩,by simp,rfl,rfl⟩
             have e1:ac.eval (.tmp 87)=(.int .i64 (m:Int)):=hr 1 _ 87 _ rfl rfl rfl ⟨⟨1,.data⟩,by simp,rfl,rfl⟩
             exact a4h rfl e0 e1 (a4q a5z hmn.out _ _)
            ·refine a0k (.inl rfl) fun L ac u hL hS hr hoth=>?_
             have e0:ac.eval (.tmp 88)=(.pointer (some ⟨g11,1 * m,none⟩)):=hr 2 _ 88 _ rfl rfl rfl ⟨⟨2,.data⟩,by simp,rfl,rfl⟩
             exact a1s rfl (fun w=>by kernel_rfl) e0 (RB.out u hS)
            ·refine a0k (.inl rfl) fun L ac u hL hS hr hoth=>?_
             have e0:ac.eval (.tmp 89)=(.bool false):=hr 3 _ 89 _ rfl rfl rfl ⟨⟨3,.data⟩,by simp,rfl,rfl⟩
             exact b9w rfl e0
            ·refine a0k (.inl rfl) fun L ac u hL hS hr hoth=>?_
             have e0:ac.eval (.tmp 90)=(.bool true):=hr 4 _ 90 _ rfl rfl rfl ⟨⟨4,.data⟩,by simp,rfl,rfl⟩
             exact a6q rfl e0
            ·refine a0k (.inr ⟨5,true,rfl,rfl⟩) fun L ac u hL hS hr hoth=>?_
             have e0:ac.eval (.tmp 8)=(.pointer (some ⟨r,0,none⟩)):=(hoth 8 (by decide)).trans rfl
             exact a6q rfl e0
            ·refine a0k (.inr ⟨5,true,rfl,rfl⟩) fun L ac u hL hS hr hoth=>?_
             have e0:ac.eval (.tmp 16)=(.int .i64 (m:Int)):=(hoth 16 (by decide)).trans rfl
             exact a6q rfl e0
            ·refine a5s rfl (fun xs w=>enters_of (c:=_) Try.func22 (by kernel_rfl) rfl xs w) (.inr ⟨5,true,rfl,rfl⟩) (fun _ _ _ _ _ _ h _=>h) fun L ac u hL hS hr hoth=>?_
             have e0:ac.eval (.tmp 92)=(.pointer (some ⟨r,0,none⟩)):=hr 6 _ 92 _ rfl rfl rfl ⟨⟨6,.data⟩,by simp,rfl,rfl⟩
             have e1:ac.eval (.tmp 93)=(.int .i64 (m:Int)):=hr 7 _ 93 _ rfl rfl rfl ⟨⟨7,.data⟩,by simp,rfl,rfl⟩
             refine⟨#[(.pointer (some ⟨r,0,none⟩)),(.int .i64 (m:Int))],by simp only [List.map_toArray,List.map_cons,List.map_nil,e0,e1] <;> rfl,(ck.out _ _ _ _ (3 * k + 1) m (JJ.out u hS) hmn.out).mono ?_⟩
             rintro e u2 ⟨rfl,hk⟩
             exact⟨_,rfl,rfl,hk⟩
            ·refine a0k (.inr ⟨5,true,rfl,rfl⟩) fun L ac u hL hS hr hoth=>?_
             have e0:ac.eval (.tmp 1)=(.slice BA body.length bc):=(hoth 1 (by decide)).trans rfl
             exact a6q rfl e0
            ·refine a0k (.inr ⟨5,true,rfl,rfl⟩) fun L ac u hL hS hr hoth=>?_
             have e0:ac.eval (.tmp 17)=(.pointer (some ⟨g17,0,none⟩)):=(hoth 17 (by decide)).trans rfl
             exact b6d rfl e0 (by kernel_rfl)
            ·refine a0k (.inr ⟨5,true,rfl,rfl⟩) fun L ac u hL hS hr hoth=>?_
             have e0:ac.eval (.tmp 96)=(.pointer (some ⟨g17,1,none⟩)):=hr 10 _ 96 _ rfl rfl rfl ⟨⟨10,.data⟩,by simp,rfl,rfl⟩
             exact a2s Q.a8z (.tmp 96) rfl e0 (SGF.out u hS) (by simpa using hs64.out)
            ·refine a5s rfl (fun xs w=>enters_of (c:=_) Try.func16 (by kernel_rfl) rfl xs w) (.inr ⟨5,true,rfl,rfl⟩) (fun _ _ _ _ _ _ h _=>h) fun L ac u hL hS hr hoth=>?_
             have e0:ac.eval (.tmp 94)=(ab (KY m)):=hr 8 _ 94 _ rfl rfl rfl ⟨⟨8,.data⟩,by simp,rfl,rfl⟩
             have e1:ac.eval (.tmp 95)=(.slice BA body.length bc):=hr 9 _ 95 _ rfl rfl rfl ⟨⟨9,.data⟩,by simp,rfl,rfl⟩
             have e2:ac.eval (.tmp 97)=(ab sg):=hr 11 _ 97 _ rfl rfl rfl ⟨⟨11,.data⟩,by simp,rfl,rfl⟩
             refine⟨#[(ab (KY m)),(.int IntKind.u8 5),(.slice BA body.length bc),(ab sg)],by simp only [List.map_toArray,List.map_cons,List.map_nil,e0,e1,e2] <;> rfl,(cw.out m sg u _ hs64.out (HB3.out u hS)).mono ?_⟩
             rintro e u2 ⟨rfl,hk⟩
             exact⟨_,rfl,rfl,hk⟩
            intro v wc kc hv
            have y0:v 0=(.slice (some ⟨g11,0,none⟩) (3 * k + 1) (3 * k + 1)):=hv 0 _ rfl
            have y1:v 1=(.int .i64 (m:Int)):=hv 1 _ rfl
            have y2:v 2=(.pointer (some ⟨g11,1 * m,none⟩)):=hv 2 _ rfl
            have y3:v 3=(.bool false):=hv 3 _ rfl
            have y4:v 4=(.bool true):=hv 4 _ rfl
            have y5:v 5=(.bool true):=hv 5 _ rfl
            have y6:v 6=(.pointer (some ⟨r,0,none⟩)):=hv 6 _ rfl
            have y7:v 7=(.int .i64 (m:Int)):=hv 7 _ rfl
            have y8:v 8=(ab (KY m)):=hv 8 _ rfl
            have y9:v 9=(.slice BA body.length bc):=hv 9 _ rfl
            have y10:v 10=(.pointer (some ⟨g17,1,none⟩)):=hv 10 _ rfl
            have y11:v 11=(ab sg):=hv 11 _ rfl
            have y12:v 12=(.bool (okm m sg)):=hv 12 _ rfl
            clear hv
            simp [Txt.a1a,List.range,List.range.loop,Act.put,y0,y1,y2,y3,y4,y5,y6,y7,y8,y9,y10,y11,y12]
            clear y0 y1 y2 y3 y4 y5 y6 y7 y8 y9 y10 y11 y12
            unfold Txt.a4m
            refine a3l (v:=.bool (okm m sg)) rfl ?_
            unfold Txt.a4m
            simp [Act.put]
            have X:=hjd (XW.out.a0o kc)
            have B17:=hjd (B17W.out.kept kc (by simp))
            clear kc RB XW B17W hWd SGF JJ HB3
            cases hkm:okm m sg with
            | false=>
              have hML:=hjd (MS.out.leave (p:=((m:Int),sg)) hs64.out (fun h=>by have h4:=h.2.2.2;simp [hok.out _ _ _ hmn.out,hkm]at h4))
              replace hkm:=hjd hkm
              go_wp2_with (first
               | ((with_reducible refine a0e 111 ?_);refine a0d (cs:=(shC ((m:Int),sg)).toArray) (o:=⟨some 111,_,_,_,_,_⟩) a6u rfl (.tmp 17) rfl rfl B17.out (by rw [List.size_toArray];exact a0s hs64.out) ?_)
               | ((with_reducible refine a0e 112 ?_);(refine a1f (o:=⟨some 112,_,_,_,_,_⟩) (v0:=.agg (shC ((m:Int),sg)).toArray) (cells:=(shC ((m:Int),sg)).toArray) rfl a2c rfl rfl (by decide) rfl (by rw [List.size_toArray];exact a0s hs64.out) ?_);intro gl wl ml
                  have RL:=hjd (a6a ml.blk (a0s hs64.out))
                  replace X:=hjd (X.out.a0o ml.kept)
                  clear ml)
               | (at_builtin;refine a2h a2c rfl (.tmp 110) (.tmp 112) rfl rfl (xs:=sh.flatMap shC) (n:=sh.length) (m:=1) (news:=shC ((m:Int),sg)) X.out.s rfl RL.out (a2m _) (by have:=hsl19.out;omega) (by have:=hsl19.out;omega) ?_
                  intro xa wa oa ka ba
                  have X2:=hjd (X.out.b1l (p:=((m:Int),sg)) oa ka ba)
                  clear oa ka ba RL))
              go_roundg (ps.length - (i + 1))
              case measure=>omega
              case rel=>exact⟨i + 1,C,by omega,by omega,by go_num,rfl,hjd (by omega),hjd ⟨_,R,G,by rw [List.length_append,List.length_singleton,hsl.out],hML.out,X2.out⟩⟩
            | true=>
              have hML:=hjd (MS.out.take (m:=m) (sg:=sg) (by have:=hmn.out;have:=hks.out;omega) hRm2 (by rw [hok.out _ _ _ hmn.out];exact hkm) hs64.out)
              replace hkm:=hjd hkm
              clear hRm2
              go_wp2_with (first
               | ((with_reducible refine a0e 102 ?_);refine a0v (v:=.pointer (some ⟨g11,1 * m,none⟩)) (by kernel_rfl) (a4h rfl rfl rfl (a4q a5z hmn.out _ _)) ?_)
               | ((with_reducible refine a2w (.tmp 102) (.const (.bool true)) ?_);refine a6f (o':=⟨none,Op.store 4 (.tmp 102) (.const (.bool true)),_,_,_,_⟩) (by kernel_rfl) (.tmp 102) (.const (.bool true)) rfl (b:=g11) (off:=1 * m) rfl (v:=.bool true) rfl rfl (by kernel_rfl) X.out.r (by rw [List.size_toArray,a6h (k:=1) (fun _=>rfl)];have:=hmn.out;omega) ?_
                  intro wr1 b11 k11
                  rw [a9t hmn.out]at b11
                  replace B17:=hjd (B17.out.kept k11 (by simpa using F17.out.a.symm))
                  replace X:=hjd (X.out.setR b11 k11)
                  clear b11 k11)
               | ((with_reducible refine a0e 108 ?_);refine a0z (o:=⟨some 108,_,_,_,_,_⟩) (cs:=bv sg) Q.a8z (by kernel_rfl) (.tmp 107) rfl rfl (a4p B17.out) (by simpa using hs64.out) ?_)
               | ((with_reducible refine a0e 109 ?_);refine a0v (v:=.pointer (some ⟨g12,64 * m,none⟩)) (by kernel_rfl) (a4h rfl rfl rfl (a4q b1t hmn.out _ _)) ?_)
               | ((with_reducible refine a2w (.tmp 109) (.tmp 108) ?_);refine a4r (o:=⟨none,Op.store 24 (.tmp 109) (.tmp 108),_,_,_,_⟩) (q:=bv sg) Q.a8z (by kernel_rfl) (.tmp 109) (.tmp 108) rfl rfl rfl X.out.g (b2d MS.out.gl) hmn.out (by simpa using hs64.out) (a2v _) ?_
                  intro wr2 b12 k12
                  replace B17:=hjd (B17.out.kept k12 (by simpa using F17.out.b.symm))
                  replace X:=hjd (X.out.setG b12 k12)
                  clear b12 k12)
               | ((with_reducible refine a0e 111 ?_);refine a0d (cs:=(shC ((m:Int),sg)).toArray) (o:=⟨some 111,_,_,_,_,_⟩) a6u rfl (.tmp 17) rfl rfl B17.out (by rw [List.size_toArray];exact a0s hs64.out) ?_)
               | ((with_reducible refine a0e 112 ?_);(refine a1f (o:=⟨some 112,_,_,_,_,_⟩) (v0:=.agg (shC ((m:Int),sg)).toArray) (cells:=(shC ((m:Int),sg)).toArray) rfl a2c rfl rfl (by decide) rfl (by rw [List.size_toArray];exact a0s hs64.out) ?_);intro gl wl ml
                  have RL:=hjd (a6a ml.blk (a0s hs64.out))
                  replace X:=hjd (X.out.a0o ml.kept)
                  clear ml)
               | (at_builtin;refine a2h a2c rfl (.tmp 110) (.tmp 112) rfl rfl (xs:=sh.flatMap shC) (n:=sh.length) (m:=1) (news:=shC ((m:Int),sg)) X.out.s rfl RL.out (a2m _) (by have:=hsl19.out;omega) (by have:=hsl19.out;omega) ?_
                  intro xa wa oa ka ba
                  have X2:=hjd (X.out.b1l (p:=((m:Int),sg)) oa ka ba)
                  clear oa ka ba RL))
              go_roundg (ps.length - (i + 1))
              case measure=>omega
              case rel=>exact⟨i + 1,C + 1,by omega,by omega,by go_num,by have hc:C≤7:=hC7.out;show Value.int _ _=Value.int _ _;rw [IntWalk.wrap64_in _ (by omega)];rfl,hjd (by omega),hjd ⟨_,_,_,by rw [List.length_append,List.length_singleton,hsl.out],hML.out,X2.out⟩⟩
      | false=>
        cases wr0 with
        | true=>
          have hmi:(m:Int) < 3 * (k:Int) + 1:=by omega
          clear hmn'
          go_upto_region 19 with(first
           | ((with_reducible refine a0e 69 ?_);refine a0v (v:=.bool false) (by kernel_rfl) (a1s rfl (fun w=>by kernel_rfl) rfl (B15.out.cell 2)) ?_))
          obtain⟨sg0,hsg0⟩:∃sg,SL m 5=sg:=⟨_,rfl⟩
          have hs0:=hjd (show sg0.length=64 from hsg0▸hSL.out m 5)
          have hse:=hjd hsg0
          clear hsg0
          go_upto_region 20 with(first
           | ((with_reducible refine a0e 72 ?_);refine a0v (v:=.pointer (some ⟨sb,so + m * 32,none⟩)) (by kernel_rfl) (a4h rfl rfl rfl (a5o (P:=Try.prog) (g:=sb) (off:=so) (c:=sc) (i:=m) a7r hmn.out _ _)) ?_)
           | ((with_reducible refine a0e 73 ?_);refine a0z (o:=⟨some 73,_,_,_,_,_⟩) (cs:=bv (a4f m)) a2k.row (by kernel_rfl) (.tmp 72) rfl rfl (b1k B.out.sd X.out.k hmn.out) (by simpa using a4a m) ?_)
           | (go_at_call 17;(with_reducible refine(cs5.out m _ _ (a2b.a0o B.out.bo X.out.k)).mono ?_);rintro e vs ⟨rfl,kk⟩
              rw [hse.out]
              replace X:=hjd (X.out.a0o kk)
              replace B15:=hjd (B15.out.kept kk (by simp))
              replace B17:=hjd (B17.out.kept kk (by simp))
              clear kk)
           | ((with_reducible refine a2w (.tmp 77) (.tmp 76) ?_);refine a9h (o:=⟨none,Op.store 24 (.tmp 77) (.tmp 76),_,_,_,_⟩) Q.a8z rfl (.tmp 77) (.tmp 76) rfl rfl (pre:=[.int .i64 (m:Int)]) (mid:=bv (a0q 64)) (post:=[]) rfl (by rw [List.append_nil];exact B17.out) rfl (by simp [a0q]) (by simpa using hs0.out) (a2v _) ?_
              intro ws b17 k17
              replace B17:=hjd (show Blk ws g17 60 (shC ((m:Int),sg0)).toArray from by rw [List.append_nil]at b17;exact b17)
              replace X:=hjd (X.out.write F17.out k17)
              replace B15:=hjd (B15.out.kept k17 (by simpa using N15.out))
              clear b17 k17))
          obtain⟨y,hy⟩:∃y,sg0[5]?=some y:=⟨_,List.getElem?_eq_getElem (by have:=hs0.out;omega)⟩
          have qy:=hjd (show ws.cell? ⟨g17,6,none⟩=some (.int .u8 (y.toNat:Int))from by rw [B17.out.cell];simp [shC,bv,hy,a2r])
          have x0:=d1n y
          replace hy:=hjd hy
          go_upto_region 22 with(first
           | ((with_reducible refine a0e 79 ?_);refine a0v (v:=.bool true) (by kernel_rfl) (a1s rfl (fun w=>by kernel_rfl) rfl (B15.out.cell 1)) ?_)
           | ((with_reducible refine a0e 81 ?_);refine a0v (v:=.pointer (some ⟨g17,1 + 5,none⟩)) (by kernel_rfl) (a4h rfl rfl rfl (d8q (i:=5) (by omega) _ _)) ?_)
           | ((with_reducible refine a0e 82 ?_);refine a0v (v:=.int .u8 (y.toNat:Int)) (by kernel_rfl) (a1s rfl (fun w=>by kernel_rfl) rfl qy.out) ?_)
           | ((with_reducible refine a0e 85 ?_);refine a0v (v:=.pointer (some ⟨g17,1 + 5,none⟩)) (by kernel_rfl) (a4h rfl rfl rfl (d8q (i:=5) (by omega) _ _)) ?_)
           | ((with_reducible refine a2w (.tmp 85) (.tmp 83) ?_);refine a6f (o':=⟨none,Op.store 5 (.tmp 85) (.tmp 83),_,_,_,_⟩) (by kernel_rfl) (.tmp 85) (.tmp 83) rfl (b:=g17) (off:=6) rfl (v:=a2r (y ^^^ 1)) rfl rfl (by kernel_rfl) B17.out (by rw [List.size_toArray,a0s hs0.out];omega) ?_
              intro ws b17 k17
              replace B17:=hjd (show Blk ws g17 60 (shC ((m:Int),sg0.set 5 (y ^^^ 1))).toArray from by rw [←c0u B17.out];exact b17)
              replace X:=hjd (X.out.write F17.out k17)
              replace B15:=hjd (B15.out.kept k17 (by simpa using N15.out))
              clear b17 k17 qy))
          obtain⟨sg,hsg⟩:∃sg,sg0.set 5 (y ^^^ 1)=sg:=⟨_,rfl⟩
          have hs64:=hjd (show sg.length=64 from by rw [←hsg,List.length_set];exact hs0.out)
          rw [hsg]at B17
          clear hsg hy x0
          clear B15 N15 hse hs0
          cases hRm:R m with
          | true=>
            have hML:=hjd (MS.out.leave (p:=((m:Int),sg)) hs64.out (fun h=>by have h3:=h.2.2.1;simp [hRm]at h3))
            replace hRm:=hjd hRm
            obtain⟨W,hWd⟩:∃W,ws=W:=⟨_,rfl⟩
            have XW:=hjd (hWd▸X.out)
            have B17W:=hjd (hWd▸B17.out)
            have RB:=hjd (fun u (hu:Kept [] W u)=>(show u.cell? ⟨g11,1 * m,none⟩=some (.bool true)from by have h:=(XW.out.a0o hu).lr hmn.out;rw [hRm.out]at h;rw [Nat.one_mul];exact h))
            clear X B17
            refine Txt.a4e (by kernel_rfl) [Txt.isV (.slice (some ⟨g11,0,none⟩) (3 * k + 1) (3 * k + 1)),Txt.isV (.int .i64 (m:Int)),Txt.isV (.pointer (some ⟨g11,1 * m,none⟩)),Txt.isV (.bool true),Txt.isV (.bool false),Txt.isV (.bool false),Txt.isV undef,Txt.isV undef,Txt.isV undef,Txt.isV undef,Txt.isV undef,Txt.isV undef,Txt.isV undef] (fun _ u=>Kept [] W u) (fun _=>[]) (by kernel_rfl) (by kernel_rfl) (by simp) (by kernel_rfl) (hWd▸(Kept.refl [] ws).drew) (fun _ _ _ _ h=>h) (fun _ _ _ _ _ h k=>h.a0f k) ⟨?_,?_,?_,?_,?_,?_,?_,?_,?_,?_,?_,?_,?_,trivial⟩ ?_
            ·refine a0k (.inl rfl) fun L ac u hL hS hr hoth=>?_
             have e0:ac.eval (.tmp 11)=(.slice (some ⟨g11,0,none⟩) (3 * k + 1) (3 * k + 1)):=(hoth 11 (by decide)).trans rfl
             exact a6q rfl e0
            ·refine a0k (.inl rfl) fun L ac u hL hS hr hoth=>?_
             have e0:ac.eval (.tmp 16)=(.int .i64 (m:Int)):=(hoth 16 (by decide)).trans rfl
             exact a6q rfl e0
            ·refine a0k (.inl rfl) fun L ac u hL hS hr hoth=>?_
             have e0:ac.eval (.tmp 86)=(.slice (some ⟨g11,0,none⟩) (3 * k + 1) (3 * k + 1)):=hr 0 _ 86 _ rfl rfl rfl ⟨⟨0,.data⟩,by simp,rfl,rfl⟩
             have e1:ac.eval (.tmp 87)=(.int .i64 (m:Int)):=hr 1 _ 87 _ rfl rfl rfl ⟨⟨1,.data⟩,by simp,rfl,rfl⟩
             exact a4h rfl e0 e1 (a4q a5z hmn.out _ _)
            ·refine a0k (.inl rfl) fun L ac u hL hS hr hoth=>?_
             have e0:ac.eval (.tmp 88)=(.pointer (some ⟨g11,1 * m,none⟩)):=hr 2 _ 88 _ rfl rfl rfl ⟨⟨2,.data⟩,by simp,rfl,rfl⟩
             exact a1s rfl (fun w=>by kernel_rfl) e0 (RB.out u hS)
            ·refine a0k (.inl rfl) fun L ac u hL hS hr hoth=>?_
             have e0:ac.eval (.tmp 89)=(.bool true):=hr 3 _ 89 _ rfl rfl rfl ⟨⟨3,.data⟩,by simp,rfl,rfl⟩
             exact b9w rfl e0
            ·refine a0k (.inl rfl) fun L ac u hL hS hr hoth=>?_
             have e0:ac.eval (.tmp 90)=(.bool false):=hr 4 _ 90 _ rfl rfl rfl ⟨⟨4,.data⟩,by simp,rfl,rfl⟩
             exact a6q rfl e0
            ·exact a2e (k:=5) (b:=true) rfl rfl (fun _=>rfl) (fun _ _ _ _ _ _ h _=>h)
            ·exact a2e (k:=5) (b:=true) rfl rfl (fun _=>rfl) (fun _ _ _ _ _ _ h _=>h)
            ·exact a2e (k:=5) (b:=true) rfl rfl (fun _=>rfl) (fun _ _ _ _ _ _ h _=>h)
            ·exact a2e (k:=5) (b:=true) rfl rfl (fun _=>rfl) (fun _ _ _ _ _ _ h _=>h)
            ·exact a2e (k:=5) (b:=true) rfl rfl (fun _=>rfl) (fun _ _ _ _ _ _ h _=>h)
            ·exact a2e (k:=5) (b:=true) rfl rfl (fun _=>rfl) (fun _ _ _ _ _ _ h _=>h)
            ·exact a2e (k:=5) (b:=true) rfl rfl (fun _=>rfl) (fun _ _ _ _ _ _ h _=>h)
            intro v wc kc hv
            have y0:v 0=(.slice (some ⟨g11,0,none⟩) (3 * k + 1) (3 * k + 1)):=hv 0 _ rfl
            have y1:v 1=(.int .i64 (m:Int)):=hv 1 _ rfl
            have y2:v 2=(.pointer (some ⟨g11,1 * m,none⟩)):=hv 2 _ rfl
            have y3:v 3=(.bool true):=hv 3 _ rfl
            have y4:v 4=(.bool false):=hv 4 _ rfl
            have y5:v 5=(.bool false):=hv 5 _ rfl
            have y6:v 6=undef:=hv 6 _ rfl
            have y7:v 7=undef:=hv 7 _ rfl
            have y8:v 8=undef:=hv 8 _ rfl
            have y9:v 9=undef:=hv 9 _ rfl
            have y10:v 10=undef:=hv 10 _ rfl
            have y11:v 11=undef:=hv 11 _ rfl
            have y12:v 12=undef:=hv 12 _ rfl
            clear hv
            simp [Txt.a1a,List.range,List.range.loop,Act.put,y0,y1,y2,y3,y4,y5,y6,y7,y8,y9,y10,y11,y12]
            clear y0 y1 y2 y3 y4 y5 y6 y7 y8 y9 y10 y11 y12
            unfold Txt.a4m
            refine a3l (v:=.bool false) rfl ?_
            unfold Txt.a4m
            simp [Act.put]
            have X:=hjd (XW.out.a0o kc)
            have B17:=hjd (B17W.out.kept kc (by simp))
            clear kc RB XW B17W hWd
            go_wp2_with (first
             | ((with_reducible refine a0e 111 ?_);refine a0d (cs:=(shC ((m:Int),sg)).toArray) (o:=⟨some 111,_,_,_,_,_⟩) a6u rfl (.tmp 17) rfl rfl B17.out (by rw [List.size_toArray];exact a0s hs64.out) ?_)
             | ((with_reducible refine a0e 112 ?_);(refine a1f (o:=⟨some 112,_,_,_,_,_⟩) (v0:=.agg (shC ((m:Int),sg)).toArray) (cells:=(shC ((m:Int),sg)).toArray) rfl a2c rfl rfl (by decide) rfl (by rw [List.size_toArray];exact a0s hs64.out) ?_);intro gl wl ml
                have RL:=hjd (a6a ml.blk (a0s hs64.out))
                replace X:=hjd (X.out.a0o ml.kept)
                clear ml)
             | (at_builtin;refine a2h a2c rfl (.tmp 110) (.tmp 112) rfl rfl (xs:=sh.flatMap shC) (n:=sh.length) (m:=1) (news:=shC ((m:Int),sg)) X.out.s rfl RL.out (a2m _) (by have:=hsl19.out;omega) (by have:=hsl19.out;omega) ?_
                intro xa wa oa ka ba
                have X2:=hjd (X.out.b1l (p:=((m:Int),sg)) oa ka ba)
                clear oa ka ba RL))
            go_roundg (ps.length - (i + 1))
            case measure=>omega
            case rel=>exact⟨i + 1,C,by omega,by omega,by go_num,rfl,hjd (by omega),hjd ⟨_,R,G,by rw [List.length_append,List.length_singleton,hsl.out],hML.out,X2.out⟩⟩
          | false=>
            have hRm2:=hRm
            replace hRm:=hjd hRm
            obtain⟨W,hWd⟩:∃W,ws=W:=⟨_,rfl⟩
            have XW:=hjd (hWd▸X.out)
            have B17W:=hjd (hWd▸B17.out)
            have RB:=hjd (fun u (hu:Kept [] W u)=>(show u.cell? ⟨g11,1 * m,none⟩=some (.bool false)from by have h:=(XW.out.a0o hu).lr hmn.out;rw [hRm.out]at h;rw [Nat.one_mul];exact h))
            have SGF:=hjd (fun u (hu:Kept [] W u)=>(show u.rangeAt g17 1 (bv sg)from a4p (B17W.out.kept hu (by simp))))
            have JJ:=hjd (fun u (hu:Kept [] W u)=>RgJ.far B.out.j (by simp) B.out.j (XW.out.k.a0f hu))
            have HB3:=hjd (fun u (hu:Kept [] W u)=>a2b.a0o B.out.bo (XW.out.k.a0f hu))
            clear X B17
            refine Txt.a4e (by kernel_rfl) [Txt.isV (.slice (some ⟨g11,0,none⟩) (3 * k + 1) (3 * k + 1)),Txt.isV (.int .i64 (m:Int)),Txt.isV (.pointer (some ⟨g11,1 * m,none⟩)),Txt.isV (.bool false),Txt.isV (.bool true),Txt.isV (.bool true),Txt.isV (.pointer (some ⟨r,0,none⟩)),Txt.isV (.int .i64 (m:Int)),Txt.isV (ab (KY m)),Txt.isV (.slice BA body.length bc),Txt.isV (.pointer (some ⟨g17,1,none⟩)),Txt.isV (ab sg),Txt.isV (.bool (okm m sg))] (fun _ u=>Kept [] W u) (fun _=>[]) (by kernel_rfl) (by kernel_rfl) (by simp) (by kernel_rfl) (hWd▸(Kept.refl [] ws).drew) (fun _ _ _ _ h=>h) (fun _ _ _ _ _ h k=>h.a0f k) ⟨?_,?_,?_,?_,?_,?_,?_,?_,?_,?_,?_,?_,?_,trivial⟩ ?_
            ·refine a0k (.inl rfl) fun L ac u hL hS hr hoth=>?_
             have e0:ac.eval (.tmp 11)=(.slice (some ⟨g11,0,none⟩) (3 * k + 1) (3 * k + 1)):=(hoth 11 (by decide)).trans rfl
             exact a6q rfl e0
            ·refine a0k (.inl rfl) fun L ac u hL hS hr hoth=>?_
             have e0:ac.eval (.tmp 16)=(.int .i64 (m:Int)):=(hoth 16 (by decide)).trans rfl
             exact a6q rfl e0
            ·refine a0k (.inl rfl) fun L ac u hL hS hr hoth=>?_
             have e0:ac.eval (.tmp 86)=(.slice (some ⟨g11,0,none⟩) (3 * k + 1) (3 * k + 1)):=hr 0 _ 86 _ rfl rfl rfl ⟨⟨0,.data⟩,by simp,rfl,rfl⟩
             have e1:ac.eval (.tmp 87)=(.int .i64 (m:Int)):=hr 1 _ 87 _ rfl rfl rfl ⟨⟨1,.data⟩,by simp,rfl,rfl⟩
             exact a4h rfl e0 e1 (a4q a5z hmn.out _ _)
            ·refine a0k (.inl rfl) fun L ac u hL hS hr hoth=>?_
             have e0:ac.eval (.tmp 88)=(.pointer (some ⟨g11,1 * m,none⟩)):=hr 2 _ 88 _ rfl rfl rfl ⟨⟨2,.data⟩,by simp,rfl,rfl⟩
             exact a1s rfl (fun w=>by kernel_rfl) e0 (RB.out u hS)
            ·refine a0k (.inl rfl) fun L ac u hL hS hr hoth=>?_
             have e0:ac.eval (.tmp 89)=(.bool false):=hr 3 _ 89 _ rfl rfl rfl ⟨⟨3,.data⟩,by simp,rfl,rfl⟩
             exact b9w rfl e0
            ·refine a0k (.inl rfl) fun L ac u hL hS hr hoth=>?_
             have e0:ac.eval (.tmp 90)=(.bool true):=hr 4 _ 90 _ rfl rfl rfl ⟨⟨4,.data⟩,by simp,rfl,rfl⟩
             exact a6q rfl e0
            ·refine a0k (.inr ⟨5,true,rfl,rfl⟩) fun L ac u hL hS hr hoth=>?_
             have e0:ac.eval (.tmp 8)=(.pointer (some ⟨r,0,none⟩)):=(hoth 8 (by decide)).trans rfl
             exact a6q rfl e0
            ·refine a0k (.inr ⟨5,true,rfl,rfl⟩) fun L ac u hL hS hr hoth=>?_
             have e0:ac.eval (.tmp 16)=(.int .i64 (m:Int)):=(hoth 16 (by decide)).trans rfl
             exact a6q rfl e0
            ·refine a5s rfl (fun xs w=>enters_of (c:=_) Try.func22 (by kernel_rfl) rfl xs w) (.inr ⟨5,true,rfl,rfl⟩) (fun _ _ _ _ _ _ h _=>h) fun L ac u hL hS hr hoth=>?_
             have e0:ac.eval (.tmp 92)=(.pointer (some ⟨r,0,none⟩)):=hr 6 _ 92 _ rfl rfl rfl ⟨⟨6,.data⟩,by simp,rfl,rfl⟩
             have e1:ac.eval (.tmp 93)=(.int .i64 (m:Int)):=hr 7 _ 93 _ rfl rfl rfl ⟨⟨7,.data⟩,by simp,rfl,rfl⟩
             refine⟨#[(.pointer (some ⟨r,0,none⟩)),(.int .i64 (m:Int))],by simp only [List.map_toArray,List.map_cons,List.map_nil,e0,e1] <;> rfl,(ck.out _ _ _ _ (3 * k + 1) m (JJ.out u hS) hmn.out).mono ?_⟩
             rintro e u2 ⟨rfl,hk⟩
             exact⟨_,rfl,rfl,hk⟩
            ·refine a0k (.inr ⟨5,true,rfl,rfl⟩) fun L ac u hL hS hr hoth=>?_
             have e0:ac.eval (.tmp 1)=(.slice BA body.length bc):=(hoth 1 (by decide)).trans rfl
             exact a6q rfl e0
            ·refine a0k (.inr ⟨5,true,rfl,rfl⟩) fun L ac u hL hS hr hoth=>?_
             have e0:ac.eval (.tmp 17)=(.pointer (some ⟨g17,0,none⟩)):=(hoth 17 (by decide)).trans rfl
             exact b6d rfl e0 (by kernel_rfl)
            ·refine a0k (.inr ⟨5,true,rfl,rfl⟩) fun L ac u hL hS hr hoth=>?_
             have e0:ac.eval (.tmp 96)=(.pointer (some ⟨g17,1,none⟩)):=hr 10 _ 96 _ rfl rfl rfl ⟨⟨10,.data⟩,by simp,rfl,rfl⟩
             exact a2s Q.a8z (.tmp 96) rfl e0 (SGF.out u hS) (by simpa using hs64.out)
            ·refine a5s rfl (fun xs w=>enters_of (c:=_) Try.func16 (by kernel_rfl) rfl xs w) (.inr ⟨5,true,rfl,rfl⟩) (fun _ _ _ _ _ _ h _=>h) fun L ac u hL hS hr hoth=>?_
             have e0:ac.eval (.tmp 94)=(ab (KY m)):=hr 8 _ 94 _ rfl rfl rfl ⟨⟨8,.data⟩,by simp,rfl,rfl⟩
             have e1:ac.eval (.tmp 95)=(.slice BA body.length bc):=hr 9 _ 95 _ rfl rfl rfl ⟨⟨9,.data⟩,by simp,rfl,rfl⟩
             have e2:ac.eval (.tmp 97)=(ab sg):=hr 11 _ 97 _ rfl rfl rfl ⟨⟨11,.data⟩,by simp,rfl,rfl⟩
             refine⟨#[(ab (KY m)),(.int IntKind.u8 5),(.slice BA body.length bc),(ab sg)],by simp only [List.map_toArray,List.map_cons,List.map_nil,e0,e1,e2] <;> rfl,(cw.out m sg u _ hs64.out (HB3.out u hS)).mono ?_⟩
             rintro e u2 ⟨rfl,hk⟩
             exact⟨_,rfl,rfl,hk⟩
            intro v wc kc hv
            have y0:v 0=(.slice (some ⟨g11,0,none⟩) (3 * k + 1) (3 * k + 1)):=hv 0 _ rfl
            have y1:v 1=(.int .i64 (m:Int)):=hv 1 _ rfl
            have y2:v 2=(.pointer (some ⟨g11,1 * m,none⟩)):=hv 2 _ rfl
            have y3:v 3=(.bool false):=hv 3 _ rfl
            have y4:v 4=(.bool true):=hv 4 _ rfl
            have y5:v 5=(.bool true):=hv 5 _ rfl
            have y6:v 6=(.pointer (some ⟨r,0,none⟩)):=hv 6 _ rfl
            have y7:v 7=(.int .i64 (m:Int)):=hv 7 _ rfl
            have y8:v 8=(ab (KY m)):=hv 8 _ rfl
            have y9:v 9=(.slice BA body.length bc):=hv 9 _ rfl
            have y10:v 10=(.pointer (some ⟨g17,1,none⟩)):=hv 10 _ rfl
            have y11:v 11=(ab sg):=hv 11 _ rfl
            have y12:v 12=(.bool (okm m sg)):=hv 12 _ rfl
            clear hv
            simp [Txt.a1a,List.range,List.range.loop,Act.put,y0,y1,y2,y3,y4,y5,y6,y7,y8,y9,y10,y11,y12]
            clear y0 y1 y2 y3 y4 y5 y6 y7 y8 y9 y10 y11 y12
            unfold Txt.a4m
            refine a3l (v:=.bool (okm m sg)) rfl ?_
            unfold Txt.a4m
            simp [Act.put]
            have X:=hjd (XW.out.a0o kc)
            have B17:=hjd (B17W.out.kept kc (by simp))
            clear kc RB XW B17W hWd SGF JJ HB3
            cases hkm:okm m sg with
            | false=>
              have hML:=hjd (MS.out.leave (p:=((m:Int),sg)) hs64.out (fun h=>by have h4:=h.2.2.2;simp [hok.out _ _ _ hmn.out,hkm]at h4))
              replace hkm:=hjd hkm
              go_wp2_with (first
               | ((with_reducible refine a0e 111 ?_);refine a0d (cs:=(shC ((m:Int),sg)).toArray) (o:=⟨some 111,_,_,_,_,_⟩) a6u rfl (.tmp 17) rfl rfl B17.out (by rw [List.size_toArray];exact a0s hs64.out) ?_)
               | ((with_reducible refine a0e 112 ?_);(refine a1f (o:=⟨some 112,_,_,_,_,_⟩) (v0:=.agg (shC ((m:Int),sg)).toArray) (cells:=(shC ((m:Int),sg)).toArray) rfl a2c rfl rfl (by decide) rfl (by rw [List.size_toArray];exact a0s hs64.out) ?_);intro gl wl ml
                  have RL:=hjd (a6a ml.blk (a0s hs64.out))
                  replace X:=hjd (X.out.a0o ml.kept)
                  clear ml)
               | (at_builtin;refine a2h a2c rfl (.tmp 110) (.tmp 112) rfl rfl (xs:=sh.flatMap shC) (n:=sh.length) (m:=1) (news:=shC ((m:Int),sg)) X.out.s rfl RL.out (a2m _) (by have:=hsl19.out;omega) (by have:=hsl19.out;omega) ?_
                  intro xa wa oa ka ba
                  have X2:=hjd (X.out.b1l (p:=((m:Int),sg)) oa ka ba)
                  clear oa ka ba RL))
              go_roundg (ps.length - (i + 1))
              case measure=>omega
              case rel=>exact⟨i + 1,C,by omega,by omega,by go_num,rfl,hjd (by omega),hjd ⟨_,R,G,by rw [List.length_append,List.length_singleton,hsl.out],hML.out,X2.out⟩⟩
            | true=>
              have hML:=hjd (MS.out.take (m:=m) (sg:=sg) (by have:=hmn.out;have:=hks.out;omega) hRm2 (by rw [hok.out _ _ _ hmn.out];exact hkm) hs64.out)
              replace hkm:=hjd hkm
              clear hRm2
              go_wp2_with (first
               | ((with_reducible refine a0e 102 ?_);refine a0v (v:=.pointer (some ⟨g11,1 * m,none⟩)) (by kernel_rfl) (a4h rfl rfl rfl (a4q a5z hmn.out _ _)) ?_)
               | ((with_reducible refine a2w (.tmp 102) (.const (.bool true)) ?_);refine a6f (o':=⟨none,Op.store 4 (.tmp 102) (.const (.bool true)),_,_,_,_⟩) (by kernel_rfl) (.tmp 102) (.const (.bool true)) rfl (b:=g11) (off:=1 * m) rfl (v:=.bool true) rfl rfl (by kernel_rfl) X.out.r (by rw [List.size_toArray,a6h (k:=1) (fun _=>rfl)];have:=hmn.out;omega) ?_
                  intro wr1 b11 k11
                  rw [a9t hmn.out]at b11
                  replace B17:=hjd (B17.out.kept k11 (by simpa using F17.out.a.symm))
                  replace X:=hjd (X.out.setR b11 k11)
                  clear b11 k11)
               | ((with_reducible refine a0e 108 ?_);refine a0z (o:=⟨some 108,_,_,_,_,_⟩) (cs:=bv sg) Q.a8z (by kernel_rfl) (.tmp 107) rfl rfl (a4p B17.out) (by simpa using hs64.out) ?_)
               | ((with_reducible refine a0e 109 ?_);refine a0v (v:=.pointer (some ⟨g12,64 * m,none⟩)) (by kernel_rfl) (a4h rfl rfl rfl (a4q b1t hmn.out _ _)) ?_)
               | ((with_reducible refine a2w (.tmp 109) (.tmp 108) ?_);refine a4r (o:=⟨none,Op.store 24 (.tmp 109) (.tmp 108),_,_,_,_⟩) (q:=bv sg) Q.a8z (by kernel_rfl) (.tmp 109) (.tmp 108) rfl rfl rfl X.out.g (b2d MS.out.gl) hmn.out (by simpa using hs64.out) (a2v _) ?_
                  intro wr2 b12 k12
                  replace B17:=hjd (B17.out.kept k12 (by simpa using F17.out.b.symm))
                  replace X:=hjd (X.out.setG b12 k12)
                  clear b12 k12)
               | ((with_reducible refine a0e 111 ?_);refine a0d (cs:=(shC ((m:Int),sg)).toArray) (o:=⟨some 111,_,_,_,_,_⟩) a6u rfl (.tmp 17) rfl rfl B17.out (by rw [List.size_toArray];exact a0s hs64.out) ?_)
               | ((with_reducible refine a0e 112 ?_);(refine a1f (o:=⟨some 112,_,_,_,_,_⟩) (v0:=.agg (shC ((m:Int),sg)).toArray) (cells:=(shC ((m:Int),sg)).toArray) rfl a2c rfl rfl (by decide) rfl (by rw [List.size_toArray];exact a0s hs64.out) ?_);intro gl wl ml
                  have RL:=hjd (a6a ml.blk (a0s hs64.out))
                  replace X:=hjd (X.out.a0o ml.kept)
                  clear ml)
               | (at_builtin;refine a2h a2c rfl (.tmp 110) (.tmp 112) rfl rfl (xs:=sh.flatMap shC) (n:=sh.length) (m:=1) (news:=shC ((m:Int),sg)) X.out.s rfl RL.out (a2m _) (by have:=hsl19.out;omega) (by have:=hsl19.out;omega) ?_
                  intro xa wa oa ka ba
                  have X2:=hjd (X.out.b1l (p:=((m:Int),sg)) oa ka ba)
                  clear oa ka ba RL))
              go_roundg (ps.length - (i + 1))
              case measure=>omega
              case rel=>exact⟨i + 1,C + 1,by omega,by omega,by go_num,by have hc:C≤7:=hC7.out;show Value.int _ _=Value.int _ _;rw [IntWalk.wrap64_in _ (by omega)];rfl,hjd (by omega),hjd ⟨_,_,_,by rw [List.length_append,List.length_singleton,hsl.out],hML.out,X2.out⟩⟩
        | false=>
          have hmi:(m:Int) < 3 * (k:Int) + 1:=by omega
          clear hmn'
          go_upto_region 19 with(first
           | ((with_reducible refine a0e 69 ?_);refine a0v (v:=.bool false) (by kernel_rfl) (a1s rfl (fun w=>by kernel_rfl) rfl (B15.out.cell 2)) ?_))
          obtain⟨sg0,hsg0⟩:∃sg,SL m 5=sg:=⟨_,rfl⟩
          have hs0:=hjd (show sg0.length=64 from hsg0▸hSL.out m 5)
          have hse:=hjd hsg0
          clear hsg0
          go_upto_region 20 with(first
           | ((with_reducible refine a0e 72 ?_);refine a0v (v:=.pointer (some ⟨sb,so + m * 32,none⟩)) (by kernel_rfl) (a4h rfl rfl rfl (a5o (P:=Try.prog) (g:=sb) (off:=so) (c:=sc) (i:=m) a7r hmn.out _ _)) ?_)
           | ((with_reducible refine a0e 73 ?_);refine a0z (o:=⟨some 73,_,_,_,_,_⟩) (cs:=bv (a4f m)) a2k.row (by kernel_rfl) (.tmp 72) rfl rfl (b1k B.out.sd X.out.k hmn.out) (by simpa using a4a m) ?_)
           | (go_at_call 17;(with_reducible refine(cs5.out m _ _ (a2b.a0o B.out.bo X.out.k)).mono ?_);rintro e vs ⟨rfl,kk⟩
              rw [hse.out]
              replace X:=hjd (X.out.a0o kk)
              replace B15:=hjd (B15.out.kept kk (by simp))
              replace B17:=hjd (B17.out.kept kk (by simp))
              clear kk)
           | ((with_reducible refine a2w (.tmp 77) (.tmp 76) ?_);refine a9h (o:=⟨none,Op.store 24 (.tmp 77) (.tmp 76),_,_,_,_⟩) Q.a8z rfl (.tmp 77) (.tmp 76) rfl rfl (pre:=[.int .i64 (m:Int)]) (mid:=bv (a0q 64)) (post:=[]) rfl (by rw [List.append_nil];exact B17.out) rfl (by simp [a0q]) (by simpa using hs0.out) (a2v _) ?_
              intro ws b17 k17
              replace B17:=hjd (show Blk ws g17 60 (shC ((m:Int),sg0)).toArray from by rw [List.append_nil]at b17;exact b17)
              replace X:=hjd (X.out.write F17.out k17)
              replace B15:=hjd (B15.out.kept k17 (by simpa using N15.out))
              clear b17 k17))
          go_upto_region 22 with(first
           | ((with_reducible refine a0e 79 ?_);refine a0v (v:=.bool false) (by kernel_rfl) (a1s rfl (fun w=>by kernel_rfl) rfl (B15.out.cell 1)) ?_))
          obtain⟨sg,hsg⟩:∃sg,sg0=sg:=⟨_,rfl⟩
          have hs64:=hjd (show sg.length=64 from by rw [←hsg];exact hs0.out)
          rw [hsg]at B17
          clear hsg
          clear B15 N15 hse hs0
          cases hRm:R m with
          | true=>
            have hML:=hjd (MS.out.leave (p:=((m:Int),sg)) hs64.out (fun h=>by have h3:=h.2.2.1;simp [hRm]at h3))
            replace hRm:=hjd hRm
            obtain⟨W,hWd⟩:∃W,ws=W:=⟨_,rfl⟩
            have XW:=hjd (hWd▸X.out)
            have B17W:=hjd (hWd▸B17.out)
            have RB:=hjd (fun u (hu:Kept [] W u)=>(show u.cell? ⟨g11,1 * m,none⟩=some (.bool true)from by have h:=(XW.out.a0o hu).lr hmn.out;rw [hRm.out]at h;rw [Nat.one_mul];exact h))
            clear X B17
            refine Txt.a4e (by kernel_rfl) [Txt.isV (.slice (some ⟨g11,0,none⟩) (3 * k + 1) (3 * k + 1)),Txt.isV (.int .i64 (m:Int)),Txt.isV (.pointer (some ⟨g11,1 * m,none⟩)),Txt.isV (.bool true),Txt.isV (.bool false),Txt.isV (.bool false),Txt.isV undef,Txt.isV undef,Txt.isV undef,Txt.isV undef,Txt.isV undef,Txt.isV undef,Txt.isV undef] (fun _ u=>Kept [] W u) (fun _=>[]) (by kernel_rfl) (by kernel_rfl) (by simp) (by kernel_rfl) (hWd▸(Kept.refl [] ws).drew) (fun _ _ _ _ h=>h) (fun _ _ _ _ _ h k=>h.a0f k) ⟨?_,?_,?_,?_,?_,?_,?_,?_,?_,?_,?_,?_,?_,trivial⟩ ?_
            ·refine a0k (.inl rfl) fun L ac u hL hS hr hoth=>?_
             have e0:ac.eval (.tmp 11)=(.slice (some ⟨g11,0,none⟩) (3 * k + 1) (3 * k + 1)):=(hoth 11 (by decide)).trans rfl
             exact a6q rfl e0
            ·refine a0k (.inl rfl) fun L ac u hL hS hr hoth=>?_
             have e0:ac.eval (.tmp 16)=(.int .i64 (m:Int)):=(hoth 16 (by decide)).trans rfl
             exact a6q rfl e0
            ·refine a0k (.inl rfl) fun L ac u hL hS hr hoth=>?_
             have e0:ac.eval (.tmp 86)=(.slice (some ⟨g11,0,none⟩) (3 * k + 1) (3 * k + 1)):=hr 0 _ 86 _ rfl rfl rfl ⟨⟨0,.data⟩,by simp,rfl,rfl⟩
             have e1:ac.eval (.tmp 87)=(.int .i64 (m:Int)):=hr 1 _ 87 _ rfl rfl rfl ⟨⟨1,.data⟩,by simp,rfl,rfl⟩
             exact a4h rfl e0 e1 (a4q a5z hmn.out _ _)
            ·refine a0k (.inl rfl) fun L ac u hL hS hr hoth=>?_
             have e0:ac.eval (.tmp 88)=(.pointer (some ⟨g11,1 * m,none⟩)):=hr 2 _ 88 _ rfl rfl rfl ⟨⟨2,.data⟩,by simp,rfl,rfl⟩
             exact a1s rfl (fun w=>by kernel_rfl) e0 (RB.out u hS)
            ·refine a0k (.inl rfl) fun L ac u hL hS hr hoth=>?_
             have e0:ac.eval (.tmp 89)=(.bool true):=hr 3 _ 89 _ rfl rfl rfl ⟨⟨3,.data⟩,by simp,rfl,rfl⟩
             exact b9w rfl e0
            ·refine a0k (.inl rfl) fun L ac u hL hS hr hoth=>?_
             have e0:ac.eval (.tmp 90)=(.bool false):=hr 4 _ 90 _ rfl rfl rfl ⟨⟨4,.data⟩,by simp,rfl,rfl⟩
             exact a6q rfl e0
            ·exact a2e (k:=5) (b:=true) rfl rfl (fun _=>rfl) (fun _ _ _ _ _ _ h _=>h)
            ·exact a2e (k:=5) (b:=true) rfl rfl (fun _=>rfl) (fun _ _ _ _ _ _ h _=>h)
            ·exact a2e (k:=5) (b:=true) rfl rfl (fun _=>rfl) (fun _ _ _ _ _ _ h _=>h)
            ·exact a2e (k:=5) (b:=true) rfl rfl (fun _=>rfl) (fun _ _ _ _ _ _ h _=>h)
            ·exact a2e (k:=5) (b:=true) rfl rfl (fun _=>rfl) (fun _ _ _ _ _ _ h _=>h)
            ·exact a2e (k:=5) (b:=true) rfl rfl (fun _=>rfl) (fun _ _ _ _ _ _ h _=>h)
            ·exact a2e (k:=5) (b:=true) rfl rfl (fun _=>rfl) (fun _ _ _ _ _ _ h _=>h)
            intro v wc kc hv
            have y0:v 0=(.slice (some ⟨g11,0,none⟩) (3 * k + 1) (3 * k + 1)):=hv 0 _ rfl
            have y1:v 1=(.int .i64 (m:Int)):=hv 1 _ rfl
            have y2:v 2=(.pointer (some ⟨g11,1 * m,none⟩)):=hv 2 _ rfl
            have y3:v 3=(.bool true):=hv 3 _ rfl
            have y4:v 4=(.bool false):=hv 4 _ rfl
            have y5:v 5=(.bool false):=hv 5 _ rfl
            have y6:v 6=undef:=hv 6 _ rfl
            have y7:v 7=undef:=hv 7 _ rfl
            have y8:v 8=undef:=hv 8 _ rfl
            have y9:v 9=undef:=hv 9 _ rfl
            have y10:v 10=undef:=hv 10 _ rfl
            have y11:v 11=undef:=hv 11 _ rfl
            have y12:v 12=undef:=hv 12 _ rfl
            clear hv
            simp [Txt.a1a,List.range,List.range.loop,Act.put,y0,y1,y2,y3,y4,y5,y6,y7,y8,y9,y10,y11,y12]
            clear y0 y1 y2 y3 y4 y5 y6 y7 y8 y9 y10 y11 y12
            unfold Txt.a4m
            refine a3l (v:=.bool false) rfl ?_
            unfold Txt.a4m
            simp [Act.put]
            have X:=hjd (XW.out.a0o kc)
            have B17:=hjd (B17W.out.kept kc (by simp))
            clear kc RB XW B17W hWd
            go_wp2_with (first
             | ((with_reducible refine a0e 111 ?_);refine a0d (cs:=(shC ((m:Int),sg)).toArray) (o:=⟨some 111,_,_,_,_,_⟩) a6u rfl (.tmp 17) rfl rfl B17.out (by rw [List.size_toArray];exact a0s hs64.out) ?_)
             | ((with_reducible refine a0e 112 ?_);(refine a1f (o:=⟨some 112,_,_,_,_,_⟩) (v0:=.agg (shC ((m:Int),sg)).toArray) (cells:=(shC ((m:Int),sg)).toArray) rfl a2c rfl rfl (by decide) rfl (by rw [List.size_toArray];exact a0s hs64.out) ?_);intro gl wl ml
                have RL:=hjd (a6a ml.blk (a0s hs64.out))
                replace X:=hjd (X.out.a0o ml.kept)
                clear ml)
             | (at_builtin;refine a2h a2c rfl (.tmp 110) (.tmp 112) rfl rfl (xs:=sh.flatMap shC) (n:=sh.length) (m:=1) (news:=shC ((m:Int),sg)) X.out.s rfl RL.out (a2m _) (by have:=hsl19.out;omega) (by have:=hsl19.out;omega) ?_
                intro xa wa oa ka ba
                have X2:=hjd (X.out.b1l (p:=((m:Int),sg)) oa ka ba)
                clear oa ka ba RL))
            go_roundg (ps.length - (i + 1))
            case measure=>omega
            case rel=>exact⟨i + 1,C,by omega,by omega,by go_num,rfl,hjd (by omega),hjd ⟨_,R,G,by rw [List.length_append,List.length_singleton,hsl.out],hML.out,X2.out⟩⟩
          | false=>
            have hRm2:=hRm
            replace hRm:=hjd hRm
            obtain⟨W,hWd⟩:∃W,ws=W:=⟨_,rfl⟩
            have XW:=hjd (hWd▸X.out)
            have B17W:=hjd (hWd▸B17.out)
            have RB:=hjd (fun u (hu:Kept [] W u)=>(show u.cell? ⟨g11,1 * m,none⟩=some (.bool false)from by have h:=(XW.out.a0o hu).lr hmn.out;rw [hRm.out]at h;rw [Nat.one_mul];exact h))
            have SGF:=hjd (fun u (hu:Kept [] W u)=>(show u.rangeAt g17 1 (bv sg)from a4p (B17W.out.kept hu (by simp))))
            have JJ:=hjd (fun u (hu:Kept [] W u)=>RgJ.far B.out.j (by simp) B.out.j (XW.out.k.a0f hu))
            have HB3:=hjd (fun u (hu:Kept [] W u)=>a2b.a0o B.out.bo (XW.out.k.a0f hu))
            clear X B17
            refine Txt.a4e (by kernel_rfl) [Txt.isV (.slice (some ⟨g11,0,none⟩) (3 * k + 1) (3 * k + 1)),Txt.isV (.int .i64 (m:Int)),Txt.isV (.pointer (some ⟨g11,1 * m,none⟩)),Txt.isV (.bool false),Txt.isV (.bool true),Txt.isV (.bool true),Txt.isV (.pointer (some ⟨r,0,none⟩)),Txt.isV (.int .i64 (m:Int)),Txt.isV (ab (KY m)),Txt.isV (.slice BA body.length bc),Txt.isV (.pointer (some ⟨g17,1,none⟩)),Txt.isV (ab sg),Txt.isV (.bool (okm m sg))] (fun _ u=>Kept [] W u) (fun _=>[]) (by kernel_rfl) (by kernel_rfl) (by simp) (by kernel_rfl) (hWd▸(Kept.refl [] ws).drew) (fun _ _ _ _ h=>h) (fun _ _ _ _ _ h k=>h.a0f k) ⟨?_,?_,?_,?_,?_,?_,?_,?_,?_,?_,?_,?_,?_,trivial⟩ ?_
            ·refine a0k (.inl rfl) fun L ac u hL hS hr hoth=>?_
             have e0:ac.eval (.tmp 11)=(.slice (some ⟨g11,0,none⟩) (3 * k + 1) (3 * k + 1)):=(hoth 11 (by decide)).trans rfl
             exact a6q rfl e0
            ·refine a0k (.inl rfl) fun L ac u hL hS hr hoth=>?_
             have e0:ac.eval (.tmp 16)=(.int .i64 (m:Int)):=(hoth 16 (by decide)).trans rfl
             exact a6q rfl e0
            ·refine a0k (.inl rfl) fun L ac u hL hS hr hoth=>?_
             have e0:ac.eval (.tmp 86)=(.slice (some ⟨g11,0,none⟩) (3 * k + 1) (3 * k + 1)):=hr 0 _ 86 _ rfl rfl rfl ⟨⟨0,.data⟩,by simp,rfl,rfl⟩
             have e1:ac.eval (.tmp 87)=(.int .i64 (m:Int)):=hr 1 _ 87 _ rfl rfl rfl ⟨⟨1,.data⟩,by simp,rfl,rfl⟩
             exact a4h rfl e0 e1 (a4q a5z hmn.out _ _)
            ·refine a0k (.inl rfl) fun L ac u hL hS hr hoth=>?_
             have e0:ac.eval (.tmp 88)=(.pointer (some ⟨g11,1 * m,none⟩)):=hr 2 _ 88 _ rfl rfl rfl ⟨⟨2,.data⟩,by simp,rfl,rfl⟩
             exact a1s rfl (fun w=>by kernel_rfl) e0 (RB.out u hS)
            ·refine a0k (.inl rfl) fun L ac u hL hS hr hoth=>?_
             have e0:ac.eval (.tmp 89)=(.bool false):=hr 3 _ 89 _ rfl rfl rfl ⟨⟨3,.data⟩,by simp,rfl,rfl⟩
             exact b9w rfl e0
            ·refine a0k (.inl rfl) fun L ac u hL hS hr hoth=>?_
             have e0:ac.eval (.tmp 90)=(.bool true):=hr 4 _ 90 _ rfl rfl rfl ⟨⟨4,.data⟩,by simp,rfl,rfl⟩
             exact a6q rfl e0
            ·refine a0k (.inr ⟨5,true,rfl,rfl⟩) fun L ac u hL hS hr hoth=>?_
             have e0:ac.eval (.tmp 8)=(.pointer (some ⟨r,0,none⟩)):=(hoth 8 (by decide)).trans rfl
             exact a6q rfl e0
            ·refine a0k (.inr ⟨5,true,rfl,rfl⟩) fun L ac u hL hS hr hoth=>?_
             have e0:ac.eval (.tmp 16)=(.int .i64 (m:Int)):=(hoth 16 (by decide)).trans rfl
             exact a6q rfl e0
            ·refine a5s rfl (fun xs w=>enters_of (c:=_) Try.func22 (by kernel_rfl) rfl xs w) (.inr ⟨5,true,rfl,rfl⟩) (fun _ _ _ _ _ _ h _=>h) fun L ac u hL hS hr hoth=>?_
             have e0:ac.eval (.tmp 92)=(.pointer (some ⟨r,0,none⟩)):=hr 6 _ 92 _ rfl rfl rfl ⟨⟨6,.data⟩,by simp,rfl,rfl⟩
             have e1:ac.eval (.tmp 93)=(.int .i64 (m:Int)):=hr 7 _ 93 _ rfl rfl rfl ⟨⟨7,.data⟩,by simp,rfl,rfl⟩
             refine⟨#[(.pointer (some ⟨r,0,none⟩)),(.int .i64 (m:Int))],by simp only [List.map_toArray,List.map_cons,List.map_nil,e0,e1] <;> rfl,(ck.out _ _ _ _ (3 * k + 1) m (JJ.out u hS) hmn.out).mono ?_⟩
             rintro e u2 ⟨rfl,hk⟩
             exact⟨_,rfl,rfl,hk⟩
            ·refine a0k (.inr ⟨5,true,rfl,rfl⟩) fun L ac u hL hS hr hoth=>?_
             have e0:ac.eval (.tmp 1)=(.slice BA body.length bc):=(hoth 1 (by decide)).trans rfl
             exact a6q rfl e0
            ·refine a0k (.inr ⟨5,true,rfl,rfl⟩) fun L ac u hL hS hr hoth=>?_
             have e0:ac.eval (.tmp 17)=(.pointer (some ⟨g17,0,none⟩)):=(hoth 17 (by decide)).trans rfl
             exact b6d rfl e0 (by kernel_rfl)
            ·refine a0k (.inr ⟨5,true,rfl,rfl⟩) fun L ac u hL hS hr hoth=>?_
             have e0:ac.eval (.tmp 96)=(.pointer (some ⟨g17,1,none⟩)):=hr 10 _ 96 _ rfl rfl rfl ⟨⟨10,.data⟩,by simp,rfl,rfl⟩
             exact a2s Q.a8z (.tmp 96) rfl e0 (SGF.out u hS) (by simpa using hs64.out)
            ·refine a5s rfl (fun xs w=>enters_of (c:=_) Try.func16 (by kernel_rfl) rfl xs w) (.inr ⟨5,true,rfl,rfl⟩) (fun _ _ _ _ _ _ h _=>h) fun L ac u hL hS hr hoth=>?_
             have e0:ac.eval (.tmp 94)=(ab (KY m)):=hr 8 _ 94 _ rfl rfl rfl ⟨⟨8,.data⟩,by simp,rfl,rfl⟩
             have e1:ac.eval (.tmp 95)=(.slice BA body.length bc):=hr 9 _ 95 _ rfl rfl rfl ⟨⟨9,.data⟩,by simp,rfl,rfl⟩
             have e2:ac.eval (.tmp 97)=(ab sg):=hr 11 _ 97 _ rfl rfl rfl ⟨⟨11,.data⟩,by simp,rfl,rfl⟩
             refine⟨#[(ab (KY m)),(.int IntKind.u8 5),(.slice BA body.length bc),(ab sg)],by simp only [List.map_toArray,List.map_cons,List.map_nil,e0,e1,e2] <;> rfl,(cw.out m sg u _ hs64.out (HB3.out u hS)).mono ?_⟩
             rintro e u2 ⟨rfl,hk⟩
             exact⟨_,rfl,rfl,hk⟩
            intro v wc kc hv
            have y0:v 0=(.slice (some ⟨g11,0,none⟩) (3 * k + 1) (3 * k + 1)):=hv 0 _ rfl
            have y1:v 1=(.int .i64 (m:Int)):=hv 1 _ rfl
            have y2:v 2=(.pointer (some ⟨g11,1 * m,none⟩)):=hv 2 _ rfl
            have y3:v 3=(.bool false):=hv 3 _ rfl
            have y4:v 4=(.bool true):=hv 4 _ rfl
            have y5:v 5=(.bool true):=hv 5 _ rfl
            have y6:v 6=(.pointer (some ⟨r,0,none⟩)):=hv 6 _ rfl
            have y7:v 7=(.int .i64 (m:Int)):=hv 7 _ rfl
            have y8:v 8=(ab (KY m)):=hv 8 _ rfl
            have y9:v 9=(.slice BA body.length bc):=hv 9 _ rfl
            have y10:v 10=(.pointer (some ⟨g17,1,none⟩)):=hv 10 _ rfl
            have y11:v 11=(ab sg):=hv 11 _ rfl
            have y12:v 12=(.bool (okm m sg)):=hv 12 _ rfl
            clear hv
            simp [Txt.a1a,List.range,List.range.loop,Act.put,y0,y1,y2,y3,y4,y5,y6,y7,y8,y9,y10,y11,y12]
            clear y0 y1 y2 y3 y4 y5 y6 y7 y8 y9 y10 y11 y12
            unfold Txt.a4m
            refine a3l (v:=.bool (okm m sg)) rfl ?_
            unfold Txt.a4m
            simp [Act.put]
            have X:=hjd (XW.out.a0o kc)
            have B17:=hjd (B17W.out.kept kc (by simp))
            clear kc RB XW B17W hWd SGF JJ HB3
            cases hkm:okm m sg with
            | false=>
              have hML:=hjd (MS.out.leave (p:=((m:Int),sg)) hs64.out (fun h=>by have h4:=h.2.2.2;simp [hok.out _ _ _ hmn.out,hkm]at h4))
              replace hkm:=hjd hkm
              go_wp2_with (first
               | ((with_reducible refine a0e 111 ?_);refine a0d (cs:=(shC ((m:Int),sg)).toArray) (o:=⟨some 111,_,_,_,_,_⟩) a6u rfl (.tmp 17) rfl rfl B17.out (by rw [List.size_toArray];exact a0s hs64.out) ?_)
               | ((with_reducible refine a0e 112 ?_);(refine a1f (o:=⟨some 112,_,_,_,_,_⟩) (v0:=.agg (shC ((m:Int),sg)).toArray) (cells:=(shC ((m:Int),sg)).toArray) rfl a2c rfl rfl (by decide) rfl (by rw [List.size_toArray];exact a0s hs64.out) ?_);intro gl wl ml
                  have RL:=hjd (a6a ml.blk (a0s hs64.out))
                  replace X:=hjd (X.out.a0o ml.kept)
                  clear ml)
               | (at_builtin;refine a2h a2c rfl (.tmp 110) (.tmp 112) rfl rfl (xs:=sh.flatMap shC) (n:=sh.length) (m:=1) (news:=shC ((m:Int),sg)) X.out.s rfl RL.out (a2m _) (by have:=hsl19.out;omega) (by have:=hsl19.out;omega) ?_
                  intro xa wa oa ka ba
                  have X2:=hjd (X.out.b1l (p:=((m:Int),sg)) oa ka ba)
                  clear oa ka ba RL))
              go_roundg (ps.length - (i + 1))
              case measure=>omega
              case rel=>exact⟨i + 1,C,by omega,by omega,by go_num,rfl,hjd (by omega),hjd ⟨_,R,G,by rw [List.length_append,List.length_singleton,hsl.out],hML.out,X2.out⟩⟩
            | true=>
              have hML:=hjd (MS.out.take (m:=m) (sg:=sg) (by have:=hmn.out;have:=hks.out;omega) hRm2 (by rw [hok.out _ _ _ hmn.out];exact hkm) hs64.out)
              replace hkm:=hjd hkm
              clear hRm2
              go_wp2_with (first
               | ((with_reducible refine a0e 102 ?_);refine a0v (v:=.pointer (some ⟨g11,1 * m,none⟩)) (by kernel_rfl) (a4h rfl rfl rfl (a4q a5z hmn.out _ _)) ?_)
               | ((with_reducible refine a2w (.tmp 102) (.const (.bool true)) ?_);refine a6f (o':=⟨none,Op.store 4 (.tmp 102) (.const (.bool true)),_,_,_,_⟩) (by kernel_rfl) (.tmp 102) (.const (.bool true)) rfl (b:=g11) (off:=1 * m) rfl (v:=.bool true) rfl rfl (by kernel_rfl) X.out.r (by rw [List.size_toArray,a6h (k:=1) (fun _=>rfl)];have:=hmn.out;omega) ?_
                  intro wr1 b11 k11
                  rw [a9t hmn.out]at b11
                  replace B17:=hjd (B17.out.kept k11 (by simpa using F17.out.a.symm))
                  replace X:=hjd (X.out.setR b11 k11)
                  clear b11 k11)
               | ((with_reducible refine a0e 108 ?_);refine a0z (o:=⟨some 108,_,_,_,_,_⟩) (cs:=bv sg) Q.a8z (by kernel_rfl) (.tmp 107) rfl rfl (a4p B17.out) (by simpa using hs64.out) ?_)
               | ((with_reducible refine a0e 109 ?_);refine a0v (v:=.pointer (some ⟨g12,64 * m,none⟩)) (by kernel_rfl) (a4h rfl rfl rfl (a4q b1t hmn.out _ _)) ?_)
               | ((with_reducible refine a2w (.tmp 109) (.tmp 108) ?_);refine a4r (o:=⟨none,Op.store 24 (.tmp 109) (.tmp 108),_,_,_,_⟩) (q:=bv sg) Q.a8z (by kernel_rfl) (.tmp 109) (.tmp 108) rfl rfl rfl X.out.g (b2d MS.out.gl) hmn.out (by simpa using hs64.out) (a2v _) ?_
                  intro wr2 b12 k12
                  replace B17:=hjd (B17.out.kept k12 (by simpa using F17.out.b.symm))
                  replace X:=hjd (X.out.setG b12 k12)
                  clear b12 k12)
               | ((with_reducible refine a0e 111 ?_);refine a0d (cs:=(shC ((m:Int),sg)).toArray) (o:=⟨some 111,_,_,_,_,_⟩) a6u rfl (.tmp 17) rfl rfl B17.out (by rw [List.size_toArray];exact a0s hs64.out) ?_)
               | ((with_reducible refine a0e 112 ?_);(refine a1f (o:=⟨some 112,_,_,_,_,_⟩) (v0:=.agg (shC ((m:Int),sg)).toArray) (cells:=(shC ((m:Int),sg)).toArray) rfl a2c rfl rfl (by decide) rfl (by rw [List.size_toArray];exact a0s hs64.out) ?_);intro gl wl ml
                  have RL:=hjd (a6a ml.blk (a0s hs64.out))
                  replace X:=hjd (X.out.a0o ml.kept)
                  clear ml)
               | (at_builtin;refine a2h a2c rfl (.tmp 110) (.tmp 112) rfl rfl (xs:=sh.flatMap shC) (n:=sh.length) (m:=1) (news:=shC ((m:Int),sg)) X.out.s rfl RL.out (a2m _) (by have:=hsl19.out;omega) (by have:=hsl19.out;omega) ?_
                  intro xa wa oa ka ba
                  have X2:=hjd (X.out.b1l (p:=((m:Int),sg)) oa ka ba)
                  clear oa ka ba RL))
              go_roundg (ps.length - (i + 1))
              case measure=>omega
              case rel=>exact⟨i + 1,C + 1,by omega,by omega,by go_num,by have hc:C≤7:=hC7.out;show Value.int _ _=Value.int _ _;rw [IntWalk.wrap64_in _ (by omega)];rfl,hjd (by omega),hjd ⟨_,_,_,by rw [List.length_append,List.length_singleton,hsl.out],hML.out,X2.out⟩⟩
     ·obtain⟨sg,hsg⟩:∃sg,a0q 64=sg:=⟨_,rfl⟩
      have hs64:=hjd (show sg.length=64 from by rw [←hsg];rfl)
      rw [hsg]at B17
      clear hsg
      have hmi:¬(m:Int) < 3 * (k:Int) + 1:=by omega
      have hML:=hjd (MS.out.leave (p:=((m:Int),sg)) hs64.out (fun h=>by have h4:=d2z h.2.2.2;rw [hK.out]at h4;simp at h4;omega))
      go_wp2_with (first
       | ((with_reducible refine a0e 111 ?_);refine a0d (cs:=(shC ((m:Int),sg)).toArray) (o:=⟨some 111,_,_,_,_,_⟩) a6u rfl (.tmp 17) rfl rfl B17.out (by rw [List.size_toArray];exact a0s hs64.out) ?_)
       | ((with_reducible refine a0e 112 ?_);(refine a1f (o:=⟨some 112,_,_,_,_,_⟩) (v0:=.agg (shC ((m:Int),sg)).toArray) (cells:=(shC ((m:Int),sg)).toArray) rfl a2c rfl rfl (by decide) rfl (by rw [List.size_toArray];exact a0s hs64.out) ?_);intro gl wl ml
          have RL:=hjd (a6a ml.blk (a0s hs64.out))
          replace X:=hjd (X.out.a0o ml.kept)
          clear ml)
       | (at_builtin;refine a2h a2c rfl (.tmp 110) (.tmp 112) rfl rfl (xs:=sh.flatMap shC) (n:=sh.length) (m:=1) (news:=shC ((m:Int),sg)) X.out.s rfl RL.out (a2m _) (by have:=hsl19.out;omega) (by have:=hsl19.out;omega) ?_
          intro xa wa oa ka ba
          have X2:=hjd (X.out.b1l (p:=((m:Int),sg)) oa ka ba)
          clear oa ka ba RL))
      go_roundg (ps.length - (i + 1))
      case measure=>omega
      case rel=>exact⟨i + 1,C,by omega,by omega,by go_num,rfl,hjd (by omega),hjd ⟨_,R,G,by rw [List.length_append,List.length_singleton,hsl.out],hML.out,X2.out⟩⟩
   ·obtain rfl:i=ps.length:=by omega
    go_wp2_with fail
    go_meet
    obtain⟨sh,R,G,hsl,MS,X⟩:=hE.out
    have hb4:=hi20.out
    exact⟨trivial,_,rfl,hjd ⟨sh,R,G,by omega,MS,X⟩⟩
 case rest=>
  obtain⟨_,C,rfl,hH⟩:=hcut
  obtain⟨sh,R,G,hsl,MS,X⟩:=hH.out
  clear hH MS0
  obtain⟨SA,sc1,rfl,e2⟩:=X.s.shape
  clear e2
  replace X:=hjd X
  replace MS:=hjd MS
  replace hsl:=hjd hsl
  have KX:=hjd (K.out.a0f X.out.k)
  have hq:b9y (keys (3 * k + 1)).length=2 * k + 1:=by rw [hK.out];unfold b9y;omega
  have hcn:c0e (a5u (keys (3 * k + 1)) 5 body sh)=C:=MS.out.c.symm
  have CM:Calls Try.prog 32 #[.pointer (some ⟨r,0,none⟩),.int .u8 5,.slice BA body.length bc,.slice SA sh.length sc1] wc fun e w'=>RgJ r b kv (keys (3 * k + 1)) w'∧Kept [b] wc w'∧
   ((C < 2 * k + 1∧e= .returned (.tuple #[.agg #[.slice none 0 0,.slice none 0 0,.slice none 0 0],.int .i64 80]))∨
    (2 * k + 1≤C∧∃b2 s2 g2,e= .returned (.tuple #[.agg #[b2,s2,g2],.int .i64 0])∧a2b body b2 w'∧
      Rd w' 1 s2 (a2q (a5u (keys (3 * k + 1)) 5 body sh) (2 * k + 1) 7).length (iv ((a2q (a5u (keys (3 * k + 1)) 5 body sh) (2 * k + 1) 7).map fun(k:Nat)=>(k:Int)))∧Rd w' 64 g2 (a2q (a5u (keys (3 * k + 1)) 5 body sh) (2 * k + 1) 7).length ((a2q (a5u (keys (3 * k + 1)) 5 body sh) (2 * k + 1) 7).flatMap fun i=>bv (a8l sh (a5u (keys (3 * k + 1)) 5 body sh) i)))):=by
   have h:=b9s (RgJ.far B.out.j (by simp) B.out.j X.out.k) 5 (sh:=sh) (body:=body) (.slice BA body.length bc) (SA:=SA) (sc:=sc1) (a2b.a0o B.out.bo X.out.k) (by have:=hbl.out;omega) (Rd.a8j X.out.s) MS.out.sl (by have:=hsl.out;omega)
   rw [hq,hcn]at h
   exact h
  replace hq:=hjd hq
  replace hcn:=hjd hcn
  replace CM:=hjd CM
  have hC7:=hjd MS.out.le
  by_cases hC:C < 2 * k + 1
  ·have hCi:(C:Int) < 2 * (k:Int) + 1:=by omega
   replace hC:=hjd hC
   go_upto_region 30 with(first
    | (go_at_call 32;(with_reducible refine CM.out.mono ?_);rintro e vm ⟨J2,k2,h⟩
       obtain⟨_,rfl⟩:=h.resolve_right (fun h2=>by have:=hC.out;omega)
       have KM:=hjd (KX.out.fresh k2 hB.out)
       clear J2 k2 h
       replace CM:=hjd trivial)
    | ((with_reducible refine a0e 19 ?_);(refine a0h (o:=⟨some 19,_,_,_,_,_⟩) rfl rfl b0b ?_);intro g19 w19 m19
       refine a0c (cs:=#[.slice none 0 0,.slice none 0 0,.slice none 0 0]) (o:=⟨none,Op.store 63 (.tmp 19) (.tmp 120),_,_,_,_⟩) b0i rfl (.tmp 19) (.tmp 120) rfl rfl rfl m19.blk rfl rfl (a6r _ _ _ _ _ _ _ _ _) ?_
       intro wd b19 k19
       have B19:=hjd b19
       replace KM:=hjd (KM.out.a0f (m19.kept.a0r k19 m19.le))
       clear m19 b19 k19))
   go_wp2_with (first
    | ((with_reducible refine a0e 131 ?_);refine a0v (v:=.slice none 0 0) (by kernel_rfl) (a1s rfl (fun w=>by kernel_rfl) rfl (B19.out.cell 1)) ?_)
    | ((with_reducible refine a0e 134 ?_);refine a0v (v:=.slice none 0 0) (by kernel_rfl) (a1s rfl (fun w=>by kernel_rfl) rfl (B19.out.cell 2)) ?_)
    | ((with_reducible refine a0e 138 ?_);refine a0v (v:=.slice none 0 0) (by kernel_rfl) (a1s rfl (fun w=>by kernel_rfl) rfl (B19.out.cell 0)) ?_))
   go_ret
   exact⟨rfl,KM.out⟩
  ·have hCi:¬(C:Int) < 2 * (k:Int) + 1:=by omega
   have hCq:=hjd (show 2 * k + 1≤C by omega)
   clear hC
   have hW:=hjd (fun q=>MS.out.want7 (n:=3 * k + 1) (by have:=hks.out;omega) (fun i s h=>by have:=d2z h;rwa [hK.out]at this) q)
   obtain⟨L,hLe⟩:∃L,a2q (a5u (keys (3 * k + 1)) 5 body sh) (2 * k + 1) 7=L:=⟨_,rfl⟩
   have hLl:=hjd (show L.length=2 * k + 1 from hLe▸c1b (by rw [hcn.out];exact hCq.out))
   have hLw:=hjd (show a8k R (2 * k + 1) (3 * k + 1)=L from(hW.out _).trans hLe)
   have hLin:=hjd (c4b R (2 * k + 1) (3 * k + 1))
   rw [hLw.out]at hLin
   have hG:=hjd (fun i (h:R i=true)=>(show G i=a8l sh (a5u (keys (3 * k + 1)) 5 body sh) i from MS.out.g i h))
   have hmr:=hjd (c9l (q:=2 * k + 1) (n:=3 * k + 1) (ok:=okR (keys (3 * k + 1)) 5 body) (sh:=sh) (fun i s h=>by have:=d2z h;rwa [hK.out]at this) (by have:=hcn.out;unfold a5u at this;rw [this];exact hCq.out))
   rw [hLe]at CM
   have hLe2:=hjd hLe
   clear hLe hW
   go_upto_region 30 with(first
    | (go_at_call 32;(with_reducible refine CM.out.mono ?_);rintro e vm ⟨J2,k2,h⟩
       obtain⟨_,b2,s2,g2,rfl,hb2,hs2,hg2⟩:=h.resolve_left (fun h2=>by have:=hCq.out;omega)
       have KM:=hjd (KX.out.fresh k2 hB.out)
       have hb2S:=hb2
       obtain⟨B2,b2c,rfl,e1⟩:=hb2S
       have hs2S:=hs2
       obtain⟨S2,s2c,rfl,e2⟩:=hs2S
       have hg2S:=hg2
       obtain⟨G2,g2c,rfl,e3⟩:=hg2S
       clear e1 e2 e3
       have N11:=hjd (show g11∉[b]from fun h=>by obtain⟨D,hD⟩:=B.out.j;have h1:=hD.blt;have h2:=X.out.rf;rw [List.mem_singleton.1 h]at h2;omega)
       have N12:=hjd (show g12∉[b]from fun h=>by obtain⟨D,hD⟩:=B.out.j;have h1:=hD.blt;have h2:=X.out.gf;rw [List.mem_singleton.1 h]at h2;omega)
       have JX:=RgJ.far B.out.j (by simp) B.out.j X.out.k
       have HX:=hjd (And.intro J2 (And.intro (X.out.r.kept k2 N11.out) (And.intro (X.out.g.kept k2 N12.out) (And.intro (RgJ.rd (by decide) JX k2 (Rd.a8j X.out.s)) (And.intro (show a2b body (.slice BA body.length bc) _ from RgJ.rd (by decide) JX k2 (a2b.a0o B.out.bo X.out.k)) (And.intro hb2 (And.intro hs2 hg2)))))))
       clear J2 k2 hb2 hs2 hg2 JX h
       replace CM:=hjd trivial)
    | ((with_reducible refine a0e 19 ?_);(refine a0h (o:=⟨some 19,_,_,_,_,_⟩) rfl rfl b0b ?_);intro g19 w19 m19
       refine a0c (cs:=#[.slice B2 body.length b2c,.slice S2 L.length s2c,.slice G2 L.length g2c]) (o:=⟨none,Op.store 63 (.tmp 19) (.tmp 120),_,_,_,_⟩) b0i rfl (.tmp 19) (.tmp 120) rfl rfl rfl m19.blk rfl rfl (a6r _ _ _ _ _ _ _ _ _) ?_
       intro wd b19 k19
       have kk:=m19.kept.a0r k19 m19.le
       have HX2:=HX.out
       have Y:=hjd (show CY w r b g11 g12 g19 (3 * k + 1) kv (keys (3 * k + 1)) R G (a8l sh (a5u (keys (3 * k + 1)) 5 body sh)) sh (.slice SA sh.length sc1) body (.slice BA body.length bc) (.slice B2 body.length b2c) (.slice S2 L.length s2c) (.slice G2 L.length g2c) L wd from⟨KM.out.a0f kk,RgJ.far HX2.1 (by simp) HX2.1 kk,HX2.2.1.kept kk (by simp),HX2.2.2.1.kept kk (by simp),HX2.2.2.2.1.a0o kk,a2b.a0o HX2.2.2.2.2.1 kk,b19,a2b.a0o HX2.2.2.2.2.2.1 kk,HX2.2.2.2.2.2.2.1.a0o kk,HX2.2.2.2.2.2.2.2.a0o kk,hB.out,N11.out,N12.out,fun h=>by
        obtain⟨D,hD⟩:=HX2.1
        have h1:=hD.blt
        have h2:=m19.le
        rw [List.mem_singleton.1 h]at h2
        omega⟩)
       clear m19 b19 k19 kk HX2 HX))
   clear X CM
   go_wp2_with fail
   go_loopg [21,145] (3 * k + 1) (fun f' x21 x145 wk=>∃j:Nat,j≤3 * k + 1∧f' + j=3 * k + 1∧x145= .int .i64 (j:Int)∧Hid (Ow wk 3 1 x21 (a8k R (2 * k + 1) j).length (iv ((a8k R (2 * k + 1) j).map fun(i:Nat)=>(i:Int)))∧∀q,x21.ownBlock=some q→wd.heap.size≤q)∧Hid (Kept [] wd wk))
   case atStart=>exact⟨0,by omega,by omega,rfl,hjd ⟨Ow.nil _ _ _,fun q h=>by cases h⟩,hjd (Kept.refl _ _)⟩
   case round=>
    obtain⟨j,hj,hf,rfl,hO,KL⟩:=hrel
    by_cases hlt:j < 3 * k + 1
    ·have O:=hjd hO.out.1
     have OF:=hjd hO.out.2
     clear hO
     have hO1:=O.out
     obtain⟨XA,xc,rfl,e1⟩:=hO1.shape
     clear hO1 e1
     have hwl:=hjd (c6f R (2 * k + 1) j)
     have hst:a8k R (2 * k + 1) (j + 1)=if R j=true∧(a8k R (2 * k + 1) j).length < 2 * k + 1 then a8k R (2 * k + 1) j ++ [j]else a8k R (2 * k + 1) j:=rfl
     have qr:=hjd (show wr.cell? ⟨g11,1 * j,none⟩=some (.bool (R j))from by rw [Nat.one_mul];have:=(Y.out.r.kept KL.out (by simp)).row (k:=1) (i:=j) (fun _=>rfl) hlt 0 (.bool (R j)) rfl;simpa using this)
     generalize a8k R (2 * k + 1) j=xs at *
     replace hst:=hjd hst
     have hltH:=hjd hlt
     cases hRj:R j with
     | false=>
       rw [hRj]at qr
       have hno:=hjd (hst.out.trans (if_neg (fun h=>by rw [hRj]at h;cases h.1)))
       replace hRj:=hjd hRj
       go_wp2_with (first
        | ((with_reducible refine a0e 148 ?_);refine a0v (v:=.pointer (some ⟨g11,1 * j,none⟩)) (by kernel_rfl) (a4h rfl rfl rfl (a4q a5z hltH.out _ _)) ?_)
        | ((with_reducible refine a0e 149 ?_);refine a0v (v:=.bool false) (by kernel_rfl) (a1s rfl (fun w=>by kernel_rfl) rfl (qr.out)) ?_))
       go_roundg (3 * k + 1 - (j + 1))
       case measure=>omega
       case rel=>exact⟨j + 1,by omega,by omega,by go_num,by rw [hno.out];exact hjd ⟨O.out,OF.out⟩,KL⟩
     | true=>
       rw [hRj]at qr
       by_cases hxq:xs.length < 2 * k + 1
       ·have hyes:=hjd (hst.out.trans (if_pos ⟨hRj,hxq⟩))
        replace hRj:=hjd hRj
        have hxi:(xs.length:Int) < 2 * (k:Int) + 1:=by omega
        go_wp2_with (first
         | ((with_reducible refine a0e 148 ?_);refine a0v (v:=.pointer (some ⟨g11,1 * j,none⟩)) (by kernel_rfl) (a4h rfl rfl rfl (a4q a5z hltH.out _ _)) ?_)
         | ((with_reducible refine a0e 149 ?_);refine a0v (v:=.bool true) (by kernel_rfl) (a1s rfl (fun w=>by kernel_rfl) rfl (qr.out)) ?_)
         | ((with_reducible refine a0e 161 ?_);(refine a1f (o:=⟨some 161,_,_,_,_,_⟩) (v0:=.int .i64 (j:Int)) (cells:=#[.int .i64 (j:Int)]) (by kernel_rfl) b4k rfl rfl (by decide) rfl rfl ?_);intro gm wm mm
            have Rm:=hjd (a6a (cells:=[.int .i64 (j:Int)]) mm.blk rfl)
            replace O:=hjd (O.out.a0o mm.kept)
            replace KL:=hjd (KL.out.a0f mm.kept)
            clear mm)
         | (at_builtin;refine a2h b4k rfl (.tmp 159) (.tmp 161) rfl rfl (xs:=iv (xs.map fun(i:Nat)=>(i:Int))) (n:=xs.length) (m:=1) (news:=[.int .i64 (j:Int)]) O.out rfl Rm.out (by intro u hu;rw [List.mem_singleton.1 hu];rfl) (by omega) (by omega) ?_
            intro x4 w4 o4 k4 b4
            have O2:=hjd (show Ow w4 3 1 x4 (xs ++ [j]).length (iv ((xs ++ [j]).map fun(i:Nat)=>(i:Int)))from by simpa [iv]using o4)
            have F2:=hjd (b8s OF.out KL.out.size (nearW b4))
            have K2:=hjd (KL.out.fresh k4 (fun q hq=>OF.out q (Option.mem_toList.1 hq)))
            clear o4 k4 b4 Rm))
        go_roundg (3 * k + 1 - (j + 1))
        case measure=>omega
        case rel=>exact⟨j + 1,by omega,by omega,by go_num,by rw [hyes.out];exact hjd ⟨O2.out,F2.out⟩,K2⟩
       ·have hno:=hjd (hst.out.trans (if_neg (fun h=>hxq h.2)))
        replace hRj:=hjd hRj
        have hxi:¬(xs.length:Int) < 2 * (k:Int) + 1:=by omega
        go_wp2_with (first
         | ((with_reducible refine a0e 148 ?_);refine a0v (v:=.pointer (some ⟨g11,1 * j,none⟩)) (by kernel_rfl) (a4h rfl rfl rfl (a4q a5z hltH.out _ _)) ?_)
         | ((with_reducible refine a0e 149 ?_);refine a0v (v:=.bool true) (by kernel_rfl) (a1s rfl (fun w=>by kernel_rfl) rfl (qr.out)) ?_))
        go_roundg (3 * k + 1 - (j + 1))
        case measure=>omega
        case rel=>exact⟨j + 1,by omega,by omega,by go_num,by rw [hno.out];exact hjd ⟨O.out,OF.out⟩,KL⟩
    ·obtain rfl:j=3 * k + 1:=by omega
     rw [hLw.out]at hO
     have O:=hjd (Rd.a8j hO.out.1)
     have hO1:=hO.out.1
     obtain⟨XA,xc,rfl,e1⟩:=hO1.shape
     clear hO1 e1 hO hj hf hlt
     replace Y:=hjd (Y.out.a0o KL.out)
     clear KL
     have bL:((L.length:Int) !=(L.length:Int))=false:=by simp
     have CC:Calls Try.prog 34 #[.pointer (some ⟨r,0,none⟩),.int .u8 5,.agg #[.slice B2 body.length b2c,.slice S2 L.length s2c,.slice G2 L.length g2c]] wr fun e w'=>e= .returned (.int .i64 0)∧RgJ r b kv (keys (3 * k + 1)) w'∧Kept [b] wr w':=by
      have hs2:Rd wr 1 (.slice S2 L.length s2c) (L.map fun(i:Nat)=>(i:Int)).length (iv (L.map fun(i:Nat)=>(i:Int))):=by rw [List.length_map];exact Y.out.ms
      have hg2:Rd wr 64 (.slice G2 L.length g2c) (L.map fun i=>a8l sh (a5u (keys (3 * k + 1)) 5 body sh) i).length ((L.map fun i=>a8l sh (a5u (keys (3 * k + 1)) 5 body sh) i).flatMap bv):=by
       rw [List.length_map,List.flatMap_map]
       exact Y.out.mg
      have h:=a9o Y.out.j 5 (body:=body) (.slice B2 body.length b2c) _ _ Y.out.mb (by have:=hbl.out;omega) hs2 hg2 (fun g hgm=>by
       obtain⟨i,hi,rfl⟩:=List.mem_map.1 hgm
       rw [←hG.out i (hLin.out i hi).2]
       exact MS.out.gl i) (by rw [List.length_map,hLl.out];have:=hks.out;omega) (by rw [List.length_map,hLl.out];have:=hks.out;omega)
      have h0:=hmr.out
      have e:a2q (a2f (okR (keys (3 * k + 1)) 5 body) sh sh.length) (2 * k + 1) 7=L:=hLe2.out
      rw [e]at h0
      have e3:a5f (2 * k + 1) (3 * k + 1) (okR (keys (3 * k + 1)) 5 body) (L.map fun(i:Nat)=>(i:Int)) (L.map fun i=>a8l sh (a5u (keys (3 * k + 1)) 5 body sh) i)=0:=h0
      rw [hq.out,hK.out,e3]at h
      exact h
     replace CC:=hjd CC
     have hLl7:=hjd (show L.length≤7 by have:=hLl.out;have:=hks.out;omega)
     go_upto_region 40 with(first
      | ((with_reducible refine a0e 168 ?_);refine a0v (v:=.slice B2 body.length b2c) (by kernel_rfl) (a1s rfl (fun w=>by kernel_rfl) rfl (Y.out.c.cell 0)) ?_)
      | ((with_reducible refine a0e 169 ?_);refine a0v (v:=.string (mkS body)) (by kernel_rfl) (x_str rfl rfl Y.out.mb) ?_)
      | ((with_reducible refine a0e 171 ?_);refine a0v (v:=.string (mkS body)) (by kernel_rfl) (x_str rfl rfl Y.out.bo) ?_)
      | ((with_reducible refine a0e 172 ?_);refine a0v (v:=.bool false) (by kernel_rfl) (x_neqs rfl rfl rfl) ?_)
      | ((with_reducible refine a0e 176 ?_);refine a0v (v:=.slice S2 L.length s2c) (by kernel_rfl) (a1s rfl (fun w=>by kernel_rfl) rfl (Y.out.c.cell 1)) ?_)
      | ((with_reducible refine a0e 180 ?_);refine a0v (v:=.bool false) (by kernel_rfl) (e0k rfl rfl rfl) ?_)
      | ((with_reducible refine a0e 184 ?_);refine a0d (cs:=#[.slice B2 body.length b2c,.slice S2 L.length s2c,.slice G2 L.length g2c]) (o:=⟨some 184,_,_,_,_,_⟩) b0i (by kernel_rfl) (.tmp 19) rfl rfl Y.out.c rfl ?_)
      | (go_at_call 34;(with_reducible refine CC.out.mono ?_);rintro e we ⟨rfl,J2,k2⟩
         replace O:=hjd (RgJ.rd (by decide) Y.out.j k2 O.out)
         replace Y:=hjd (Y.out.keptb J2 k2)
         clear J2 k2
         replace CC:=hjd trivial))
     go_wp2_with fail
     go_loopg [190] L.length (fun f' x190 wk=>∃p:Nat,p≤L.length∧f' + p=L.length∧x190= .int .i64 (p:Int)∧Hid (Kept [] we wk))
     case atStart=>exact⟨0,by omega,by omega,rfl,hjd (Kept.refl _ _)⟩
     case round=>
      obtain⟨p,hp,hf,rfl,KL⟩:=hrel
      by_cases hlt:p < L.length
      ·replace Y:=hjd (Y.out.a0o KL.out)
       replace O:=hjd (O.out.a0o KL.out)
       have hpL:=hjd hlt
       obtain⟨wb0,wo,wc2,e,e2,e3⟩:=O.out.at_ (by omega)
       cases e
       clear e2 e3
       obtain⟨s2b,s2o,s2d,e,e2,e3⟩:=Y.out.ms.at_ (by omega)
       cases e
       clear e2 e3
       obtain⟨g2b,g2o,g2d,e,e2,e3⟩:=Y.out.mg.at_ (by omega)
       cases e
       clear e2 e3
       obtain⟨x,hx⟩:∃x,L.getD p 0=x:=⟨_,rfl⟩
       have hxm:=hjd (show x∈L from by rw [←hx,List.getD_eq_getElem?_getD,List.getElem?_eq_getElem hlt];exact List.getElem_mem _)
       have hxn:=hjd (hLin.out x hxm.out).1
       have hgx:=hjd (MS.out.gl x)
       go_upto_region 43 with fail
       obtain⟨W,hWd⟩:∃W,wr.drew=W:=⟨_,rfl⟩
       have kd:Kept [] wr W:=hWd▸(Kept.refl [] wr).drew
       have YW:=hjd (Y.out.a0o kd)
       have OW:=hjd (O.out.a0o kd)
       have CB:=hjd (fun u (hu:Kept [] W u)=>YW.out.c.kept hu (by simp))
       have Q1:=hjd (fun u (hu:Kept [] W u)=>(show u.cell? ⟨s2b,s2o + p,none⟩=some (.int .i64 (x:Int))from by
        obtain⟨_,_,_,e,_,e3⟩:=(YW.out.ms.a0o hu).at_ (by omega)
        cases e
        exact e3 p _ (by rw [←hx];simp [iv,List.getD_eq_getElem?_getD,List.getElem?_eq_getElem hlt])))
       have Q2:=hjd (fun u (hu:Kept [] W u)=>(show u.cell? ⟨wb0,wo + p,none⟩=some (.int .i64 (x:Int))from by
        obtain⟨_,_,_,e,_,e3⟩:=(OW.out.a0o hu).at_ (by omega)
        cases e
        exact e3 p _ (by rw [←hx];simp [iv,List.getD_eq_getElem?_getD,List.getElem?_eq_getElem hlt])))
       have GG:=hjd (fun u (hu:Kept [] W u)=>(show u.rangeAt g2b (g2o + p * 64) (bv (G x))from by
        have h:=Rd.elem (i:=p) (pre:=(L.take p).flatMap fun i=>bv (a8l sh (a5u (keys (3 * k + 1)) 5 body sh) i)) (q:=bv (G x)) (post:=(L.drop (p + 1)).flatMap fun i=>bv (a8l sh (a5u (keys (3 * k + 1)) 5 body sh) i)) (YW.out.mg.a0o hu) (by
         have e:L=L.take p ++ (x :: L.drop (p + 1)):=by rw [←hx,List.getD_eq_getElem?_getD,List.getElem?_eq_getElem hlt];simp
         rw [hG.out x (hLin.out x hxm.out).2]
         conv=>lhs;rw [e]
         rw [List.flatMap_append,List.flatMap_cons]) (by
         have:∀l:List Nat,(∀i∈l,R i=true)→(l.flatMap fun i=>bv (a8l sh (a5u (keys (3 * k + 1)) 5 body sh) i)).length=l.length * 64:=by
          intro l hl
          induction l with
          | nil=>rfl
          | cons a l ih=>rw [List.flatMap_cons,List.length_append,ih fun i hi=>hl i (List.mem_cons_of_mem _ hi),←hG.out a (hl a (by simp))];simp [MS.out.gl a];omega
         rw [this _ fun i hi=>(hLin.out i (List.mem_of_mem_take hi)).2,List.length_take,Nat.min_eq_left (by omega)]) (by omega)
        exact h))
       have GX:=hjd (fun u (hu:Kept [] W u)=>(show u.rangeAt g12 (64 * x) (bv (G x))from(YW.out.g.kept hu (by simp)).row (k:=64) (i:=x) (b2d MS.out.gl) hxn.out))
       clear hx
       refine Txt.a4e (by kernel_rfl) [Txt.isV (.pointer (some ⟨g19,1,none⟩)),Txt.isV (.slice (some ⟨s2b,s2o,none⟩) L.length s2c),Txt.isV (.int .i64 (p:Int)),Txt.isV (.pointer (some ⟨s2b,s2o + p,none⟩)),Txt.isV (.int .i64 (x:Int)),Txt.isV (.slice (some ⟨wb0,wo,none⟩) L.length xc),Txt.isV (.int .i64 (p:Int)),Txt.isV (.pointer (some ⟨wb0,wo + p,none⟩)),Txt.isV (.int .i64 (x:Int)),Txt.isV (.bool false),Txt.isV (.bool false),Txt.isV (.pointer (some ⟨g19,2,none⟩)),Txt.isV (.slice (some ⟨g2b,g2o,none⟩) L.length g2c),Txt.isV (.int .i64 (p:Int)),Txt.isV (.pointer (some ⟨g2b,g2o + p * 64,none⟩)),Txt.isV (ab (G x)),Txt.isV (.slice (some ⟨g12,0,none⟩) (3 * k + 1) (3 * k + 1)),Txt.isV (.slice (some ⟨wb0,wo,none⟩) L.length xc),Txt.isV (.int .i64 (p:Int)),Txt.isV (.pointer (some ⟨wb0,wo + p,none⟩)),Txt.isV (.int .i64 (x:Int)),Txt.isV (.pointer (some ⟨g12,64 * x,none⟩)),Txt.isV (ab (G x)),Txt.isV (.bool false)] (fun _ u=>Kept [] W u) (fun _=>[]) (by kernel_rfl) (by kernel_rfl) (by simp) (by kernel_rfl) (hWd▸Kept.refl [] _) (fun _ _ _ _ h=>h) (fun _ _ _ _ _ h k=>h.a0f k) ⟨?_,?_,?_,?_,?_,?_,?_,?_,?_,?_,?_,?_,?_,?_,?_,?_,?_,?_,?_,?_,?_,?_,?_,?_,trivial⟩ ?_
       ·refine a0k (.inl rfl) fun L' ac u hL hS hr hoth=>?_
        have e0:ac.eval (.tmp 19)=(.pointer (some ⟨g19,0,none⟩)):=(hoth 19 (by decide)).trans rfl
        exact b6d rfl e0 (by kernel_rfl)
       ·refine a0k (.inl rfl) fun L' ac u hL hS hr hoth=>?_
        have e0:ac.eval (.tmp 193)=(.pointer (some ⟨g19,1,none⟩)):=hr 0 _ 193 _ rfl rfl rfl ⟨⟨0,.data⟩,by simp,rfl,rfl⟩
        exact a1s rfl (fun w=>by kernel_rfl) e0 ((CB.out u hS).cell 1)
       ·refine a0k (.inl rfl) fun L' ac u hL hS hr hoth=>?_
        have e0:ac.eval (.tmp 24)=(.int .i64 (p:Int)):=(hoth 24 (by decide)).trans rfl
        exact a6q rfl e0
       ·refine a0k (.inl rfl) fun L' ac u hL hS hr hoth=>?_
        have e0:ac.eval (.tmp 194)=(.slice (some ⟨s2b,s2o,none⟩) L.length s2c):=hr 1 _ 194 _ rfl rfl rfl ⟨⟨1,.data⟩,by simp,rfl,rfl⟩
        have e1:ac.eval (.tmp 195)=(.int .i64 (p:Int)):=hr 2 _ 195 _ rfl rfl rfl ⟨⟨2,.data⟩,by simp,rfl,rfl⟩
        exact a4h rfl e0 e1 (by have:=a5o (P:=Try.prog) (g:=s2b) (off:=s2o) (n:=L.length) (c:=s2c) (i:=p) b4k hpL.out;rw [Nat.mul_one]at this;exact this _ _)
       ·refine a0k (.inl rfl) fun L' ac u hL hS hr hoth=>?_
        have e0:ac.eval (.tmp 196)=(.pointer (some ⟨s2b,s2o + p,none⟩)):=hr 3 _ 196 _ rfl rfl rfl ⟨⟨3,.data⟩,by simp,rfl,rfl⟩
        exact a1s rfl (fun w=>by kernel_rfl) e0 (Q1.out u hS)
       ·refine a0k (.inl rfl) fun L' ac u hL hS hr hoth=>?_
        have e0:ac.eval (.tmp 21)=(.slice (some ⟨wb0,wo,none⟩) L.length xc):=(hoth 21 (by decide)).trans rfl
        exact a6q rfl e0
       ·refine a0k (.inl rfl) fun L' ac u hL hS hr hoth=>?_
        have e0:ac.eval (.tmp 24)=(.int .i64 (p:Int)):=(hoth 24 (by decide)).trans rfl
        exact a6q rfl e0
       ·refine a0k (.inl rfl) fun L' ac u hL hS hr hoth=>?_
        have e0:ac.eval (.tmp 198)=(.slice (some ⟨wb0,wo,none⟩) L.length xc):=hr 5 _ 198 _ rfl rfl rfl ⟨⟨5,.data⟩,by simp,rfl,rfl⟩
        have e1:ac.eval (.tmp 199)=(.int .i64 (p:Int)):=hr 6 _ 199 _ rfl rfl rfl ⟨⟨6,.data⟩,by simp,rfl,rfl⟩
        exact a4h rfl e0 e1 (by have:=a5o (P:=Try.prog) (g:=wb0) (off:=wo) (n:=L.length) (c:=xc) (i:=p) b4k hpL.out;rw [Nat.mul_one]at this;exact this _ _)
       ·refine a0k (.inl rfl) fun L' ac u hL hS hr hoth=>?_
        have e0:ac.eval (.tmp 200)=(.pointer (some ⟨wb0,wo + p,none⟩)):=hr 7 _ 200 _ rfl rfl rfl ⟨⟨7,.data⟩,by simp,rfl,rfl⟩
        exact a1s rfl (fun w=>by kernel_rfl) e0 (Q2.out u hS)
       ·refine a0k (.inl rfl) fun L' ac u hL hS hr hoth=>?_
        have e0:ac.eval (.tmp 197)=(.int .i64 (x:Int)):=hr 4 _ 197 _ rfl rfl rfl ⟨⟨4,.data⟩,by simp,rfl,rfl⟩
        have e1:ac.eval (.tmp 201)=(.int .i64 (x:Int)):=hr 8 _ 201 _ rfl rfl rfl ⟨⟨8,.data⟩,by simp,rfl,rfl⟩
        exact e0k rfl e0 e1
       ·refine a0k (.inl rfl) fun L' ac u hL hS hr hoth=>?_
        have e0:ac.eval (.tmp 202)=(.bool false):=hr 9 _ 202 _ rfl rfl rfl ⟨⟨9,.data⟩,by simp,rfl,rfl⟩
        exact a6q rfl e0
       ·refine a0k (.inr ⟨10,false,rfl,rfl⟩) fun L' ac u hL hS hr hoth=>?_
        have e0:ac.eval (.tmp 19)=(.pointer (some ⟨g19,0,none⟩)):=(hoth 19 (by decide)).trans rfl
        exact b6d rfl e0 (by kernel_rfl)
       ·refine a0k (.inr ⟨10,false,rfl,rfl⟩) fun L' ac u hL hS hr hoth=>?_
        have e0:ac.eval (.tmp 204)=(.pointer (some ⟨g19,2,none⟩)):=hr 11 _ 204 _ rfl rfl rfl ⟨⟨11,.data⟩,by simp,rfl,rfl⟩
        exact a1s rfl (fun w=>by kernel_rfl) e0 ((CB.out u hS).cell 2)
       ·refine a0k (.inr ⟨10,false,rfl,rfl⟩) fun L' ac u hL hS hr hoth=>?_
        have e0:ac.eval (.tmp 24)=(.int .i64 (p:Int)):=(hoth 24 (by decide)).trans rfl
        exact a6q rfl e0
       ·refine a0k (.inr ⟨10,false,rfl,rfl⟩) fun L' ac u hL hS hr hoth=>?_
        have e0:ac.eval (.tmp 205)=(.slice (some ⟨g2b,g2o,none⟩) L.length g2c):=hr 12 _ 205 _ rfl rfl rfl ⟨⟨12,.data⟩,by simp,rfl,rfl⟩
        have e1:ac.eval (.tmp 206)=(.int .i64 (p:Int)):=hr 13 _ 206 _ rfl rfl rfl ⟨⟨13,.data⟩,by simp,rfl,rfl⟩
        exact a4h rfl e0 e1 (a5o (P:=Try.prog) (g:=g2b) (off:=g2o) (n:=L.length) (c:=g2c) (i:=p) b1t hpL.out _ _)
       ·refine a0k (.inr ⟨10,false,rfl,rfl⟩) fun L' ac u hL hS hr hoth=>?_
        have e0:ac.eval (.tmp 207)=(.pointer (some ⟨g2b,g2o + p * 64,none⟩)):=hr 14 _ 207 _ rfl rfl rfl ⟨⟨14,.data⟩,by simp,rfl,rfl⟩
        exact a2s Q.a8z (.tmp 207) rfl e0 (GG.out u hS) (by simpa using hgx.out)
       ·refine a0k (.inr ⟨10,false,rfl,rfl⟩) fun L' ac u hL hS hr hoth=>?_
        have e0:ac.eval (.tmp 12)=(.slice (some ⟨g12,0,none⟩) (3 * k + 1) (3 * k + 1)):=(hoth 12 (by decide)).trans rfl
        exact a6q rfl e0
       ·refine a0k (.inr ⟨10,false,rfl,rfl⟩) fun L' ac u hL hS hr hoth=>?_
        have e0:ac.eval (.tmp 21)=(.slice (some ⟨wb0,wo,none⟩) L.length xc):=(hoth 21 (by decide)).trans rfl
        exact a6q rfl e0
       ·refine a0k (.inr ⟨10,false,rfl,rfl⟩) fun L' ac u hL hS hr hoth=>?_
        have e0:ac.eval (.tmp 24)=(.int .i64 (p:Int)):=(hoth 24 (by decide)).trans rfl
        exact a6q rfl e0
       ·refine a0k (.inr ⟨10,false,rfl,rfl⟩) fun L' ac u hL hS hr hoth=>?_
        have e0:ac.eval (.tmp 210)=(.slice (some ⟨wb0,wo,none⟩) L.length xc):=hr 17 _ 210 _ rfl rfl rfl ⟨⟨17,.data⟩,by simp,rfl,rfl⟩
        have e1:ac.eval (.tmp 211)=(.int .i64 (p:Int)):=hr 18 _ 211 _ rfl rfl rfl ⟨⟨18,.data⟩,by simp,rfl,rfl⟩
        exact a4h rfl e0 e1 (by have:=a5o (P:=Try.prog) (g:=wb0) (off:=wo) (n:=L.length) (c:=xc) (i:=p) b4k hpL.out;rw [Nat.mul_one]at this;exact this _ _)
       ·refine a0k (.inr ⟨10,false,rfl,rfl⟩) fun L' ac u hL hS hr hoth=>?_
        have e0:ac.eval (.tmp 212)=(.pointer (some ⟨wb0,wo + p,none⟩)):=hr 19 _ 212 _ rfl rfl rfl ⟨⟨19,.data⟩,by simp,rfl,rfl⟩
        exact a1s rfl (fun w=>by kernel_rfl) e0 (Q2.out u hS)
       ·refine a0k (.inr ⟨10,false,rfl,rfl⟩) fun L' ac u hL hS hr hoth=>?_
        have e0:ac.eval (.tmp 209)=(.slice (some ⟨g12,0,none⟩) (3 * k + 1) (3 * k + 1)):=hr 16 _ 209 _ rfl rfl rfl ⟨⟨16,.data⟩,by simp,rfl,rfl⟩
        have e1:ac.eval (.tmp 213)=(.int .i64 (x:Int)):=hr 20 _ 213 _ rfl rfl rfl ⟨⟨20,.data⟩,by simp,rfl,rfl⟩
        exact a4h rfl e0 e1 (a4q b1t hxn.out _ _)
       ·refine a0k (.inr ⟨10,false,rfl,rfl⟩) fun L' ac u hL hS hr hoth=>?_
        have e0:ac.eval (.tmp 214)=(.pointer (some ⟨g12,64 * x,none⟩)):=hr 21 _ 214 _ rfl rfl rfl ⟨⟨21,.data⟩,by simp,rfl,rfl⟩
        exact a2s Q.a8z (.tmp 214) rfl e0 (GX.out u hS) (by simpa using hgx.out)
       ·refine a0k (.inr ⟨10,false,rfl,rfl⟩) fun L' ac u hL hS hr hoth=>?_
        have e0:ac.eval (.tmp 208)=(ab (G x)):=hr 15 _ 208 _ rfl rfl rfl ⟨⟨15,.data⟩,by simp,rfl,rfl⟩
        have e1:ac.eval (.tmp 215)=(ab (G x)):=hr 22 _ 215 _ rfl rfl rfl ⟨⟨22,.data⟩,by simp,rfl,rfl⟩
        exact(a3j arrS9 Try.underlying5 (by kernel_rfl) (by kernel_rfl) (.tmp 208) (.tmp 215) rfl (xs:=G x) (ys:=G x) e0 e1 hgx.out hgx.out).trans (by rw [beq_self_eq_true];rfl)
       intro v wc43 kc hv
       have y0:v 0=(.pointer (some ⟨g19,1,none⟩)):=hv 0 _ rfl
       have y1:v 1=(.slice (some ⟨s2b,s2o,none⟩) L.length s2c):=hv 1 _ rfl
       have y2:v 2=(.int .i64 (p:Int)):=hv 2 _ rfl
       have y3:v 3=(.pointer (some ⟨s2b,s2o + p,none⟩)):=hv 3 _ rfl
       have y4:v 4=(.int .i64 (x:Int)):=hv 4 _ rfl
       have y5:v 5=(.slice (some ⟨wb0,wo,none⟩) L.length xc):=hv 5 _ rfl
       have y6:v 6=(.int .i64 (p:Int)):=hv 6 _ rfl
       have y7:v 7=(.pointer (some ⟨wb0,wo + p,none⟩)):=hv 7 _ rfl
       have y8:v 8=(.int .i64 (x:Int)):=hv 8 _ rfl
       have y9:v 9=(.bool false):=hv 9 _ rfl
       have y10:v 10=(.bool false):=hv 10 _ rfl
       have y11:v 11=(.pointer (some ⟨g19,2,none⟩)):=hv 11 _ rfl
       have y12:v 12=(.slice (some ⟨g2b,g2o,none⟩) L.length g2c):=hv 12 _ rfl
       have y13:v 13=(.int .i64 (p:Int)):=hv 13 _ rfl
       have y14:v 14=(.pointer (some ⟨g2b,g2o + p * 64,none⟩)):=hv 14 _ rfl
       have y15:v 15=(ab (G x)):=hv 15 _ rfl
       have y16:v 16=(.slice (some ⟨g12,0,none⟩) (3 * k + 1) (3 * k + 1)):=hv 16 _ rfl
       have y17:v 17=(.slice (some ⟨wb0,wo,none⟩) L.length xc):=hv 17 _ rfl
       have y18:v 18=(.int .i64 (p:Int)):=hv 18 _ rfl
       have y19:v 19=(.pointer (some ⟨wb0,wo + p,none⟩)):=hv 19 _ rfl
       have y20:v 20=(.int .i64 (x:Int)):=hv 20 _ rfl
       have y21:v 21=(.pointer (some ⟨g12,64 * x,none⟩)):=hv 21 _ rfl
       have y22:v 22=(ab (G x)):=hv 22 _ rfl
       have y23:v 23=(.bool false):=hv 23 _ rfl
       clear hv
       simp [Txt.a1a,List.range,List.range.loop,Act.put,y0,y1,y2,y3,y4,y5,y6,y7,y8,y9,y10,y11,y12,y13,y14,y15,y16,y17,y18,y19,y20,y21,y22,y23]
       clear y0 y1 y2 y3 y4 y5 y6 y7 y8 y9 y10 y11 y12 y13 y14 y15 y16 y17 y18 y19 y20 y21 y22 y23
       unfold Txt.a4m
       refine a3l (v:=.bool false) rfl ?_
       unfold Txt.a4m
       simp [Act.put]
       have kw:=hjd (show Kept [] we wc43 from(KL.out.a0f kd).a0f kc)
       clear kc kd CB Q1 Q2 GG GX YW OW hWd
       go_wp2_with fail
       go_roundg (L.length - (p + 1))
       case measure=>omega
       case rel=>exact⟨p + 1,by omega,by omega,by have h7:L.length≤7:=hLl7.out;show Value.int _ _=Value.int _ _;rw [IntWalk.wrap64_in _ (by omega)];rfl,kw⟩
      ·obtain rfl:p=L.length:=by omega
       replace Y:=hjd (Y.out.a0o KL.out)
       clear hp hf hlt KL
       have CN:=hjd (show Calls Try.prog 32 #[.pointer none,.int .u8 5,.slice BA body.length bc,.slice SA sh.length sc1] wr fun e w'=>Kept [] wr w'∧e= .returned (.tuple #[.agg #[.slice none 0 0,.slice none 0 0,.slice none 0 0],.int .i64 80])from d3m (sh:=sh) (body:=body) 5 (.slice BA body.length bc) (SA:=SA) (sc:=sc1) wr Y.out.bo (by have:=hbl.out;omega) Y.out.s MS.out.sl (by have:=hsl.out;omega))
       go_wp2_with (first
        | (go_at_call 32;(with_reducible refine CN.out.mono ?_);rintro e vz ⟨kz,rfl⟩
           have KZ:=hjd (Y.out.k.a0f kz)
           clear kz)
        | ((with_reducible refine a0e 25 ?_);(refine a0h (o:=⟨some 25,_,_,_,_,_⟩) rfl rfl b0b ?_);intro g25 w25 m25
           refine a0c (cs:=#[.slice none 0 0,.slice none 0 0,.slice none 0 0]) (o:=⟨none,Op.store 63 (.tmp 25) (.tmp 223),_,_,_,_⟩) b0i rfl (.tmp 25) (.tmp 223) rfl rfl rfl m25.blk rfl rfl (a6r _ _ _ _ _ _ _ _ _) ?_
           intro wd2 b25 k25
           replace KZ:=hjd (KZ.out.a0f (m25.kept.a0r k25 m25.le))
           clear m25 b25 k25))
       go_ret
       exact⟨rfl,KZ.out⟩
end Go.Proofs.Ytdbngnlpafcogaa
