/-
  The certificates' laws: two quorums meet (CertQuorums): the walk.
-/
import Derived.Test.YtdbngnlpafcogaaZqJ06
import Derived.Test.YtdbngnlpafcogaaZqCt9
set_option maxRecDepth 100000
namespace Go.Proofs.Ytdbngnlpafcogaa
open Go.RowKit Go.Mem Go.Txt
def mS(SL:Nat→List UInt8)(n:Nat)(l:List UInt8):Nat:=(a5q (b3k SL n) l n).length
theorem e2y(SL:Nat→List UInt8)(n:Nat)(l:List UInt8):mS SL n l≤n:=b9n _ _ _
set_option maxHeartbeats 6400000 in
theorem b8u{SL:Nat→List UInt8}{keys:Nat→List (List UInt8)}{XL:Nat→List UInt8→List Nat}{XG:Nat→List UInt8→List Value}{la lb:List UInt8}(f:Int)(av bv0:Value)(w:World)
 (ha:Rd w 1 av la.length (bv la)) (hb:Rd w 1 bv0 lb.length (bv lb)) (hSL:∀i,(SL i).length=64)
 (c1:∀u,Calls Try.prog 30 #[] u fun e w'=>e= .returned (.bool true)∧Kept [] u w')
 (co:∀(k:Nat) u,k≤2→Calls Try.prog 31 #[.int .i64 (k:Int)] u fun e w'=>∃r b kv sv,e= .returned (.tuple #[.pointer (some ⟨r,0,none⟩),sv])∧RgJ r b kv (keys (3 * k + 1)) w'∧Rd w' 32 sv (3 * k + 1) ((a4q (3 * k + 1)).flatMap bv)∧Kept [] u w'∧u.heap.size≤b)
 (cs:∀(i:Nat) u,Calls Try.prog 17 #[ab (a2t i),.int .u8 4,.slice none 0 0] u fun e w'=>e= .returned (ab (SL i))∧Kept [] u w')
 (csm:∀n l u x y,n≤7→Rd u 65 x n ((b3k SL n).flatMap shC)→Rd u 1 y l.length (bv l)→Calls Try.prog 33 #[x,y] u fun e w'=>∃A c,e= .returned (.slice A (mS SL n l) c)∧Rd w' 65 (.slice A (mS SL n l) c) (mS SL n l) ((a5q (b3k SL n) l n).flatMap shC)∧Kept [] u w')
 (cmN:∀(k:Nat) r b kv u l A c,k≤2→mS SL (3 * k + 1) l < 2 * k + 1→RgJ r b kv (keys (3 * k + 1)) u→Rd u 65 (.slice A (mS SL (3 * k + 1) l) c) (mS SL (3 * k + 1) l) ((a5q (b3k SL (3 * k + 1)) l (3 * k + 1)).flatMap shC)→Calls Try.prog 32 #[.pointer (some ⟨r,0,none⟩),.int .u8 4,.slice none 0 0,.slice A (mS SL (3 * k + 1) l) c] u fun e w'=>e= .returned (.tuple #[.agg #[.slice none 0 0,.slice none 0 0,.slice none 0 0],.int .i64 80])∧RgJ r b kv (keys (3 * k + 1)) w'∧Kept [b] u w')
 (cmY:∀(k:Nat) r b kv u l A c,k≤2→2 * k + 1≤mS SL (3 * k + 1) l→RgJ r b kv (keys (3 * k + 1)) u→Rd u 65 (.slice A (mS SL (3 * k + 1) l) c) (mS SL (3 * k + 1) l) ((a5q (b3k SL (3 * k + 1)) l (3 * k + 1)).flatMap shC)→Calls Try.prog 32 #[.pointer (some ⟨r,0,none⟩),.int .u8 4,.slice none 0 0,.slice A (mS SL (3 * k + 1) l) c] u fun e w'=>∃BA bc SA sc GA gc,e= .returned (.tuple #[.agg #[.slice BA 0 bc,.slice SA (2 * k + 1) sc,.slice GA (2 * k + 1) gc],.int .i64 0])∧RgJ r b kv (keys (3 * k + 1)) w'∧Kept [b] u w'∧a2a [] (.slice BA 0 bc) w'∧Rd w' 1 (.slice SA (2 * k + 1) sc) (2 * k + 1) (iv ((XL k l).map fun(i:Nat)=>(i:Int)))∧Rd w' 64 (.slice GA (2 * k + 1) gc) (2 * k + 1) (XG k l))
 (cc:∀(k:Nat) r b kv u l BA bc SA sc GA gc,k≤2→2 * k + 1≤mS SL (3 * k + 1) l→RgJ r b kv (keys (3 * k + 1)) u→a2a [] (.slice BA 0 bc) u→Rd u 1 (.slice SA (2 * k + 1) sc) (2 * k + 1) (iv ((XL k l).map fun(i:Nat)=>(i:Int)))→Rd u 64 (.slice GA (2 * k + 1) gc) (2 * k + 1) (XG k l)→Calls Try.prog 34 #[.pointer (some ⟨r,0,none⟩),.int .u8 4,.agg #[.slice BA 0 bc,.slice SA (2 * k + 1) sc,.slice GA (2 * k + 1) gc]] u fun e w'=>e= .returned (.int .i64 0)∧RgJ r b kv (keys (3 * k + 1)) w'∧Kept [b] u w')
 (hXl:∀(k:Nat) l,k≤2→2 * k + 1≤mS SL (3 * k + 1) l→(XL k l).length=2 * k + 1)
 (hmeet:∀(k:Nat) l1 l2,k≤2→2 * k + 1≤mS SL (3 * k + 1) l1→2 * k + 1≤mS SL (3 * k + 1) l2→k + 1≤a9s (XL k l1) (XL k l2) (2 * k + 1)) :
 Calls Try.prog 7 #[.int .i64 f,av,bv0] w fun e w'=>e= .returned (.bool true)∧Kept [] w w':=by
 obtain⟨k,hk,hk2⟩:=d5p f
 replace ha:=hjd ha
 replace hb:=hjd hb
 have haS:=ha.out
 obtain⟨LA,lac,rfl,e1⟩:=haS
 have hbS:=hb.out
 obtain⟨LB,lbc,rfl,e2⟩:=hbS
 clear e1 e2
 replace hSL:=hjd hSL
 replace c1:=hjd c1
 replace co:=hjd co
 replace cs:=hjd cs
 replace csm:=hjd csm
 replace cmN:=hjd cmN
 replace cmY:=hjd cmY
 replace cc:=hjd cc
 replace hXl:=hjd hXl
 replace hmeet:=hjd hmeet
 have hks:=hjd (show k≤2 by omega)
 have hn7:=hjd (show 3 * k + 1≤7 by omega)
 go_enter Try.func7,Try.ntmps7
 go_upto_region 4 with(first
  | (go_at_call 30;(with_reducible refine(c1.out _).mono ?_);rintro e v21 ⟨rfl,K⟩;replace K:=hjd K))
 rw [hk]
 go_wp2_with (first
  | (go_at_call 31;(with_reducible refine(co.out k _ hks.out).mono ?_);rintro e u1 ⟨r,b,kv,sdv,rfl,J,S,K1,L⟩
     have hB:=hjd (show∀q∈[b],w.heap.size≤q by simpa using Nat.le_trans K.out.size L)
     replace ha:=hjd ((ha.out.a0k K.out).a0k K1)
     replace hb:=hjd ((hb.out.a0k K.out).a0k K1)
     replace K:=hjd (K.out.a0f K1)
     obtain⟨sb,so,sc,rfl,e2,e3⟩:=S.at_ (by omega)
     clear e2 e3 L K1
     replace S:=hjd S
     replace J:=hjd J))
 go_loopg [10,35] (3 * k + 1) (fun f' x10 x35 wk=>∃j:Nat,j≤3 * k + 1∧f' + j=3 * k + 1∧x35= .int .i64 (j:Int)∧Hid (Ow wk 60 65 x10 j ((b3k SL j).flatMap shC)∧∀q,x10.ownBlock=some q→u1.heap.size≤q)∧Hid (Kept [] u1 wk))
 case atStart=>exact⟨0,by omega,by omega,rfl,hjd ⟨Ow.nil _ _ _,fun q h=>by cases h⟩,hjd (Kept.refl _ _)⟩
 case round=>
  obtain⟨j,hj,hf,rfl,hO,KL⟩:=hrel
  by_cases hlt:j < 3 * k + 1
  ·have O:=hjd hO.out.1
   have OF:=hjd hO.out.2
   clear hO
   have hO1:=O.out
   obtain⟨XA,xc,rfl,e1⟩:=hO1.shape
   clear hO1 e1
   have sbu:=hjd (c3q (n:=(j:Int)) (hSL.out j))
   go_wp2_with (first
    | ((with_reducible refine a0e 38 ?_);refine a1n (o:=⟨some 38,_,_,_,_,_⟩) a6l rfl (.tmp 33) (.tmp 35) rfl rfl rfl hlt ?_)
    | ((with_reducible refine a0e 39 ?_);refine a0x (o:=⟨some 39,_,_,_,_,_⟩) (cs:=bv (a2t j)) a2h.row rfl (.tmp 38) rfl rfl (b4j S.out KL.out hlt) (by simpa using a2y j) ?_)
    | ((with_reducible refine a0e 12 ?_);(refine a0h (o:=⟨some 12,_,_,_,_,_⟩) rfl rfl a6q ?_);intro g12 w12 m12)
    | ((with_reducible refine a4h (.tmp 12) (.tmp 39) ?_);refine a0c (cs:=(bv (a2t j)).toArray) (o:=⟨none,Op.store 26 (.tmp 12) (.tmp 39),_,_,_,_⟩) a2h.row rfl (.tmp 12) (.tmp 39) rfl rfl rfl m12.blk (by rfl) (by simpa using a2y j) (a3q _) ?_
       intro wb12 b12 k12
       have B12:=hjd b12
       have K12:=m12.kept.a0q k12 m12.le
       replace O:=hjd (O.out.a0k K12)
       replace KL:=hjd (KL.out.a0f K12)
       clear m12 b12 k12 K12)
    | ((with_reducible refine a0e 42 ?_);refine a0d (cs:=(bv (a2t j)).toArray) (o:=⟨some 42,_,_,_,_,_⟩) a2h.row rfl (.tmp 12) rfl rfl B12.out (by simpa using a2y j) ?_)
    | (go_at_call 17;(with_reducible refine(cs.out j _).mono ?_);rintro e v43 ⟨rfl,kk⟩
       replace O:=hjd (O.out.a0k kk)
       replace KL:=hjd (KL.out.a0f kk)
       clear kk B12)
    | ((with_reducible refine a0e 44 ?_);refine a6v (v:=.int .i64 (j:Int)) (u:=ab (SL j)) (cs:=(shC ((j:Int),SL j)).toArray) rfl 0 1 (.tmp 41) (.tmp 43) rfl rfl rfl sbu.out ?_)
    | ((with_reducible refine a0e 45 ?_);(refine a1r (o:=⟨some 45,_,_,_,_,_⟩) (v0:=.agg (shC ((j:Int),SL j)).toArray) (cells:=(shC ((j:Int),SL j)).toArray) rfl a6u rfl rfl (by decide) rfl (by rw [List.size_toArray];exact a3s (hSL.out j)) ?_);intro g45 w45 m45
       have R45:=hjd (b1f m45.blk (a3s (hSL.out j)))
       replace O:=hjd (O.out.a0k m45.kept)
       replace KL:=hjd (KL.out.a0f m45.kept)
       clear m45)
    | (at_builtin;refine a3g a6u rfl (.tmp 40) (.tmp 45) rfl rfl (xs:=(b3k SL j).flatMap shC) (n:=j) (m:=1) (news:=shC ((j:Int),SL j)) O.out rfl R45.out (b2d _) (by omega) (by omega) ?_
       intro x46 w46 o46 k46 b46
       have O2:=hjd (show Ow w46 60 65 x46 (j + 1) ((b3k SL (j + 1)).flatMap shC)from by rw [all_succ];simpa using o46)
       have K2:=hjd (KL.out.fresh k46 (fun q hq=>OF.out q (Option.mem_toList.1 hq)))
       have F2:=hjd (b0y OF.out KL.out.size (d4c b46))
       clear o46 k46 b46 R45))
   go_roundg (3 * k + 1 - (j + 1))
   case measure=>omega
   case rel=>exact⟨j + 1,by omega,by omega,by go_num,hjd ⟨O2.out,F2.out⟩,K2⟩
  ·obtain rfl:j=3 * k + 1:=by omega
   have R:=hjd (Rd.a6m hO.out.1)
   have hO1:=hO.out.1
   obtain⟨XA,xc,rfl,e1⟩:=hO1.shape
   clear hO1 e1 hO hf hj hlt
   replace J:=hjd (RgJ.far J.out (by simp) J.out KL.out)
   replace ha:=hjd (ha.out.a0k KL.out)
   replace hb:=hjd (hb.out.a0k KL.out)
   replace K:=hjd (K.out.a0f KL.out)
   have hma:=hjd (e2y SL (3 * k + 1) la)
   have hmb:=hjd (e2y SL (3 * k + 1) lb)
   clear KL S
   by_cases hxa:mS SL (3 * k + 1) la < 2 * k + 1
   ·have tx:((mS SL (3 * k + 1) la:Nat):Int) < 2 * (k:Int) + 1:=by omega
    have hxm:=hjd (show mS SL (3 * k + 1) la < 2 * k + 1 by omega)
    by_cases hyb:mS SL (3 * k + 1) lb < 2 * k + 1
    ·have ty:((mS SL (3 * k + 1) lb:Nat):Int) < 2 * (k:Int) + 1:=by omega
     have hym:=hjd (show mS SL (3 * k + 1) lb < 2 * k + 1 by omega)
     go_upto_region 12 with(first
      | (go_at_call 33;(with_reducible refine(csm.out _ la _ _ _ hn7.out R.out ha.out).mono ?_);rintro e vs ⟨A,c,rfl,hs,kk⟩
         replace K:=hjd (K.out.a0f kk);replace J:=hjd (RgJ.far J.out (by simp) J.out kk);replace ha:=hjd (ha.out.a0k kk);replace hb:=hjd (hb.out.a0k kk);replace R:=hjd (R.out.a0k kk)
         skip
         have RS:=hjd hs
         clear hs kk)
      | (go_at_call 32;(with_reducible refine(cmN.out _ _ _ _ _ la _ _ hks.out hxm.out J.out RS.out).mono ?_);rintro e vm ⟨rfl,J2,k2⟩
         skip
         replace K:=hjd (K.out.fresh k2 hB.out);replace ha:=hjd (RgJ.rd (by decide) J.out k2 ha.out);replace hb:=hjd (RgJ.rd (by decide) J.out k2 hb.out);replace R:=hjd (RgJ.rd (by decide) J.out k2 R.out)
         replace J:=hjd J2
         clear J2 k2 RS)
      | ((with_reducible refine a0e 13 ?_);(refine a0h (o:=⟨some 13,_,_,_,_,_⟩) rfl rfl a4m ?_);intro gx wx mx
         refine a0c (cs:=#[.slice none 0 0,.slice none 0 0,.slice none 0 0]) (o:=⟨none,Op.store 63 (.tmp 13) (.tmp 54),_,_,_,_⟩) a4s rfl (.tmp 13) (.tmp 54) rfl rfl rfl mx.blk rfl rfl (a3w _ _ _ _ _ _ _ _ _) ?_
         intro wbx bbx kbx
         have KK:=mx.kept.a0q kbx mx.le
         have Nx:=hjd (show gx∉[b]from fun h=>by
          obtain⟨D,hD⟩:=J.out
          have h1:=hD.blt
          have h2:=mx.le
          rw [List.mem_singleton.1 h]at h2
          omega)
         have Cx:=hjd bbx
         replace K:=hjd (K.out.a0f KK);replace J:=hjd (RgJ.far J.out (by simp) J.out KK);replace ha:=hjd (ha.out.a0k KK);replace hb:=hjd (hb.out.a0k KK);replace R:=hjd (R.out.a0k KK)
         skip
         clear mx bbx kbx KK))
     go_upto_region 13 with(first
      | (go_at_call 33;(with_reducible refine(csm.out _ lb _ _ _ hn7.out R.out hb.out).mono ?_);rintro e vs ⟨A,c,rfl,hs,kk⟩
         replace K:=hjd (K.out.a0f kk);replace J:=hjd (RgJ.far J.out (by simp) J.out kk);replace ha:=hjd (ha.out.a0k kk);replace hb:=hjd (hb.out.a0k kk);replace R:=hjd (R.out.a0k kk)
         replace Cx:=hjd (Cx.out.kept kk (by simp))
         have RS:=hjd hs
         clear hs kk)
      | (go_at_call 32;(with_reducible refine(cmN.out _ _ _ _ _ lb _ _ hks.out hym.out J.out RS.out).mono ?_);rintro e vm ⟨rfl,J2,k2⟩
         replace Cx:=hjd (Cx.out.kept k2 Nx.out)
         replace K:=hjd (K.out.fresh k2 hB.out);replace ha:=hjd (RgJ.rd (by decide) J.out k2 ha.out);replace hb:=hjd (RgJ.rd (by decide) J.out k2 hb.out);replace R:=hjd (RgJ.rd (by decide) J.out k2 R.out)
         replace J:=hjd J2
         clear J2 k2 RS)
      | ((with_reducible refine a0e 15 ?_);(refine a0h (o:=⟨some 15,_,_,_,_,_⟩) rfl rfl a4m ?_);intro gy wy my
         refine a0c (cs:=#[.slice none 0 0,.slice none 0 0,.slice none 0 0]) (o:=⟨none,Op.store 63 (.tmp 15) (.tmp 62),_,_,_,_⟩) a4s rfl (.tmp 15) (.tmp 62) rfl rfl rfl my.blk rfl rfl (a3w _ _ _ _ _ _ _ _ _) ?_
         intro wby bby kby
         have KK:=my.kept.a0q kby my.le
         have Ny:=hjd (show gy∉[b]from fun h=>by
          obtain⟨D,hD⟩:=J.out
          have h1:=hD.blt
          have h2:=my.le
          rw [List.mem_singleton.1 h]at h2
          omega)
         have Cy:=hjd bby
         replace K:=hjd (K.out.a0f KK);replace J:=hjd (RgJ.far J.out (by simp) J.out KK);replace ha:=hjd (ha.out.a0k KK);replace hb:=hjd (hb.out.a0k KK);replace R:=hjd (R.out.a0k KK)
         replace Cx:=hjd (Cx.out.kept KK (by simp))
         clear my bby kby KK))
     go_wp2_with (first
      | (go_at_call 33;(with_reducible refine(csm.out _ la _ _ _ hn7.out R.out ha.out).mono ?_);rintro e vs ⟨A,c,rfl,hs,kk⟩
         replace K:=hjd (K.out.a0f kk);replace J:=hjd (RgJ.far J.out (by simp) J.out kk);replace ha:=hjd (ha.out.a0k kk);replace hb:=hjd (hb.out.a0k kk);replace R:=hjd (R.out.a0k kk)
         skip
         have RS:=hjd hs
         clear hs kk)
      | (go_at_call 33;(with_reducible refine(csm.out _ lb _ _ _ hn7.out R.out hb.out).mono ?_);rintro e vs ⟨A,c,rfl,hs,kk⟩
         replace K:=hjd (K.out.a0f kk);replace J:=hjd (RgJ.far J.out (by simp) J.out kk);replace ha:=hjd (ha.out.a0k kk);replace hb:=hjd (hb.out.a0k kk);replace R:=hjd (R.out.a0k kk)
         skip
         have RS:=hjd hs
         clear hs kk))
     go_ret
     exact⟨by first | rfl | (show Ending.returned (Value.bool _)=Ending.returned (Value.bool true);congr 2;simp;omega),K.out⟩
    ·have ty:¬((mS SL (3 * k + 1) lb:Nat):Int) < 2 * (k:Int) + 1:=by omega
     have hym:=hjd (show 2 * k + 1≤mS SL (3 * k + 1) lb by omega)
     go_upto_region 12 with(first
      | (go_at_call 33;(with_reducible refine(csm.out _ la _ _ _ hn7.out R.out ha.out).mono ?_);rintro e vs ⟨A,c,rfl,hs,kk⟩
         replace K:=hjd (K.out.a0f kk);replace J:=hjd (RgJ.far J.out (by simp) J.out kk);replace ha:=hjd (ha.out.a0k kk);replace hb:=hjd (hb.out.a0k kk);replace R:=hjd (R.out.a0k kk)
         skip
         have RS:=hjd hs
         clear hs kk)
      | (go_at_call 32;(with_reducible refine(cmN.out _ _ _ _ _ la _ _ hks.out hxm.out J.out RS.out).mono ?_);rintro e vm ⟨rfl,J2,k2⟩
         skip
         replace K:=hjd (K.out.fresh k2 hB.out);replace ha:=hjd (RgJ.rd (by decide) J.out k2 ha.out);replace hb:=hjd (RgJ.rd (by decide) J.out k2 hb.out);replace R:=hjd (RgJ.rd (by decide) J.out k2 R.out)
         replace J:=hjd J2
         clear J2 k2 RS)
      | ((with_reducible refine a0e 13 ?_);(refine a0h (o:=⟨some 13,_,_,_,_,_⟩) rfl rfl a4m ?_);intro gx wx mx
         refine a0c (cs:=#[.slice none 0 0,.slice none 0 0,.slice none 0 0]) (o:=⟨none,Op.store 63 (.tmp 13) (.tmp 54),_,_,_,_⟩) a4s rfl (.tmp 13) (.tmp 54) rfl rfl rfl mx.blk rfl rfl (a3w _ _ _ _ _ _ _ _ _) ?_
         intro wbx bbx kbx
         have KK:=mx.kept.a0q kbx mx.le
         have Nx:=hjd (show gx∉[b]from fun h=>by
          obtain⟨D,hD⟩:=J.out
          have h1:=hD.blt
          have h2:=mx.le
          rw [List.mem_singleton.1 h]at h2
          omega)
         have Cx:=hjd bbx
         replace K:=hjd (K.out.a0f KK);replace J:=hjd (RgJ.far J.out (by simp) J.out KK);replace ha:=hjd (ha.out.a0k KK);replace hb:=hjd (hb.out.a0k KK);replace R:=hjd (R.out.a0k KK)
         skip
         clear mx bbx kbx KK))
     go_upto_region 13 with(first
      | (go_at_call 33;(with_reducible refine(csm.out _ lb _ _ _ hn7.out R.out hb.out).mono ?_);rintro e vs ⟨A,c,rfl,hs,kk⟩
         replace K:=hjd (K.out.a0f kk);replace J:=hjd (RgJ.far J.out (by simp) J.out kk);replace ha:=hjd (ha.out.a0k kk);replace hb:=hjd (hb.out.a0k kk);replace R:=hjd (R.out.a0k kk)
         replace Cx:=hjd (Cx.out.kept kk (by simp))
         have RS:=hjd hs
         clear hs kk)
      | (go_at_call 32;(with_reducible refine(cmY.out _ _ _ _ _ lb _ _ hks.out hym.out J.out RS.out).mono ?_);rintro e vm ⟨By,byc,Sy,syc,Gy,gyc,rfl,J2,k2,hb2,hs2,hg2⟩
         replace Cx:=hjd (Cx.out.kept k2 Nx.out)
         replace K:=hjd (K.out.fresh k2 hB.out);replace ha:=hjd (RgJ.rd (by decide) J.out k2 ha.out);replace hb:=hjd (RgJ.rd (by decide) J.out k2 hb.out);replace R:=hjd (RgJ.rd (by decide) J.out k2 R.out)
         replace J:=hjd J2
         have Hyb:=hjd hb2;have Hys:=hjd hs2;have Hyg:=hjd hg2
         clear J2 k2 hb2 hs2 hg2 RS)
      | ((with_reducible refine a0e 15 ?_);(refine a0h (o:=⟨some 15,_,_,_,_,_⟩) rfl rfl a4m ?_);intro gy wy my
         refine a0c (cs:=#[.slice By 0 byc,.slice Sy (2 * k + 1) syc,.slice Gy (2 * k + 1) gyc]) (o:=⟨none,Op.store 63 (.tmp 15) (.tmp 62),_,_,_,_⟩) a4s rfl (.tmp 15) (.tmp 62) rfl rfl rfl my.blk rfl rfl (a3w _ _ _ _ _ _ _ _ _) ?_
         intro wby bby kby
         have KK:=my.kept.a0q kby my.le
         have Ny:=hjd (show gy∉[b]from fun h=>by
          obtain⟨D,hD⟩:=J.out
          have h1:=hD.blt
          have h2:=my.le
          rw [List.mem_singleton.1 h]at h2
          omega)
         have Cy:=hjd bby
         replace K:=hjd (K.out.a0f KK);replace J:=hjd (RgJ.far J.out (by simp) J.out KK);replace ha:=hjd (ha.out.a0k KK);replace hb:=hjd (hb.out.a0k KK);replace R:=hjd (R.out.a0k KK)
         replace Hyb:=hjd (a2a.a0k Hyb.out KK);replace Hys:=hjd (Hys.out.a0k KK);replace Hyg:=hjd (Hyg.out.a0k KK);replace Cx:=hjd (Cx.out.kept KK (by simp))
         clear my bby kby KK))
     go_wp2_with (first
      | (go_at_call 33;(with_reducible refine(csm.out _ la _ _ _ hn7.out R.out ha.out).mono ?_);rintro e vs ⟨A,c,rfl,hs,kk⟩
         replace K:=hjd (K.out.a0f kk);replace J:=hjd (RgJ.far J.out (by simp) J.out kk);replace ha:=hjd (ha.out.a0k kk);replace hb:=hjd (hb.out.a0k kk);replace R:=hjd (R.out.a0k kk)
         skip
         have RS:=hjd hs
         clear hs kk)
      | (go_at_call 33;(with_reducible refine(csm.out _ lb _ _ _ hn7.out R.out hb.out).mono ?_);rintro e vs ⟨A,c,rfl,hs,kk⟩
         replace K:=hjd (K.out.a0f kk);replace J:=hjd (RgJ.far J.out (by simp) J.out kk);replace ha:=hjd (ha.out.a0k kk);replace hb:=hjd (hb.out.a0k kk);replace R:=hjd (R.out.a0k kk)
         skip
         have RS:=hjd hs
         clear hs kk))
     go_ret
     exact⟨by first | rfl | (show Ending.returned (Value.bool _)=Ending.returned (Value.bool true);congr 2;simp;omega),K.out⟩
   ·have tx:¬((mS SL (3 * k + 1) la:Nat):Int) < 2 * (k:Int) + 1:=by omega
    have hxm:=hjd (show 2 * k + 1≤mS SL (3 * k + 1) la by omega)
    by_cases hyb:mS SL (3 * k + 1) lb < 2 * k + 1
    ·have ty:((mS SL (3 * k + 1) lb:Nat):Int) < 2 * (k:Int) + 1:=by omega
     have hym:=hjd (show mS SL (3 * k + 1) lb < 2 * k + 1 by omega)
     go_upto_region 12 with(first
      | (go_at_call 33;(with_reducible refine(csm.out _ la _ _ _ hn7.out R.out ha.out).mono ?_);rintro e vs ⟨A,c,rfl,hs,kk⟩
         replace K:=hjd (K.out.a0f kk);replace J:=hjd (RgJ.far J.out (by simp) J.out kk);replace ha:=hjd (ha.out.a0k kk);replace hb:=hjd (hb.out.a0k kk);replace R:=hjd (R.out.a0k kk)
         skip
         have RS:=hjd hs
         clear hs kk)
      | (go_at_call 32;(with_reducible refine(cmY.out _ _ _ _ _ la _ _ hks.out hxm.out J.out RS.out).mono ?_);rintro e vm ⟨Bx,bxc,Sx,sxc,Gx,gxc,rfl,J2,k2,hb2,hs2,hg2⟩
         skip
         replace K:=hjd (K.out.fresh k2 hB.out);replace ha:=hjd (RgJ.rd (by decide) J.out k2 ha.out);replace hb:=hjd (RgJ.rd (by decide) J.out k2 hb.out);replace R:=hjd (RgJ.rd (by decide) J.out k2 R.out)
         replace J:=hjd J2
         have Hxb:=hjd hb2;have Hxs:=hjd hs2;have Hxg:=hjd hg2
         clear J2 k2 hb2 hs2 hg2 RS)
      | ((with_reducible refine a0e 13 ?_);(refine a0h (o:=⟨some 13,_,_,_,_,_⟩) rfl rfl a4m ?_);intro gx wx mx
         refine a0c (cs:=#[.slice Bx 0 bxc,.slice Sx (2 * k + 1) sxc,.slice Gx (2 * k + 1) gxc]) (o:=⟨none,Op.store 63 (.tmp 13) (.tmp 54),_,_,_,_⟩) a4s rfl (.tmp 13) (.tmp 54) rfl rfl rfl mx.blk rfl rfl (a3w _ _ _ _ _ _ _ _ _) ?_
         intro wbx bbx kbx
         have KK:=mx.kept.a0q kbx mx.le
         have Nx:=hjd (show gx∉[b]from fun h=>by
          obtain⟨D,hD⟩:=J.out
          have h1:=hD.blt
          have h2:=mx.le
          rw [List.mem_singleton.1 h]at h2
          omega)
         have Cx:=hjd bbx
         replace K:=hjd (K.out.a0f KK);replace J:=hjd (RgJ.far J.out (by simp) J.out KK);replace ha:=hjd (ha.out.a0k KK);replace hb:=hjd (hb.out.a0k KK);replace R:=hjd (R.out.a0k KK)
         replace Hxb:=hjd (a2a.a0k Hxb.out KK);replace Hxs:=hjd (Hxs.out.a0k KK);replace Hxg:=hjd (Hxg.out.a0k KK)
         clear mx bbx kbx KK))
     go_upto_region 13 with(first
      | (go_at_call 33;(with_reducible refine(csm.out _ lb _ _ _ hn7.out R.out hb.out).mono ?_);rintro e vs ⟨A,c,rfl,hs,kk⟩
         replace K:=hjd (K.out.a0f kk);replace J:=hjd (RgJ.far J.out (by simp) J.out kk);replace ha:=hjd (ha.out.a0k kk);replace hb:=hjd (hb.out.a0k kk);replace R:=hjd (R.out.a0k kk)
         replace Hxb:=hjd (a2a.a0k Hxb.out kk);replace Hxs:=hjd (Hxs.out.a0k kk);replace Hxg:=hjd (Hxg.out.a0k kk);replace Cx:=hjd (Cx.out.kept kk (by simp))
         have RS:=hjd hs
         clear hs kk)
      | (go_at_call 32;(with_reducible refine(cmN.out _ _ _ _ _ lb _ _ hks.out hym.out J.out RS.out).mono ?_);rintro e vm ⟨rfl,J2,k2⟩
         replace Hxb:=hjd (show a2a [] (.slice Bx 0 bxc) _ from RgJ.rd (by decide) J.out k2 Hxb.out);replace Hxs:=hjd (RgJ.rd (by decide) J.out k2 Hxs.out);replace Hxg:=hjd (RgJ.rd (by decide) J.out k2 Hxg.out);replace Cx:=hjd (Cx.out.kept k2 Nx.out)
         replace K:=hjd (K.out.fresh k2 hB.out);replace ha:=hjd (RgJ.rd (by decide) J.out k2 ha.out);replace hb:=hjd (RgJ.rd (by decide) J.out k2 hb.out);replace R:=hjd (RgJ.rd (by decide) J.out k2 R.out)
         replace J:=hjd J2
         clear J2 k2 RS)
      | ((with_reducible refine a0e 15 ?_);(refine a0h (o:=⟨some 15,_,_,_,_,_⟩) rfl rfl a4m ?_);intro gy wy my
         refine a0c (cs:=#[.slice none 0 0,.slice none 0 0,.slice none 0 0]) (o:=⟨none,Op.store 63 (.tmp 15) (.tmp 62),_,_,_,_⟩) a4s rfl (.tmp 15) (.tmp 62) rfl rfl rfl my.blk rfl rfl (a3w _ _ _ _ _ _ _ _ _) ?_
         intro wby bby kby
         have KK:=my.kept.a0q kby my.le
         have Ny:=hjd (show gy∉[b]from fun h=>by
          obtain⟨D,hD⟩:=J.out
          have h1:=hD.blt
          have h2:=my.le
          rw [List.mem_singleton.1 h]at h2
          omega)
         have Cy:=hjd bby
         replace K:=hjd (K.out.a0f KK);replace J:=hjd (RgJ.far J.out (by simp) J.out KK);replace ha:=hjd (ha.out.a0k KK);replace hb:=hjd (hb.out.a0k KK);replace R:=hjd (R.out.a0k KK)
         replace Hxb:=hjd (a2a.a0k Hxb.out KK);replace Hxs:=hjd (Hxs.out.a0k KK);replace Hxg:=hjd (Hxg.out.a0k KK);replace Cx:=hjd (Cx.out.kept KK (by simp))
         clear my bby kby KK))
     go_wp2_with (first
      | (go_at_call 33;(with_reducible refine(csm.out _ la _ _ _ hn7.out R.out ha.out).mono ?_);rintro e vs ⟨A,c,rfl,hs,kk⟩
         replace K:=hjd (K.out.a0f kk);replace J:=hjd (RgJ.far J.out (by simp) J.out kk);replace ha:=hjd (ha.out.a0k kk);replace hb:=hjd (hb.out.a0k kk);replace R:=hjd (R.out.a0k kk)
         skip
         have RS:=hjd hs
         clear hs kk)
      | (go_at_call 33;(with_reducible refine(csm.out _ lb _ _ _ hn7.out R.out hb.out).mono ?_);rintro e vs ⟨A,c,rfl,hs,kk⟩
         replace K:=hjd (K.out.a0f kk);replace J:=hjd (RgJ.far J.out (by simp) J.out kk);replace ha:=hjd (ha.out.a0k kk);replace hb:=hjd (hb.out.a0k kk);replace R:=hjd (R.out.a0k kk)
         skip
         have RS:=hjd hs
         clear hs kk))
     go_ret
     exact⟨by first | rfl | (show Ending.returned (Value.bool _)=Ending.returned (Value.bool true);congr 2;simp;omega),K.out⟩
    ·have ty:¬((mS SL (3 * k + 1) lb:Nat):Int) < 2 * (k:Int) + 1:=by omega
     have hym:=hjd (show 2 * k + 1≤mS SL (3 * k + 1) lb by omega)
     go_upto_region 12 with(first
      | (go_at_call 33;(with_reducible refine(csm.out _ la _ _ _ hn7.out R.out ha.out).mono ?_);rintro e vs ⟨A,c,rfl,hs,kk⟩
         replace K:=hjd (K.out.a0f kk);replace J:=hjd (RgJ.far J.out (by simp) J.out kk);replace ha:=hjd (ha.out.a0k kk);replace hb:=hjd (hb.out.a0k kk);replace R:=hjd (R.out.a0k kk)
         skip
         have RS:=hjd hs
         clear hs kk)
      | (go_at_call 32;(with_reducible refine(cmY.out _ _ _ _ _ la _ _ hks.out hxm.out J.out RS.out).mono ?_);rintro e vm ⟨Bx,bxc,Sx,sxc,Gx,gxc,rfl,J2,k2,hb2,hs2,hg2⟩
         skip
         replace K:=hjd (K.out.fresh k2 hB.out);replace ha:=hjd (RgJ.rd (by decide) J.out k2 ha.out);replace hb:=hjd (RgJ.rd (by decide) J.out k2 hb.out);replace R:=hjd (RgJ.rd (by decide) J.out k2 R.out)
         replace J:=hjd J2
         have Hxb:=hjd hb2;have Hxs:=hjd hs2;have Hxg:=hjd hg2
         clear J2 k2 hb2 hs2 hg2 RS)
      | ((with_reducible refine a0e 13 ?_);(refine a0h (o:=⟨some 13,_,_,_,_,_⟩) rfl rfl a4m ?_);intro gx wx mx
         refine a0c (cs:=#[.slice Bx 0 bxc,.slice Sx (2 * k + 1) sxc,.slice Gx (2 * k + 1) gxc]) (o:=⟨none,Op.store 63 (.tmp 13) (.tmp 54),_,_,_,_⟩) a4s rfl (.tmp 13) (.tmp 54) rfl rfl rfl mx.blk rfl rfl (a3w _ _ _ _ _ _ _ _ _) ?_
         intro wbx bbx kbx
         have KK:=mx.kept.a0q kbx mx.le
         have Nx:=hjd (show gx∉[b]from fun h=>by
          obtain⟨D,hD⟩:=J.out
          have h1:=hD.blt
          have h2:=mx.le
          rw [List.mem_singleton.1 h]at h2
          omega)
         have Cx:=hjd bbx
         replace K:=hjd (K.out.a0f KK);replace J:=hjd (RgJ.far J.out (by simp) J.out KK);replace ha:=hjd (ha.out.a0k KK);replace hb:=hjd (hb.out.a0k KK);replace R:=hjd (R.out.a0k KK)
         replace Hxb:=hjd (a2a.a0k Hxb.out KK);replace Hxs:=hjd (Hxs.out.a0k KK);replace Hxg:=hjd (Hxg.out.a0k KK)
         clear mx bbx kbx KK))
     go_upto_region 13 with(first
      | (go_at_call 33;(with_reducible refine(csm.out _ lb _ _ _ hn7.out R.out hb.out).mono ?_);rintro e vs ⟨A,c,rfl,hs,kk⟩
         replace K:=hjd (K.out.a0f kk);replace J:=hjd (RgJ.far J.out (by simp) J.out kk);replace ha:=hjd (ha.out.a0k kk);replace hb:=hjd (hb.out.a0k kk);replace R:=hjd (R.out.a0k kk)
         replace Hxb:=hjd (a2a.a0k Hxb.out kk);replace Hxs:=hjd (Hxs.out.a0k kk);replace Hxg:=hjd (Hxg.out.a0k kk);replace Cx:=hjd (Cx.out.kept kk (by simp))
         have RS:=hjd hs
         clear hs kk)
      | (go_at_call 32;(with_reducible refine(cmY.out _ _ _ _ _ lb _ _ hks.out hym.out J.out RS.out).mono ?_);rintro e vm ⟨By,byc,Sy,syc,Gy,gyc,rfl,J2,k2,hb2,hs2,hg2⟩
         replace Hxb:=hjd (show a2a [] (.slice Bx 0 bxc) _ from RgJ.rd (by decide) J.out k2 Hxb.out);replace Hxs:=hjd (RgJ.rd (by decide) J.out k2 Hxs.out);replace Hxg:=hjd (RgJ.rd (by decide) J.out k2 Hxg.out);replace Cx:=hjd (Cx.out.kept k2 Nx.out)
         replace K:=hjd (K.out.fresh k2 hB.out);replace ha:=hjd (RgJ.rd (by decide) J.out k2 ha.out);replace hb:=hjd (RgJ.rd (by decide) J.out k2 hb.out);replace R:=hjd (RgJ.rd (by decide) J.out k2 R.out)
         replace J:=hjd J2
         have Hyb:=hjd hb2;have Hys:=hjd hs2;have Hyg:=hjd hg2
         clear J2 k2 hb2 hs2 hg2 RS)
      | ((with_reducible refine a0e 15 ?_);(refine a0h (o:=⟨some 15,_,_,_,_,_⟩) rfl rfl a4m ?_);intro gy wy my
         refine a0c (cs:=#[.slice By 0 byc,.slice Sy (2 * k + 1) syc,.slice Gy (2 * k + 1) gyc]) (o:=⟨none,Op.store 63 (.tmp 15) (.tmp 62),_,_,_,_⟩) a4s rfl (.tmp 15) (.tmp 62) rfl rfl rfl my.blk rfl rfl (a3w _ _ _ _ _ _ _ _ _) ?_
         intro wby bby kby
         have KK:=my.kept.a0q kby my.le
         have Ny:=hjd (show gy∉[b]from fun h=>by
          obtain⟨D,hD⟩:=J.out
          have h1:=hD.blt
          have h2:=my.le
          rw [List.mem_singleton.1 h]at h2
          omega)
         have Cy:=hjd bby
         replace K:=hjd (K.out.a0f KK);replace J:=hjd (RgJ.far J.out (by simp) J.out KK);replace ha:=hjd (ha.out.a0k KK);replace hb:=hjd (hb.out.a0k KK);replace R:=hjd (R.out.a0k KK)
         replace Hxb:=hjd (a2a.a0k Hxb.out KK);replace Hxs:=hjd (Hxs.out.a0k KK);replace Hxg:=hjd (Hxg.out.a0k KK);replace Hyb:=hjd (a2a.a0k Hyb.out KK);replace Hys:=hjd (Hys.out.a0k KK);replace Hyg:=hjd (Hyg.out.a0k KK);replace Cx:=hjd (Cx.out.kept KK (by simp))
         clear my bby kby KK))
     have hXx:=hjd (hXl.out k la hks.out hxm.out)
     have hXy:=hjd (hXl.out k lb hks.out hym.out)
     have hM:=hjd (hmeet.out k la lb hks.out hxm.out hym.out)
     have hpl:=hjd (fun p=>d2j (X:=XL k la) (Y:=XL k lb) p)
     have hdl:=hjd (fun x q=>d1n (XL k lb) x q)
     generalize hXLa:XL k la=X at *
     generalize hXLb:XL k lb=Y at *
     clear tx ty
     go_wp2_with (first
      | ((with_reducible refine a0e 95 ?_);refine a0p (v:=.slice Sx (2 * k + 1) sxc) rfl (a1e rfl (fun w=>by kernel_rfl) rfl (Cx.out.cell 1)) ?_))
     go_loopg [17,97] (2 * k + 1) (fun f' x17 x97 wk=>∃p:Nat,p≤2 * k + 1∧f' + p=2 * k + 1∧x97= .int .i64 (p:Int)∧x17= .int .i64 (a9s X Y p:Int)∧wk=wby)
     case atStart=>exact⟨0,by omega,by omega,rfl,rfl,rfl⟩
     case round=>
      obtain⟨p,hp,hf,rfl,rfl,rfl⟩:=hrel
      by_cases hlt:p < 2 * k + 1
      ·obtain⟨xb,xo,xc2,e,e2,e3⟩:=Hxs.out.at_ (by omega)
       cases e
       have q0:=e3 p (.int .i64 ((X.getD p 0:Nat):Int)) (by have:=hXx.out;simp [iv,List.getD_eq_getElem?_getD,List.getElem?_eq_getElem (show p < X.length by omega)])
       clear e2 e3
       have hst:a9s X Y (p + 1)=a9s X Y p + c7j Y (X.getD p 0) Y.length:=rfl
       have hb0:=hpl.out p
       have hb1:a9s X Y p≤49:=by
        have h1:=hXy.out
        have h2:p * Y.length≤7 * 7:=Nat.mul_le_mul (by omega) (by omega)
        omega
       clear hb0
       generalize X.getD p 0=x0 at *
       replace hst:=hjd hst
       generalize a9s X Y p=P0 at *
       go_wp2_with (first
        | ((with_reducible refine a0e 99 ?_);refine a1n (o:=⟨some 99,_,_,_,_,_⟩) a5c rfl (.tmp 95) (.tmp 97) rfl rfl rfl hlt ?_)
        | ((with_reducible refine a0e 102 ?_);refine a0p (v:=.slice Sy (2 * k + 1) syc) rfl (a1e rfl (fun w=>by kernel_rfl) rfl (Cy.out.cell 1)) ?_))
       go_loopg [17,104] (2 * k + 1) (fun f' x17 x104 wk=>∃q:Nat,q≤2 * k + 1∧f' + q=2 * k + 1∧x104= .int .i64 (q:Int)∧x17= .int .i64 ((P0 + c7j Y x0 q:Nat):Int)∧wk=wr)
       case atStart=>exact⟨0,by omega,by omega,rfl,rfl,rfl⟩
       case round=>
        obtain⟨q,hq,hf2,rfl,rfl,rfl⟩:=hrel
        by_cases hlq:q < 2 * k + 1
        ·obtain⟨yb,yo,yc2,e,e2,e3⟩:=Hys.out.at_ (by omega)
         cases e
         have q1:=e3 q (.int .i64 ((Y.getD q 0:Nat):Int)) (by have:=hXy.out;simp [iv,List.getD_eq_getElem?_getD,List.getElem?_eq_getElem (show q < Y.length by omega)])
         clear e2 e3
         have hsd:c7j Y x0 (q + 1)=if x0=Y.getD q 0 then c7j Y x0 q + 1 else c7j Y x0 q:=rfl
         have hdb:c7j Y x0 q≤7:=Nat.le_trans (hdl.out x0 q) (by omega)
         generalize Y.getD q 0=y0 at *
         replace hsd:=hjd hsd
         generalize c7j Y x0 q=D0 at *
         by_cases hxy:x0=y0
         ·have hy:=hjd (hsd.out.trans (if_pos hxy))
          have hxb:((x0:Int) == (y0:Int))=true:=by simp [hxy]
          replace hxy:=hjd hxy
          go_wp2_with (first
           | ((with_reducible refine a0e 106 ?_);refine a1n (o:=⟨some 106,_,_,_,_,_⟩) a5c rfl (.tmp 102) (.tmp 104) rfl rfl rfl hlq ?_))
          go_roundg (2 * k + 1 - (q + 1))
          case measure=>omega
          case rel=>exact⟨q + 1,by omega,by omega,by go_num,by rw [hy.out];go_num,rfl⟩
         ·have hy:=hjd (hsd.out.trans (if_neg hxy))
          have hxb:((x0:Int) == (y0:Int))=false:=beq_eq_false_iff_ne.2 (by omega)
          have hxi:¬(x0:Int)=(y0:Int):=by omega
          replace hxy:=hjd hxy
          go_wp2_with (first
           | ((with_reducible refine a0e 106 ?_);refine a1n (o:=⟨some 106,_,_,_,_,_⟩) a5c rfl (.tmp 102) (.tmp 104) rfl rfl rfl hlq ?_))
          go_roundg (2 * k + 1 - (q + 1))
          case measure=>omega
          case rel=>exact⟨q + 1,by omega,by omega,by go_num,by rw [hy.out];go_num,rfl⟩
        ·obtain rfl:q=2 * k + 1:=by omega
         go_wp2_with fail
         go_roundg (2 * k + 1 - (p + 1))
         case measure=>omega
         case rel=>exact⟨p + 1,by omega,by omega,by go_num,by rw [hst.out,hXy.out],rfl⟩
      ·obtain rfl:p=2 * k + 1:=by omega
       have hMi:(k:Int) + 1≤((a9s X Y (2 * k + 1):Nat):Int):=by have:=hM.out;omega
       generalize a9s X Y (2 * k + 1)=P0 at *
       subst hXLa hXLb
       go_wp2_with (first
        | ((with_reducible refine a0e 121 ?_);refine a0d (cs:=#[.slice Bx 0 bxc,.slice Sx (2 * k + 1) sxc,.slice Gx (2 * k + 1) gxc]) (o:=⟨some 121,_,_,_,_,_⟩) a4s (by kernel_rfl) (.tmp 13) rfl rfl Cx.out rfl ?_)
        | ((with_reducible refine a0e 127 ?_);refine a0d (cs:=#[.slice By 0 byc,.slice Sy (2 * k + 1) syc,.slice Gy (2 * k + 1) gyc]) (o:=⟨some 127,_,_,_,_,_⟩) a4s (by kernel_rfl) (.tmp 15) rfl rfl Cy.out rfl ?_)
        | (go_at_call 34;(with_reducible refine(cc.out _ _ _ _ _ la _ _ _ _ _ _ hks.out hxm.out J.out Hxb.out Hxs.out Hxg.out).mono ?_);rintro e v122 ⟨rfl,J2,k2⟩
           replace K:=hjd (K.out.fresh k2 hB.out)
           replace Cy:=hjd (Cy.out.kept k2 Ny.out)
           replace Hyb:=hjd (show a2a [] (.slice By 0 byc) _ from RgJ.rd (by decide) J.out k2 Hyb.out)
           replace Hys:=hjd (RgJ.rd (by decide) J.out k2 Hys.out)
           replace Hyg:=hjd (RgJ.rd (by decide) J.out k2 Hyg.out)
           replace J:=hjd J2
           clear J2 k2 Hxb Hxs Hxg)
        | (go_at_call 34;(with_reducible refine(cc.out _ _ _ _ _ lb _ _ _ _ _ _ hks.out hym.out J.out Hyb.out Hys.out Hyg.out).mono ?_);rintro e v128 ⟨rfl,J2,k2⟩
           replace K:=hjd (K.out.fresh k2 hB.out)
           clear J2 k2))
       go_ret
       exact⟨rfl,K.out⟩
end Go.Proofs.Ytdbngnlpafcogaa
