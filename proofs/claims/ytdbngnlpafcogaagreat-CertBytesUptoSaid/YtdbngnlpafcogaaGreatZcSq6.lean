/-
  Digests: the walk of Sum512.
-/
import Derived.Test.YtdbngnlpafcogaaGreatZcJ00
set_option maxRecDepth 100000
namespace Go.Proofs.YtdbngnlpafcogaaGreat.Q
open Go.RowKit Go.Mem Go.Txt
set_option maxHeartbeats 40000000 in
theorem c4n(pv:Value)(ps:List (Value × List UInt8))(w:World)(hp:Parts w pv ps)(hn:ps.length≤9223372036854775807)(hl:(a0z ps).length≤140737488353000) :
 Calls Tryz.prog 88 #[pv] w fun e w'=>e= .returned (ab (sha (a0z ps)))∧Kept [] w w':=by
 have cp:=hjd (fun u (h:Parts u pv ps)=>b3q pv ps u h hn hl);have hsha:sha (a0z ps)=c3k (b0r (pad (a0z ps)) ((pad (a0z ps)).length / 128)):=rfl;have hpl:(pad (a0z ps)).length≤140737488354000:=by
  have:=d1v (a0z ps).length;unfold pad;simp only [List.length_append,List.length_cons,List.length_replicate,a2h];omega
 obtain⟨N,hN⟩:∃N,(pad (a0z ps)).length=128 * N:=⟨(pad (a0z ps)).length / 128,by have:=c5h (a0z ps);omega⟩;rw [show(pad (a0z ps)).length / 128=N from by omega]at hsha;rw [hsha];clear hsha;generalize hpm:pad (a0z ps)=pm at *;replace hpm:=hjd hpm;have hNs:N≤1100000000000:=by omega
 have hN':=hjd hN;have hpl':=hjd hpl;clear hN hpl;have P:=hjd hp;have cr:=hjd c0z;have ck:=hjd c2j;clear hp;go_enter Tryz.func88,Tryz.ntmps88;go_wp2_with (first
  | ((with_reducible refine a0f 2 ?_);(refine a0h (o:=⟨some 2,_,_,_,_,_⟩) rfl rfl e0h ?_);intro g2 w2 m2)
  | (go_at_call 129;(with_reducible refine(cr.out _).mono ?_);rintro e w4 ⟨rfl,k4⟩;have K4:=hjd k4;clear k4)
  | ((with_reducible refine a0f 3 ?_);(refine a0h (o:=⟨some 3,_,_,_,_,_⟩) rfl rfl w8z ?_);intro g3 w3 m3;refine a0a (cs:=(uv a6u).toArray) (o:=⟨none,Op.store 155 (.tmp 3) (.tmp 24),_,_,_,_⟩) r8R rfl (.tmp 3) (.tmp 24) rfl rfl rfl m3.blk (by kernel_rfl) rfl (d4d _) ?_;intro wb b3 k3;have B3:=hjd (show Blk wb g3 155 ((fam 8 fun i=>n64 (a6u.getD i 0)).map W64).toArray from by rw [←e6e];exact b3);have K3:=hjd (m3.kept.a0r k3 m3.le);have B2:=hjd (show Blk wb g2 32 (bv (a0m 64)).toArray from(m2.blk.kept K4.out (by simp)).kept K3.out (by simp));have KA:=hjd ((m2.kept.a0g K4.out).a0g K3.out);have L2:=hjd m2.le;have L3:=hjd (Nat.le_trans (m2.kept.a0g K4.out).size m3.le);clear m2 m3 b3 k3 K3 K4)
  | (go_at_call 130;(with_reducible refine(ck.out _).mono ?_);rintro e w5 ⟨rfl,k5⟩;replace B3:=hjd (B3.out.kept k5 (by simp));replace B2:=hjd (B2.out.kept k5 (by simp));replace KA:=hjd (KA.out.a0g k5);clear k5)
  | ((with_reducible refine a0f 4 ?_);(refine a0h (o:=⟨some 4,_,_,_,_,_⟩) rfl rfl m80z ?_);intro g4 w4' m4;refine a0a (cs:=(uv a2f).toArray) (o:=⟨none,Op.store 178 (.tmp 4) (.tmp 25),_,_,_,_⟩) c80R rfl (.tmp 4) (.tmp 25) rfl rfl rfl m4.blk (by kernel_rfl) rfl (d4d _) ?_;intro wb4 b4 k4;have kk:=m4.kept.a0r k4 m4.le;have A:=hjd (show ShA w g2 g3 g4 (fun i=>n64 (a6u.getD i 0)) wb4 from⟨B2.out.kept kk (by simp),B3.out.kept kk (by simp),b4,KA.out.a0g kk,L2.out,L3.out,Nat.le_trans KA.out.size m4.le⟩);clear m4 b4 k4 kk B2 B3 KA)
  | ((with_reducible refine a0f 5 ?_);(refine a0h (o:=⟨some 5,_,_,_,_,_⟩) rfl rfl m80z ?_);intro g5 w5' m5;have M:=hjd (show ShB w g2 g3 g4 g5 (fun i=>n64 (a6u.getD i 0)) (fun _=>0) w5' from⟨A.out.kept m5.kept,m5.blk,Nat.le_trans A.out.k.size m5.le,fun e=>by have:=A.out.b4.lt;have:=m5.le;omega⟩);have ML3:=hjd (show g3 < w5'.heap.size from M.out.A.b3.lt);have ML5:=hjd (show g5 < w5'.heap.size from M.out.b5.lt);clear m5 A)
  | (go_at_call 131;(with_reducible refine(cp.out _ (P.out.a0k M.out.A.k)).mono ?_);rintro e w8 ⟨pv2,rfl,hN⟩;replace M:=hjd (M.out.kept hN.kept);obtain⟨A8,c8,rfl,_⟩:=hN.ow.shape;have RB:=hjd (Rd.a6w hN.ow)
     have FB:=hjd (show∀b,(Value.slice A8 pm.length c8).ownBlock=some b→b≠g3∧b≠g5 from fun b hb=>by
      rcases hN.near with e | ⟨g,e,hg⟩
      ·rw [e]at hb;cases hb
      ·rw [e]at hb;cases hb
       have h3:=ML3.out;have h7:=ML5.out;omega)
     clear hN))
 have e64:=hN'.out;rw [e64]at RB FB ⊢;clear e64;go_loopg [6] N (fun fu o wk=>∃(n:Nat) (A:Option Addr) (c:Nat) (mm:Nat→B64),n≤N∧fu + n=N∧o= .slice A (128 * (N - n)) c∧Hid (Rd wk 1 (.slice A (128 * (N - n)) c) (128 * (N - n)) (bv (pm.drop (128 * n))))∧Hid (ShB w g2 g3 g4 g5 (b0r pm n) mm wk)∧Hid (0 < N - n→∀b,(Value.slice A (128 * (N - n)) c).ownBlock=some b→b≠g3∧b≠g5));case atStart=>
  exact⟨0,A8,c8,fun _=>0,by omega,by omega,rfl,by simpa using RB,M,hjd (fun _=>FB.out)⟩
 case round=>
  clear M RB FB;obtain⟨n,A,c,mm,hn8,hfu8,rfl,RB,M,FB⟩:=hrel;by_cases hlt8:n < N
  ·have hL0:0 < 128 * (N - n):=by omega
   obtain⟨b,o,c',hA,hcb,hcell⟩:=RB.out.at_ hL0
   cases hA
   have hfb:=FB.out (by omega) b rfl;have M':=hjd (show ShM w g2 g3 g4 g5 b o (b0r pm n) mm (pm.drop (128 * n)) wr from⟨M.out,hcell,hfb.1,hfb.2⟩);have hrl:=hjd (show 128≤(pm.drop (128 * n)).length from by rw [List.length_drop,hN'.out];omega);have hp:=hjd (show(fun j=>(pm.drop (128 * n)).getD j 0)=(fun j=>pm.getD (128 * n + j) 0)from by funext j;simp [List.getD_eq_getElem?_getD,List.getElem?_drop]);clear M hcell RB FB hfb;generalize hre:pm.drop (128 * n)=rest at *;replace hre:=hjd hre;obtain⟨p,hpp⟩:∃p:Nat→UInt8,p=fun j=>rest.getD j 0:=⟨_,rfl⟩
   have hpj:=hjd (show∀j,rest.getD j 0=p j from fun j=>by rw [hpp]);rw [←hpp]at hp;clear hpp;have hLn:∃L,L=128 * (N - n)∧128≤L∧L≤200000000000000:=⟨_,rfl,by omega,by omega⟩;obtain⟨L,hL,hL1,hL2⟩:=hLn;rw [←hL];replace hL:=hjd hL;clear hL0;have hLp:(0 < L)=True:=eq_true (by omega);have hLp2:((0:Int) < (L:Int))=True:=eq_true (by omega);have RL:=hjd (show∀u,(∀j v,(bv rest)[j]?=some v→u.cell? ⟨b,o + j,none⟩=some v)→Rd u 1 (.slice (some ⟨b,o,none⟩) L c) L (bv rest)from fun u hu=>⟨_,_,rfl,by rw [List.length_map,←hre.out,List.length_drop,hN'.out,hL.out];omega,by rw [hL.out];exact hcb,fun _=>⟨b,o,rfl,hu⟩⟩);go_wp2_with fail;go_loopg [33] 16 (fun fu i wk=>∃t:Nat,t≤16∧fu + t=16∧i= .int .i64 (t:Int)∧Hid (ShM w g2 g3 g4 g5 b o (b0r pm n) (mix mm (sch p) t) rest wk));case atStart=>exact⟨0,by omega,by omega,rfl,by have:=M';unfold mix;simpa using this⟩
   case round=>
    clear M';obtain⟨t,ht,hfu16,rfl,M⟩:=hrel;by_cases hlt16:t < 16
    ·as_aux_lemma=>--<
     obtain⟨X,dX,hX,rX,oX,_⟩:=c6z a1x (RL.out wr M.out.all) .i64 .i64 (8 * t) (8 * t + 8) (by omega) (by omega);have hX2:∀W,(Instr.sliceAt 23 (.slice (some ⟨b,o,none⟩) L c) (some (.int .i64 (8 * (t:Int)))) (some (.int .i64 (8 * (t:Int) + 8))) none).run Tryz.prog W= .ok (.slice X 8 dX) W:=fun W=>by
      have:=hX W;rw [Nat.add_sub_cancel_left]at this;simpa using this
     obtain⟨xb,xo,dX',hXe,_,hcx⟩:=rX.at_ (by omega);have hX8:8 * t + 8 - 8 * t=8:=by omega
     rw [hX8]at hXe hcx oX
     cases hXe
     have hxb:xb=b:=by
      have:=oX (by decide);simpa [Value.ownBlock]using this
     subst hxb
     have hcX:=hjd (show∀j,j < 8→wr.cell? ⟨xb,xo + j,none⟩=some (.int .u8 ((p (8 * t + j)).toNat:Int))from fun j hj=>by
      refine hcx j _ ?_;have hlt2:8 * t + j < rest.length:=by have:=hrl.out;omega
      rw [Nat.mul_one,Nat.mul_one,List.getElem?_take,if_pos hj,List.getElem?_drop,←hpj.out];simp [a1z,hlt2,List.getD_eq_getElem?_getD])
     clear hX rX oX hcx;have q5:=M.out.B.b5.a8v t (by omega);have f5:=M.out.B.b5.frozen t;have Mx:=hjd (M.out.sety t (fun i=>if i=t then(0:B64)else mix mm (sch p) t i) (fun i hi=>if_neg hi));simp only [if_true]at Mx;have K0:=hjd ((Kept.refl [g5] wr).setCell (p:=⟨g5,t,none⟩) (.inl (by simp)) (W64 0));go_wp2_with fail;go_loopg [46] 8 (fun fu2 i2 wk2=>∃j:Nat,j≤8∧fu2 + j=8∧i2= .int .i64 (j:Int)∧Hid (ShM w g2 g3 g4 g5 xb o (b0r pm n) (fun i=>if i=t then d2h p t j else mix mm (sch p) t i) rest wk2)∧Hid (Kept [g5] wr wk2));case atStart=>exact⟨0,by omega,by omega,rfl,Mx,K0⟩
     case round=>
      clear Mx K0 M q5 f5;obtain⟨j,hj,hfuj,rfl,M,K⟩:=hrel;by_cases hj8:j < 8
      ·have cx:=K.out.cell (hcX.out j hj8) (by simpa using M.out.n5);have q5:=M.out.B.b5.a8v t (by omega);simp only [if_true]at q5;have f5:=M.out.B.b5.frozen t;have hv:=d8c (d2h p t j) (p (8 * t + j));have hw:d2h p t (j + 1)=d2h p t j <<< 8 ||| BitVec.ofNat 64 (p (8 * t + j)).toNat:=rfl;rw [←hw]at hv;have My:=hjd (M.out.sety t (fun i=>if i=t then d2h p t (j + 1)else mix mm (sch p) t i) (fun i hi=>by rw [if_neg hi,if_neg hi]));simp only [if_true]at My;have Ky:=hjd (K.out.setCell (p:=⟨g5,t,none⟩) (.inl (by simp)) (W64 (d2h p t (j + 1))));replace hw:=hjd hw;generalize hy1:d2h p t (j + 1)=y1 at *;replace hy1:=hjd hy1;generalize d2h p t j=y0 at *;go_wp2_with fail;go_roundg (8 - (j + 1));case measure=>omega
       case rel=>
        exact⟨j + 1,by omega,by omega,by go_num,by rw [hy1.out];exact My,Ky⟩
      ·obtain rfl:j=8:=by omega
       have hsc:=c1q p hlt16;have e:(fun i=>if i=t then d2h p t 8 else mix mm (sch p) t i)=mix mm (sch p) (t + 1):=by
        funext i
        unfold mix;by_cases h1:i=t
        ·subst h1;rw [if_pos rfl,if_pos (Nat.lt_succ_self _),hsc];rfl
        ·rw [if_neg h1];by_cases h2:i < t
         ·rw [if_pos h2,if_pos (by omega)]
         ·rw [if_neg h2,if_neg (by omega)]
       rw [e]at M;clear e hsc;go_wp2_with fail;go_roundg (16 - (t + 1));case measure=>omega
       case rel=>exact⟨t + 1,by omega,by omega,by go_num,M⟩
    ·obtain rfl:t=16:=by omega
     go_wp2_with fail
     go_loopg [10] 64 (fun fu i wk=>∃t:Nat,16≤t∧t≤80∧fu + t=80∧i= .int .i64 (t:Int)∧Hid (ShM w g2 g3 g4 g5 b o (b0r pm n) (mix mm (sch p) t) rest wk))
     case atStart=>exact⟨16,by omega,by omega,by omega,rfl,M⟩
     case round=>
      clear M;obtain⟨t,ht16,ht,hfu64,rfl,M⟩:=hrel;by_cases hlt64:t < 80
      ·as_aux_lemma=>--<
       have e15:(t:Int) - 15=((t - 15:Nat):Int):=by omega
       have e2:(t:Int) - 2=((t - 2:Nat):Int):=by omega
       have e7:(t:Int) - 7=((t - 7:Nat):Int):=by omega
       have e16:(t:Int) - 16=((t - 16:Nat):Int):=by omega
       have hs:=hjd (c2q p (t:=t) (by omega));have cell:=fun(u:World) (hu:ShM w g2 g3 g4 g5 b o (b0r pm n) (mix mm (sch p) t) rest u) (j:Nat) (hj:j < t)=>(show u.cell? ⟨g5,j,none⟩=some (W64 (sch p j))from by rw [hu.B.b5.a8v j (by omega),c0g _ _ hj])
       have l15:t - 15 < t∧t - 15 < 80:=by omega
       have l2:t - 2 < t∧t - 2 < 80:=by omega
       have l7:t - 7 < t∧t - 7 < 80:=by omega
       have l16:t - 16 < t∧t - 16 < 80:=by omega
       generalize t - 15=a15 at *;generalize t - 2=a2 at *;generalize t - 7=a7 at *;generalize t - 16=a16 at *;have c15:=cell _ M.out _ l15.1;have c2:=cell _ M.out _ l2.1;have k15:=l15.2;have k2:=l2.2;have k7:=l7.2;have k16:=l16.2;replace cell:=hjd cell;replace l15:=hjd l15;replace l2:=hjd l2;replace l7:=hjd l7;replace l16:=hjd l16;go_wp2_with fail;refine Txt.a2g (by kernel_rfl) (by kernel_rfl) ?_;go_wp2_with fail;refine⟨rfl,by kernel_rfl,?_⟩;replace M:=hjd (M.out.drew);clear c15 c2;go_wp2_with fail;generalize sch p a15=x at *;generalize sch p a2=y at *;replace M:=hjd M.out.drew;refine Txt.b2l [12,26] (ShM w g2 g3 g4 g5 b o (b0r pm n) (mix mm (sch p) t) rest) [_,_,_,_,_,_,_,_,_,_,_,_,_,_,_,_,_,_,_,_,_,_,_,_,_,_,_,_,_] _ rfl [[_,_,_],[_,_],[_,_,_,_,_,_,_,_,_,_,_],[_,_],[_,_,_,_,_,_,_,_,_,_,_]] (by kernel_rfl) (by kernel_rfl) (by kernel_rfl) rfl M.out (Txt.a0e ?_);go_wp2_with (go_at_call 152;(with_reducible refine(e5w _ _).mono ?_);rintro e w1 ⟨rfl,kk⟩;replace M:=hjd (M.out.kept kk);clear kk);refine⟨rfl,M.out,Txt.a0e ?_⟩;go_wp2_with (go_at_call 152;(with_reducible refine(rot61 _ _).mono ?_);rintro e w1 ⟨rfl,kk⟩;replace M:=hjd (M.out.kept kk);clear kk);refine⟨rfl,M.out,Txt.a0e ?_⟩;have c7:=cell.out _ M.out _ l7.out.1;go_wp2_with (go_at_call 152;(with_reducible refine(rot1 _ _).mono ?_);rintro e w1 ⟨rfl,kk⟩;replace M:=hjd (M.out.kept kk);clear kk);clear c7;refine⟨rfl,M.out,Txt.a0e ?_⟩
       go_wp2_with (go_at_call 152;(with_reducible refine(rot8 _ _).mono ?_);rintro e w1 ⟨rfl,kk⟩;replace M:=hjd (M.out.kept kk);clear kk)
       refine⟨rfl,M.out,Txt.a0e ?_⟩;have c7:=cell.out _ M.out _ l7.out.1;have c16:=cell.out _ M.out _ l16.out.1;go_wp2_with fail;refine⟨rfl,M.out,Txt.a0w ⟨⟨by kernel_rfl,?_⟩,?_⟩⟩
       ·intro j hj o ho hw;have hj2:j=12∨j=26:=by simpa using hj
        rcases hj2 with rfl | rfl <;> cases ho
        ·exact⟨_,rfl,fun u hu=>a2y (.tmp 84) rfl d1e rfl (cell.out u hu _ l7.out.1)⟩
        ·exact⟨_,rfl,fun u hu=>a2y (.tmp 98) rfl d1e rfl (cell.out u hu _ l16.out.1)⟩
       clear c7 c16;have q7:=M.out.B.b5.a8v t (by omega);have f7:=M.out.B.b5.frozen t;have hv:=c5w x y (sch p a7) (sch p a16);rw [←hs.out]at hv;go_wp2_with fail;go_roundg (80 - (t + 1));case measure=>omega
       case rel=>exact⟨t + 1,by omega,by omega,by omega,by go_num,M.out.set5⟩
      ·obtain rfl:t=80:=by omega
       have M1:=hjd (show ShM w g2 g3 g4 g5 b o (b0r pm n) (sch p) rest wr from⟨⟨M.out.B.A,by have:=M.out.B.b5;rwa [a4s]at this,M.out.B.l5,M.out.B.n45⟩,M.out.all,M.out.n3,M.out.n5⟩);clear M;generalize hbn:b0r pm n=hA at *;replace hbn:=hjd hbn;go_wp2_with (first
        | (with_reducible refine a0f 102 ?_;refine a0d (o:=⟨some 102,_,_,_,_,_⟩) r8R rfl (.tmp 3) rfl rfl M1.out.B.A.b3 (by simp [fam]) ?_)
        | ((with_reducible refine a0f 13 ?_);(refine a0h (o:=⟨some 13,_,_,_,_,_⟩) rfl rfl w8z ?_);intro g13 w13 m13;refine a0a (cs:=((fam 8 hA).map W64).toArray) (o:=⟨none,Op.store 155 (.tmp 13) (.tmp 102),_,_,_,_⟩) r8R rfl (.tmp 13) (.tmp 102) rfl rfl rfl m13.blk rfl rfl (d6o _) ?_;intro wb b13 k13;have M:=hjd (show ShV w g2 g3 g4 g5 b o g13 hA (sch p) rest hA wb from⟨M1.out.kept (m13.kept.a0r k13 m13.le),b13,fun e=>by have:=M1.out.B.A.b3.lt;have:=m13.le;omega,fun e=>by have:=World.block_lt_of_cell? wr _ (M1.out.rd (j:=0) (by have:=hrl.out;omega));have h2:=m13.le;simp only at this;omega,Nat.le_trans M1.out.B.A.k.size m13.le⟩);clear m13 b13 k13 M1))
       go_loopg [103] 80 (fun fu i wk=>∃t:Nat,t≤80∧fu + t=80∧i= .int .i64 (t:Int)∧Hid (ShV w g2 g3 g4 g5 b o g13 hA (sch p) rest (a3z p hA t) wk))
       case atStart=>exact⟨0,by omega,by omega,rfl,M⟩
       case round=>
        clear M;obtain⟨t,ht,hfut,rfl,M⟩:=hrel;by_cases hlt5:t < 80
        ·as_aux_lemma=>--<
         have hrn:=hjd (show a3z p hA (t + 1)=rnd (n64 (a2f.getD t 0)) (sch p t) (a3z p hA t)from rfl);have hkb:a2f.getD t 0 < 18446744073709551616:=e0p t;have k2:((a2f.getD t 0:Nat):Int)=((n64 (a2f.getD t 0)).toNat:Nat):=by unfold n64;rw [BitVec.toNat_ofNat];omega
         have cellv:=fun(u:World) (hu:ShV w g2 g3 g4 g5 b o g13 hA (sch p) rest (a3z p hA t) u) (j:Nat) (hj:j < 8)=>(show u.cell? ⟨g13,j,none⟩=some (W64 (a3z p hA t j))from hu.v.a8v j hj)
         have cellm:=fun(u:World) (hu:ShV w g2 g3 g4 g5 b o g13 hA (sch p) rest (a3z p hA t) u)=>(show u.cell? ⟨g5,t,none⟩=some (W64 (sch p t))from hu.M.B.b5.a8v t hlt5)
         have cellk:=fun(u:World) (hu:ShV w g2 g3 g4 g5 b o g13 hA (sch p) rest (a3z p hA t) u)=>(show u.cell? ⟨g4,t,none⟩=some (W64 (n64 (a2f.getD t 0)))from by
          have hl80:t < a2f.length:=by rw [show a2f.length=80 from rfl];omega
          rw [hu.M.B.A.b4.uget t hl80];show some (Value.int .u64 _)=some (Value.int .u64 _);rw [←k2,List.getD_eq_getElem?_getD,List.getElem?_eq_getElem hl80];rfl)
         clear hkb k2;replace cellv:=hjd cellv;replace cellm:=hjd cellm;replace cellk:=hjd cellk;generalize n64 (a2f.getD t 0)=kh at *;generalize hmt:sch p t=mt at *;generalize hvv:a3z p hA t=v at *;replace hmt:=hjd hmt;replace hvv:=hjd hvv;obtain⟨T1,hT1⟩:∃x,x=v 7 + us1 (v 4) + chB (v 4) (v 5) (v 6) + kh + mt:=⟨_,rfl⟩;obtain⟨T2,hT2⟩:∃x,x=us0 (v 0) + mjB (v 0) (v 1) (v 2):=⟨_,rfl⟩;have hv1:=d7p (v 7) (v 4) (v 5) (v 6) kh mt;have hv2:=d2m (v 0) (v 1) (v 2);rw [←hT1]at hv1;rw [←hT2]at hv2;replace hT1:=hjd hT1;replace hT2:=hjd hT2;replace hv1:=hjd hv1;replace hv2:=hjd hv2;generalize hz0:v 0=z0 at *;generalize hz1:v 1=z1 at *;generalize hz2:v 2=z2 at *;generalize hz3:v 3=z3 at *;generalize hz4:v 4=z4 at *;generalize hz5:v 5=z5 at *;generalize hz6:v 6=z6 at *;generalize hz7:v 7=z7 at *;have hz:=hjd (And.intro hz0 (And.intro hz1 (And.intro hz2 (And.intro hz3 (And.intro hz4 (And.intro hz5 (And.intro hz6 hz7)))))));have cell0:=hjd (fun(u:World) (hu:ShV w g2 g3 g4 g5 b o g13 hA (sch p) rest v u)=>(show u.cell? ⟨g13,0,none⟩=some (W64 z0)from by rw [←hz0];exact cellv.out u hu 0 (by decide)));have cell1:=hjd (fun(u:World) (hu:ShV w g2 g3 g4 g5 b o g13 hA (sch p) rest v u)=>(show u.cell? ⟨g13,1,none⟩=some (W64 z1)from by rw [←hz1];exact cellv.out u hu 1 (by decide)));have cell2:=hjd (fun(u:World) (hu:ShV w g2 g3 g4 g5 b o g13 hA (sch p) rest v u)=>(show u.cell? ⟨g13,2,none⟩=some (W64 z2)from by rw [←hz2];exact cellv.out u hu 2 (by decide)))
         have cell3:=hjd (fun(u:World) (hu:ShV w g2 g3 g4 g5 b o g13 hA (sch p) rest v u)=>(show u.cell? ⟨g13,3,none⟩=some (W64 z3)from by rw [←hz3];exact cellv.out u hu 3 (by decide)));have cell4:=hjd (fun(u:World) (hu:ShV w g2 g3 g4 g5 b o g13 hA (sch p) rest v u)=>(show u.cell? ⟨g13,4,none⟩=some (W64 z4)from by rw [←hz4];exact cellv.out u hu 4 (by decide)));have cell5:=hjd (fun(u:World) (hu:ShV w g2 g3 g4 g5 b o g13 hA (sch p) rest v u)=>(show u.cell? ⟨g13,5,none⟩=some (W64 z5)from by rw [←hz5];exact cellv.out u hu 5 (by decide)));have cell6:=hjd (fun(u:World) (hu:ShV w g2 g3 g4 g5 b o g13 hA (sch p) rest v u)=>(show u.cell? ⟨g13,6,none⟩=some (W64 z6)from by rw [←hz6];exact cellv.out u hu 6 (by decide)));have c0w:=hjd (fun(u:World) (hu:ShV w g2 g3 g4 g5 b o g13 hA (sch p) rest v u)=>(show u.cell? ⟨g13,7,none⟩=some (W64 z7)from by rw [←hz7];exact cellv.out u hu 7 (by decide)));clear cellv hz0 hz1 hz2 hz3 hz4 hz5 hz6 hz7;have q0:=cell0.out _ M.out;have q4:=cell4.out _ M.out;go_wp2_with fail;refine Txt.a2g (by kernel_rfl) (by kernel_rfl) ?_;go_wp2_with fail;refine⟨rfl,by kernel_rfl,?_⟩;clear q0 q4;replace M:=hjd M.out.drew;go_wp2_with fail;replace M:=hjd M.out.drew;refine Txt.a1k [1,13,18,24,28] (ShV w g2 g3 g4 g5 b o g13 hA (sch p) rest v) [[_,_,_,_],[_,_],[_,_,_],[_,_,_,_,_,_,_,_,_,_,_,_,_,_,_,_,_,_,_,_,_,_]] (by kernel_rfl) (by kernel_rfl) rfl M.out (Txt.a0e ?_);have q7:=c0w.out _ M.out
         go_wp2_with (go_at_call 152;(with_reducible refine(rot14 _ _).mono ?_);rintro e w1 ⟨rfl,kk⟩;replace M:=hjd (M.out.kept kk);clear kk)
         clear q7;refine⟨rfl,M.out,Txt.a0e ?_⟩;go_wp2_with (go_at_call 152;(with_reducible refine(e6g _ _).mono ?_);rintro e w1 ⟨rfl,kk⟩;replace M:=hjd (M.out.kept kk);clear kk);refine⟨rfl,M.out,Txt.a0e ?_⟩;go_wp2_with (go_at_call 152;(with_reducible refine(rot41 _ _).mono ?_);rintro e w1 ⟨rfl,kk⟩;replace M:=hjd (M.out.kept kk);clear kk);refine⟨rfl,M.out,Txt.a0e ?_⟩;have q5:=cell5.out _ M.out;have q6:=cell6.out _ M.out;have qk:=cellk.out _ M.out;have qm:=cellm.out _ M.out;have hv1x:=hv1.out;go_wp2_with fail;refine⟨rfl,M.out,Txt.a0w ⟨⟨by kernel_rfl,?_⟩,?_⟩⟩
         ·intro j hj o ho hw;have hj2:j=1∨j=13∨j=18∨j=24∨j=28:=by simpa using hj
          rcases hj2 with rfl | rfl | rfl | rfl | rfl <;> cases ho
          ·exact⟨_,rfl,fun u hu=>a2y (.tmp 110) rfl d1e rfl (c0w.out u hu)⟩
          ·exact⟨_,rfl,fun u hu=>a2y (.tmp 122) rfl d1e rfl (cell5.out u hu)⟩
          ·exact⟨_,rfl,fun u hu=>a2y (.tmp 127) rfl d1e rfl (cell6.out u hu)⟩
          ·exact⟨_,rfl,fun u hu=>a2y (.tmp 133) rfl d1e rfl (cellk.out u hu)⟩
          ·exact⟨_,rfl,fun u hu=>a2y (.tmp 137) rfl d1e rfl (cellm.out u hu)⟩
         clear q5 q6 qk qm;go_wp2_with fail;clear hv1 hv1x;replace M:=hjd M.out.drew;refine Txt.a1k [10,14,18,20] (ShV w g2 g3 g4 g5 b o g13 hA (sch p) rest v) [[_,_],[_,_],[_,_,_],[_,_,_,_,_,_,_,_,_,_,_,_,_,_,_,_,_,_]] (by kernel_rfl) (by kernel_rfl) rfl M.out (Txt.a0e ?_);go_wp2_with (go_at_call 152;(with_reducible refine(rot28 _ _).mono ?_);rintro e w1 ⟨rfl,kk⟩;replace M:=hjd (M.out.kept kk);clear kk);refine⟨rfl,M.out,Txt.a0e ?_⟩;go_wp2_with (go_at_call 152;(with_reducible refine(rot34 _ _).mono ?_);rintro e w1 ⟨rfl,kk⟩;replace M:=hjd (M.out.kept kk);clear kk);refine⟨rfl,M.out,Txt.a0e ?_⟩;go_wp2_with (go_at_call 152;(with_reducible refine(rot39 _ _).mono ?_);rintro e w1 ⟨rfl,kk⟩;replace M:=hjd (M.out.kept kk);clear kk);refine⟨rfl,M.out,Txt.a0e ?_⟩;have q1:=cell1.out _ M.out;have q2:=cell2.out _ M.out;have hv2x:=hv2.out;go_wp2_with fail;refine⟨rfl,M.out,Txt.a0w ⟨⟨by kernel_rfl,?_⟩,?_⟩⟩
         ·intro j hj o ho hw;have hj2:j=10∨j=14∨j=18∨j=20:=by simpa using hj
          rcases hj2 with rfl | rfl | rfl | rfl <;> cases ho
          ·exact⟨_,rfl,fun u hu=>a2y (.tmp 149) rfl d1e rfl (cell1.out u hu)⟩
          ·exact⟨_,rfl,fun u hu=>a2y (.tmp 153) rfl d1e rfl (cell2.out u hu)⟩
          ·exact⟨_,rfl,fun u hu=>a2y (.tmp 157) rfl d1e rfl (cell1.out u hu)⟩
          ·exact⟨_,rfl,fun u hu=>a2y (.tmp 159) rfl d1e rfl (cell2.out u hu)⟩
         clear hv2 hv2x;have q0:=cell0.out _ M.out;have q3:=cell3.out _ M.out;have q4:=cell4.out _ M.out;have q5:=cell5.out _ M.out;have q6:=cell6.out _ M.out;obtain⟨S0,hS0⟩:∃x,x=T1 + T2:=⟨_,rfl⟩;obtain⟨S4,hS4⟩:∃x,x=z3 + T1:=⟨_,rfl⟩;have hs0:=c4o T1 T2;have hs4:=c4o z3 T1;rw [←hS0]at hs0;rw [←hS4]at hs4;replace hS0:=hjd hS0;replace hS4:=hjd hS4;go_wp2_with (first
          | ((with_reducible refine a0f 183 ?_);refine b8o (vs:=[(0,W64 S0),(1,W64 z0),(2,W64 z1),(3,W64 z2),(4,W64 S4),(5,W64 z4),(6,W64 z5),(7,W64 z6)]) rfl rfl (by kernel_rfl) (built8 S0 z0 z1 z2 S4 z4 z5 z6) ?_)
          | ((with_reducible refine a6c (.tmp 13) (.tmp 183) ?_);refine a0a (cs:=(([S0,z0,z1,z2,S4,z4,z5,z6]:List B64).map W64).toArray) (o:=⟨none,Op.store 155 (.tmp 13) (.tmp 183),_,_,_,_⟩) r8R rfl (.tmp 13) (.tmp 183) rfl rfl rfl M.out.v (by simp [fam]) (by simp) (d6o _) ?_;intro wb b13 k13
             have M1:=hjd (show ShV w g2 g3 g4 g5 b o g13 hA (sch p) rest (rnd kh mt v) wb from M.out.put k13 (by
              obtain⟨z0',z1',z2',z3',z4',z5',z6',z7'⟩:=hz.out;have e:(([S0,z0,z1,z2,S4,z4,z5,z6]:List B64).map W64).toArray=((fam 8 (rnd kh mt v)).map W64).toArray:=by
               rw [hS0.out,hS4.out,hT1.out,hT2.out,←z0',←z1',←z2',←z3',←z4',←z5',←z6',←z7'];rfl
              rw [←e];exact b13))
             clear b13 k13 M q0 q1 q2 q3 q4 q5 q6))
         go_roundg (80 - (t + 1));case measure=>omega
         case rel=>
          refine⟨t + 1,by omega,by omega,by go_num,?_⟩;rw [hrn.out];exact M1
        ·obtain rfl:t=80:=by omega
         generalize hvv:a3z p hA 80=v at *;replace hvv:=hjd hvv;go_wp2_with fail;go_loopg [185] 8 (fun fu i wk=>∃k:Nat,k≤8∧fu + k=8∧i= .int .i64 (k:Int)∧Hid (ShV w g2 g3 g4 g5 b o g13 (mix hA (fun i=>hA i + v i) k) (sch p) rest v wk));case atStart=>exact⟨0,by omega,by omega,rfl,by have:=M;unfold mix;simpa using this⟩
         case round=>
          clear M;obtain⟨k,hk6,hfu6,rfl,M⟩:=hrel;by_cases hlt6:k < 8
          ·as_aux_lemma=>--<
           have q3:wr.cell? ⟨g3,k,none⟩=some (W64 (hA k)):=by rw [M.out.M.B.A.b3.a8v k hlt6,c4i _ _ (Nat.le_refl _)]
           have f3:=M.out.M.B.A.b3.frozen k;have q13:=M.out.v.a8v k hlt6;have hs0:=c4o (hA k) (v k);obtain⟨S,hS⟩:∃x,x=hA k + v k:=⟨_,rfl⟩;rw [←hS]at hs0;replace hS:=hjd hS;go_wp2_with fail;refine Txt.b2l [] (fun _=>True) [_,_,_,_,_,_,_,_] _ rfl [[_,_,_,_,_,_,_,_]] (by kernel_rfl) (by kernel_rfl) (by kernel_rfl) rfl trivial (Txt.a0e ?_);go_wp2_with fail;refine⟨rfl,trivial,Txt.a0w ⟨⟨by kernel_rfl,fun j hj=>absurd hj (by simp)⟩,?_⟩⟩;go_wp2_with fail;go_roundg (8 - (k + 1));case measure=>omega
           case rel=>
            refine⟨k + 1,by omega,by omega,by go_num,?_⟩;rw [hS.out];exact hjd M.out.set3.drew
          ·obtain rfl:k=8:=by omega
           have hb:=M.out.M.B.A.b3;rw [a4s]at hb;have hbk:(fun i=>hA i + v i)=b0r pm (n + 1):=by
            rw [←hvv.out,←hbn.out,hp.out];rfl
           rw [hbk]at hb;have B:=hjd (show ShB w g2 g3 g4 g5 (b0r pm (n + 1)) (sch p) wr from⟨⟨M.out.M.B.A.b2,hb,M.out.M.B.A.b4,M.out.M.B.A.k,M.out.M.B.A.l2,M.out.M.B.A.l3,M.out.M.B.A.l4⟩,M.out.M.B.b5,M.out.M.B.l5,M.out.M.B.n45⟩);have R:=hjd (RL.out wr M.out.M.all);have nb:=hjd (And.intro M.out.M.n3 M.out.M.n5);clear hb M hbk;obtain⟨X,d,hX,rX,oX,_⟩:=c9c a1x R.out .i64 128 hL1;have hX2:∀W,(Instr.sliceAt 23 (.slice (some ⟨b,o,none⟩) L c) (some (.int .i64 128)) none none).run Tryz.prog W= .ok (.slice X (L - 128) d) W:=hX;have rX2:=hjd rX;have oX2:=hjd oX;clear hX rX oX;generalize hLm:L - 128=L6 at *;replace hLm:=hjd hLm;go_wp2_with fail;go_roundg (N - (n + 1));case measure=>omega
           case rel=>
            have eL:L6=128 * (N - (n + 1)):=by rw [←hLm.out,hL.out];omega
            refine⟨n + 1,X,d,sch p,by omega,by omega,by rw [eL],?_,B,?_⟩
            ·rw [←eL,show 128 * (n + 1)=128 * n + 128 from by omega,←List.drop_drop,hre.out];have e:=rX2.out;rw [←List.map_drop]at e;exact hjd e
            ·rw [←eL];refine hjd fun hpos bb hbb=>?_
             rw [oX2.out (by rw [eL];omega)]at hbb
             cases hbb
             exact nb.out
  ·obtain rfl:n=N:=by omega
   generalize hH:b0r pm n=H at *;replace hH:=hjd hH;have e0:128 * (n - n)=0:=by omega
   rw [e0]at RB ⊢;clear e0;have Z:=hjd M.out;clear M RB FB;go_wp2_with (first
    | ((with_reducible refine a0f 20 ?_);(refine a0h (o:=⟨some 20,_,_,_,_,_⟩) rfl rfl e0h ?_);intro g20 w20 m20;have Z2:=hjd (Z.out.kept m20.kept)
       have b20:=hjd (show Blk w20 g20 32 ((fam 64 (mix (fun _=>0) (b2v H) (8 * 0))).map a1z).toArray from by
        have e:((fam 64 (mix (fun _=>(0:UInt8)) (b2v H) (8 * 0))).map a1z)=bv (a0m 64):=by rw [show 8 * 0=0 from rfl,b0e];rfl
        rw [e];exact m20.blk)
       have l20:=hjd (Nat.le_trans Z.out.A.k.size m20.le);have n20:=hjd (show g2≠g20 from fun e=>by have:=Z.out.A.b2.lt;have:=m20.le;omega);clear m20 Z)
    | (with_reducible refine a0f 197 ?_;refine a0d (o:=⟨some 197,_,_,_,_,_⟩) r8R rfl (.tmp 3) rfl rfl Z2.out.A.b3 (by simp [fam]) ?_))
   have K:=hjd Z2.out.A.k;have B2:=hjd Z2.out.A.b2;have l2:=hjd Z2.out.A.l2;clear Z2;go_loopg [198] 8 (fun fu i wk=>∃k:Nat,k≤8∧fu + k=8∧i= .int .i64 (k:Int)∧Hid (Blk wk g20 32 ((fam 64 (mix (fun _=>0) (b2v H) (8 * k))).map a1z).toArray)∧Hid (Kept [] w wk)∧Hid (Blk wk g2 32 (bv (a0m 64)).toArray));case atStart=>exact⟨0,by omega,by omega,rfl,b20,K,B2⟩
   case round=>
    clear b20 K B2;obtain⟨k,hk7,hfu7,rfl,b20,K,B2⟩:=hrel;by_cases hlt7:k < 8
    ·as_aux_lemma=>--<
     have hx:((fam 8 H).map W64).toArray[k]?=some (W64 (H k)):=by simp [fam,hlt7]
     have hix:=b9s _ k _ hlt7 hx;clear hx;go_wp2_with fail;go_loopg [202] 8 (fun fu2 i2 wk2=>∃j:Nat,j≤8∧fu2 + j=8∧i2= .int .i64 (j:Int)∧Hid (Blk wk2 g20 32 ((fam 64 (mix (fun _=>0) (b2v H) (8 * k + j))).map a1z).toArray)∧Hid (Kept [] w wk2)∧Hid (Blk wk2 g2 32 (bv (a0m 64)).toArray));case atStart=>exact⟨0,by omega,by omega,rfl,b20,K,B2⟩
     case round=>
      clear b20 K B2 hix;obtain⟨j,hj,hfuj,rfl,b20,K,B2⟩:=hrel;by_cases hj8:j < 8
      ·have d0:=b7p H k j hj8;have h0:(0:Int)≤56 - 8 * (j:Int):=by omega
       have f0:=b20.out.frozen (8 * k + j);obtain⟨y0,q0⟩:∃y,wr.cell? ⟨g20,8 * k + j,none⟩=some y:=⟨_,b20.out.a8v (8 * k + j) (by omega)⟩;have s3:=hjd b20.out.b2o;have kk:=hjd ((Kept.refl [g20] wr).setCell (p:=⟨g20,8 * k + j,none⟩) (.inl (by simp)) (a1z (b2v H (8 * k + j))));have hkj:=hjd (show 8 * k + (j + 1)=8 * k + j + 1 from rfl);have hsum:8 * k + j < 64:=by omega
       go_wp2_with fail
       go_roundg (8 - (j + 1));case measure=>omega
       case rel=>exact⟨j + 1,by omega,by omega,by go_num,s3,hjd (K.out.a0r kk.out l20.out),hjd (B2.out.kept kk.out (by simpa using n20.out))⟩
      ·obtain rfl:j=8:=by omega
       go_wp2_with fail
       go_roundg (8 - (k + 1));case measure=>omega
       case rel=>exact⟨k + 1,by omega,by omega,by go_num,b20,K,B2⟩
    ·obtain rfl:k=8:=by omega
     have b:=b20.out;rw [show 8 * 8=64 from rfl,a4s,←c3u]at b;replace b:=hjd b;go_wp2_with (first
      | (with_reducible refine a0f 219 ?_;refine a0d (o:=⟨some 219,_,_,_,_,_⟩) b7e rfl (.tmp 20) rfl rfl b.out (by simp [a8j]) ?_)
      | ((with_reducible refine a6c (.tmp 2) (.tmp 219) ?_);refine a0a (cs:=(bv (c3k H)).toArray) (o:=⟨none,Op.store 32 (.tmp 2) (.tmp 219),_,_,_,_⟩) b7e rfl (.tmp 2) (.tmp 219) rfl rfl rfl B2.out (by simp) (by simp [a8j]) (a3o _) ?_;intro wb bb kb;have BB:=hjd bb;have KK:=hjd (K.out.a0r kb l2.out);clear bb kb))
     exact a1m b7e rfl rfl BB.out (by simp [a8j]) rfl ⟨by rw [hH.out],KK.out⟩
end Go.Proofs.YtdbngnlpafcogaaGreat.Q
