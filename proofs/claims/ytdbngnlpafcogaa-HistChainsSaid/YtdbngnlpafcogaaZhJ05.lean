/-
  The document's digests: Sum of parts (32 bits).
  An identity's keys: the document's value of a history.
  An identity's keys: rows cloned, whatever there is of them.
  An identity's keys: the document's SameKeys.
  An identity's keys: Next, where it says no.
  A statement that draws its order: the last two operations are bound to all ahead of them.
  A statement that draws its order: a tail whose operations are each bound to all ahead of them.
  An identity's keys: Next, where it says yes.
  An identity's keys: Make as a whole; the document's Body; Next in words.
  Digests: Sum256 of known bytes, so that the kernel can reckon it.
  An identity's keys: two values that differ, by the kernel.
  An identity's keys: what must be answered ahead of everything else.
  The document's ring: Fits.
  Rows of keys, as they come in.
-/
import Derived.Test.YtdbngnlpafcogaaZhDg4
import Derived.Test.YtdbngnlpafcogaaZhJ04
import Derived.Test.YtdbngnlpafcogaaZhJ03
import Derived.Test.YtdbngnlpafcogaaZhJ02
import Derived.Test.YtdbngnlpafcogaaZhText
set_option maxRecDepth 100000
namespace Go.Proofs.Ytdbngnlpafcogaa
open Go.RowKit Go.Mem Go.Txt
set_option maxHeartbeats 1600000 in
theorem c3r(pv:Value)(ps:List (Value × List UInt8))(w:World)(hp:Parts w pv ps)(hn:ps.length≤9223372036854775807)(hl:(a0w ps).length≤1000000000000) :
 Calls Try.prog 57 #[pv] w fun e w'=>e= .returned (ab (sha (a0w ps)))∧Kept [] w w':=by
 have hP:=hjd hp
 have hL:=hjd hl
 obtain⟨PA,pc,rfl,_,_,_⟩:=hp.outer
 clear hp hl
 go_enter Try.func57,Try.ntmps57
 go_wp2_with (first
  | ((with_reducible refine a0g (o:=⟨some 2,_,_,_,_,_⟩) rfl rfl c3e ?_);intro g2 w2 m2
     replace hP:=hjd (hP.out.a0q m2.kept)
     have K2:=hjd m2.kept
     have B2:=hjd (show Blk w2 g2 26 (bv (a0j 32)).toArray from m2.blk)
     have l2:=hjd m2.le
     clear m2))
 have N0:=hjd (New.nil w2)
 go_loopg [3,11] ps.length (fun fu r i wk=>∃k:Nat,k≤ps.length∧fu + k=ps.length∧i= .int .i64 k∧Hid (New w2 wk r (a0w (ps.take k))))
 case atStart=>exact⟨0,Nat.zero_le _,by omega,rfl,by simpa [a0w]using N0⟩
 case round=>
  clear N0
  obtain⟨k,hk,hfu,rfl,N0⟩:=hrel
  by_cases hlt:k < ps.length
  ·have hPk:=hP.out.a0q N0.out.kept
   obtain⟨pb,po,pc2,heq,_,hcell⟩:=hPk.outer.at_ (by omega)
   cases heq
   have hin:=hPk.inner ps[k] (List.getElem_mem _)
   have hcl:=hcell k ps[k].1 (by simp [hlt])
   have hle:=b3y ps (k + 1)
   have hj:=a9h ps k hlt
   rw [hj,List.length_append]at hle
   generalize hpk:ps[k]=x at *
   obtain⟨p1,p2⟩:=x
   dsimp only at hin hcl hle hj
   have hin2:=hjd hin
   obtain⟨B,bc,rfl,_,_,_⟩:=hin
   have hsz2:=hjd (show(a0w (ps.take k)).length + p2.length≤1000000000000 from by have:=hL.out;omega)
   have hj2:=hjd hj
   obtain⟨OA,oc,rfl,_⟩:=N0.out.ow.shape
   clear hcell hj hPk hle
   go_wp2_with (at_builtin;refine a2l a1n rfl (.tmp 15) (.tmp 16) rfl rfl N0.out.ow rfl hin2.out (a2v _) ?_ ?_ ?_)
   case refine_1=>have:=hsz2.out;omega
   case refine_2=>have:=hsz2.out;omega
   intro v' w3 hown hk2 hb2
   have hn5:=hjd (show New w2 w3 v' (a0w (ps.take (k + 1)))from N0.out.step (by rw [hj2.out,List.length_append];simpa [bv]using hown) hk2 N0.out.old (by
    rcases hb2 with h | h
    ·exact .inl h
    ·exact .inr ⟨_,h,N0.out.kept.size⟩))
   clear hown hk2 hb2
   go_wp2_with fail
   go_roundg (ps.length - (k + 1))
   case measure=>omega
   case rel=>exact⟨k + 1,by omega,by omega,by go_num,hn5⟩
  ·obtain rfl:k=ps.length:=by omega
   rw [List.take_length]at N0
   have dg:=hjd (fun(u:World) (v:Value) (h:Rd u 1 v (a0w ps).length (bv (a0w ps)))=>c6s v (a0w ps) u h hL.out)
   have hlen:=a3e (a0w ps)
   obtain⟨OA,oc,rfl,_⟩:=N0.out.ow.shape
   generalize hm:a0w ps=m at *
   replace hm:=hjd hm
   generalize hsha:sha m=s at *
   replace hsha:=hjd hsha
   clear hP hL
   go_wp2_with (first
    | ((with_reducible refine a0g (o:=⟨some 6,_,_,_,_,_⟩) rfl rfl c3e ?_);intro g6 w6 m6
       have l6:=hjd (Nat.le_trans N0.out.kept.size m6.le)
       have n6:=hjd (show g2≠g6 from fun e=>by have:=B2.out.lt;have:=N0.out.kept.size;have:=m6.le;omega)
       replace N0:=hjd (N0.out.a0f m6.kept)
       have B6:=hjd (show Blk w6 g6 26 ((fam 32 (mix (fun _=>0) (fun i=>s.getD i 0) 0)).map a1p).toArray from by
        rw [a5g];exact m6.blk)
       have t6:=hjd B6.out.lt
       clear m6)
    | (go_at_call 95;(with_reducible refine(dg.out _ _ (Rd.a4x N0.out.ow)).mono ?_);rintro e w7 ⟨v7,rfl,h7⟩
       obtain⟨A7,c7,rfl,_⟩:=h7.ow.shape
       rw [hlen]
       have R7:=hjd (Rd.a4x h7.ow)
       have r7:=hjd h7.near
       replace N0:=hjd (N0.out.a0f h7.kept)
       replace B6:=hjd (B6.out.kept h7.kept (by simp))
       clear h7 dg))
   obtain⟨b7,o7,c8,heq7,_,hc7⟩:=R7.out.at_ (by rw [hlen];decide)
   have hA7:A7=some ⟨b7,o7,none⟩:=by injection heq7
   subst hA7
   have nb7:=hjd (show b7≠g6 from fun e=>by
    rcases r7.out with h | ⟨g,h,hg⟩
    ·cases h
    ·have h9:b7=g:=by simpa [Value.ownBlock]using h
     have:=t6.out
     omega)
   have HC:=hjd (show∀j,j < 32→w7.cell? ⟨b7,o7 + j,none⟩=some (a1p (s.getD j 0))from fun j hj=>hc7 j _ (by
    have hj':j < s.length:=by omega
    simp [List.getD_eq_getElem?_getD,hj']))
   have K:=hjd N0.out.kept
   clear hc7 heq7 R7 r7 t6 N0
   go_loopg [22] 32 (fun fu i wk=>∃k:Nat,k≤32∧fu + k=32∧i= .int .i64 (k:Int)∧Hid (Blk wk g6 26 ((fam 32 (mix (fun _=>0) (fun i=>s.getD i 0) k)).map a1p).toArray)∧Hid (Kept [] w2 wk)∧Hid (∀j,j < 32→wk.cell? ⟨b7,o7 + j,none⟩=some (a1p (s.getD j 0))))
   case atStart=>exact⟨0,by omega,by omega,rfl,B6,K,HC⟩
   case round=>
    clear B6 K HC
    obtain⟨k,hk2,hfu2,rfl,B6,K,HC⟩:=hrel
    by_cases hlt2:k < 32
    ·have q7:=HC.out k hlt2
     unfold a1p at q7
     have f6:=B6.out.frozen k
     obtain⟨y6,q6⟩:∃y,wr.cell? ⟨g6,k,none⟩=some y:=⟨_,B6.out.a5s k hlt2⟩
     have s6:=hjd (show Blk (wr.setCell ⟨g6,k,none⟩ (.int .u8 ((s.getD k 0).toNat:Int))) g6 26 _ from B6.out.a7a)
     have ks:=hjd (show Kept [] w2 (wr.setCell ⟨g6,k,none⟩ (.int .u8 ((s.getD k 0).toNat:Int)))from K.out.setCell (.inr l6.out) _)
     have hs:=hjd (show∀j,j < 32→(wr.setCell ⟨g6,k,none⟩ (.int .u8 ((s.getD k 0).toNat:Int))).cell? ⟨b7,o7 + j,none⟩=some (a1p (s.getD j 0))from fun j hj=>((Kept.refl [g6] wr).setCell (p:=⟨g6,k,none⟩) (.inl (by simp)) _).cell (HC.out j hj) (by simpa using nb7.out))
     generalize ((s.getD k 0).toNat:Int)=z at *
     clear B6 K HC
     go_wp2_with fail
     go_roundg (32 - (k + 1))
     case measure=>omega
     case rel=>exact⟨k + 1,by omega,by omega,by go_num,s6,ks,hs⟩
    ·obtain rfl:k=32:=by omega
     have b6:=hjd (show Blk wr g6 26 (bv s).toArray from by
      have:=B6.out
      rw [a2x]at this
      have e:fam 32 (fun i=>s.getD i 0)=s:=by
       apply List.ext_getElem (by simp [fam,hlen])
       intro i h1 h2
       simp [fam,List.getD_eq_getElem?_getD,h2]
      rwa [e]at this)
     have b2:=hjd (B2.out.kept K.out (by simp))
     clear B6 HC B2
     go_wp2_with (first
      | (with_reducible refine a0l 31 ?_;refine a0d (o:=⟨some 31,_,_,_,_,_⟩) c6l rfl (.tmp 6) rfl rfl b6.out (by simp [hlen]) ?_)
      | ((with_reducible refine a7k (.tmp 2) (.tmp 31) ?_)
         refine a0b (cs:=(bv s).toArray) (o:=⟨none,Op.store 26 (.tmp 2) (.tmp 31),_,_,_,_⟩) c6l rfl (.tmp 2) (.tmp 31) rfl rfl rfl b2.out (by simp) (by simp [hlen]) (a2r _) ?_
         intro wb bb kb
         have BB:=hjd bb
         have KK:=hjd ((K2.out.a0f K.out).a0p kb l2.out)
         clear bb kb))
     exact a1i c6l rfl rfl BB.out (by simp [hlen]) rfl ⟨by rw [hm.out,hsha.out],KK.out⟩
end Go.Proofs.Ytdbngnlpafcogaa
namespace Go.Proofs.Ytdbngnlpafcogaa
open Go.RowKit Go.Mem Go.Txt
set_option maxHeartbeats 3200000 in
theorem a6g(v:Value)(keys:List (List UInt8))(w:World)(hr:Rd w 32 v keys.length (keys.flatMap bv))(hl:∀x∈keys,x.length=32)(hx:keys.length≤1000000) :
 Calls Try.prog 28 #[v] w fun e w'=>e= .returned (ab (b4q keys))∧Kept [] w w':=by
 obtain⟨KA,kap,rfl,_⟩:=id hr
 have H:=hjd hr
 have hl:=hjd hl
 have hx2:=hjd hx
 have l0:=b6e
 have vl:=hjd (fun j=>b3c (keys.take j))
 have vs:=hjd (fun j (h:j < keys.length)=>b8o h)
 obtain⟨Z,hZ⟩:∃Z:List UInt8,Z=a0j 32:=⟨_,rfl⟩
 rw [←hZ]at l0
 have hzl:=hjd (show Z.length=32 from by rw [hZ];rfl)
 have hz0:=hjd (show b2h (keys.take 0)=Z from by rw [hZ];rfl)
 have hzb:=hjd (show(ab (a0j 32)).cells=(bv Z).toArray from by rw [hZ];rfl)
 clear hZ
 clear hr
 go_enter Try.func28,Try.ntmps28
 go_wp2_with (first
  | ((with_reducible refine a0l 2 ?_);(refine a0g (o:=⟨some 2,_,_,_,_,_⟩) rfl rfl a5m ?_);intro g2 w2 m2;have B2:=hjd (show Blk w2 g2 26 (bv Z).toArray from by have:=m2.blk;rwa [hzb.out]at this);have KK:=hjd m2.kept;have L2:=hjd m2.le;clear m2)
  | ((with_reducible refine a0l 3 ?_);(refine a0g (o:=⟨some 3,_,_,_,_,_⟩) rfl rfl a5m ?_);intro g3 w3 m3
     have B3:=hjd (show Blk w3 g3 26 (bv (b2h (keys.take 0))).toArray from by have:=m3.blk;rw [hzb.out]at this;rw [hz0.out];exact this)
     have N3:=hjd (m3.ne B2.out.lt)
     replace B2:=hjd (B2.out.kept m3.kept (by simp));have L3:=hjd (Nat.le_trans KK.out.size m3.le);replace KK:=hjd (KK.out.a0f m3.kept);clear m3)
  | (refine a0b (cs:=(bv Z).toArray) (o:=⟨none,Op.store 26 (.tmp 3) (.tmp 6),_,_,_,_⟩) a1o.row rfl (.tmp 3) (.tmp 6) rfl rfl rfl B3.out (by simpa using vl.out 0) (by simpa using hzl.out) (a2r _) ?_
     intro w4 b4 k4
     replace B3:=hjd (show Blk w4 g3 26 (bv (b2h (keys.take 0))).toArray from by rw [hz0.out];exact b4)
     replace B2:=hjd (B2.out.kept k4 (by simpa using N3.out))
     replace KK:=hjd (KK.out.a0p k4 L3.out)
     clear b4 k4))
 go_loopg [9] keys.length (fun f g wk=>∃j:Nat,j≤keys.length∧f + j=keys.length∧g= .int .i64 j∧Hid (Blk wk g3 26 (bv (b2h (keys.take j))).toArray)∧Hid (Blk wk g2 26 (bv Z).toArray)∧Kept [] w wk)
 case atStart=>exact⟨0,Nat.zero_le _,rfl,rfl,B3,B2,KK.out⟩
 case round=>
  obtain⟨j,hj,hfj,rfl,hb3,hb2,hwk⟩:=hrel
  clear B3 B2 KK
  have KK:=hjd hwk
  replace H:=hjd (H.out.a0q hwk)
  clear hwk
  by_cases hlt:j < keys.length
  ·obtain⟨kb,ko,kd,ek,_⟩:=H.out.at_ (by omega)
   obtain⟨rfl,rfl⟩:KA=some ⟨kb,ko,none⟩∧kap=kd:=by simpa using ek
   clear ek
   obtain⟨pre,post,hpp,hpl⟩:=b2n hlt hl.out
   have hkj:=hjd (hl.out (keys.getD j []) (by rw [getD_eq hlt];exact List.getElem_mem _))
   have hrk:=hjd (Rd.elem (i:=j) H.out hpp hpl (by omega))
   have hst:=hjd (vs.out j hlt)
   have hdl:=hjd (vl.out j)
   generalize keys.getD j []=key at *
   generalize hd:b2h (keys.take j)=d at *
   clear hpp hpl hd
   go_wp2_with (first
    | ((with_reducible refine a0l 11 ?_);refine a6v (o:=⟨some 11,_,_,_,_,_⟩) a7l rfl (.tmp 7) (.tmp 9) rfl rfl rfl hlt ?_)
    | ((with_reducible refine a0l 12 ?_);refine a0r (o:=⟨some 12,_,_,_,_,_⟩) (cs:=bv key) a1o.row rfl (.tmp 11) rfl rfl hrk.out (by simpa using hkj.out) ?_)
    | ((with_reducible refine a0l 5 ?_);(refine a0g (o:=⟨some 5,_,_,_,_,_⟩) rfl rfl a5m ?_);intro g5 w5 m5;have M5:=hjd m5;have T5:=hjd (show Blk w5 g5 26 (bv Z).toArray from by have:=m5.blk;rwa [hzb.out]at this);clear m5)
    | (refine a0b (cs:=(bv key).toArray) (o:=⟨none,Op.store 26 (.tmp 5) (.tmp 12),_,_,_,_⟩) a1o.row rfl (.tmp 5) (.tmp 12) rfl rfl rfl T5.out (by simpa using hzl.out) (by simpa using hkj.out) (a2r _) ?_
       intro wb5 b5 k5
       have kk:=M5.out.kept.a0p k5 M5.out.le
       have B5:=hjd b5
       replace hb3:=hjd (hb3.out.kept kk (by simp))
       replace hb2:=hjd (hb2.out.kept kk (by simp))
       replace KK:=hjd (KK.out.a0f kk)
       clear b5 k5 kk M5 T5 hrk))
   have kd:=(Kept.refl [] wb5).drew
   replace hb3:=hjd (hb3.out.kept kd (by simp))
   replace hb2:=hjd (hb2.out.kept kd (by simp))
   replace B5:=hjd (B5.out.kept kd (by simp))
   replace KK:=hjd (KK.out.a0f kd)
   clear kd
   refine Txt.a2t (by kernel_rfl) (by kernel_rfl) ?_
   go_wp2_with (first
    | ((with_reducible refine a0l 13 ?_);(refine a1m (o:=⟨some 13,_,_,_,_,_⟩) (v0:=.int .u8 3) (cells:=#[.int .u8 3]) rfl a1n rfl rfl (by decide) rfl rfl ?_);intro gb wb mb
       have R1:=hjd (c8l (l:=[3]) mb.blk rfl rfl)
       replace hb3:=hjd (hb3.out.kept mb.kept (by simp))
       replace hb2:=hjd (hb2.out.kept mb.kept (by simp))
       replace B5:=hjd (B5.out.kept mb.kept (by simp))
       replace KK:=hjd (KK.out.a0f mb.kept)
       clear mb)
    | ((with_reducible refine a0l 16 ?_);(refine a9b (o:=⟨some 16,_,_,_,_,_⟩) (v0:=.slice (some ⟨gb,0,none⟩) 1 1) (v1:=.slice (some ⟨g3,0,none⟩) 32 32) (v2:=.slice (some ⟨g5,0,none⟩) 32 32) rfl a5b rfl rfl rfl rfl rfl rfl rfl ?_);intro gp wp mp
       have PP:=hjd (c8f mp.blk (R1.out.a0q mp.kept) (a4u (hb3.out.kept mp.kept (by simp)) hdl.out) (a4u (B5.out.kept mp.kept (by simp)) hkj.out))
       replace hb3:=hjd (hb3.out.kept mp.kept (by simp))
       replace hb2:=hjd (hb2.out.kept mp.kept (by simp))
       replace KK:=hjd (KK.out.a0f mp.kept)
       clear mp B5 R1)
    | (go_at_call 57;(with_reducible refine(c3r _ _ _ PP.out (by simp) (by simp [a0w,bytesOf,hdl.out,hkj.out])).mono ?_);rintro e ws ⟨rfl,ks⟩
       replace hb3:=hjd (hb3.out.kept ks (by simp))
       replace hb2:=hjd (hb2.out.kept ks (by simp))
       replace KK:=hjd (KK.out.a0f ks)
       clear ks PP)
    | (refine a0b (cs:=(bv (sha (a0w _))).toArray) (o:=⟨none,Op.store 26 (.tmp 3) (.tmp 17),_,_,_,_⟩) a1o.row rfl (.tmp 3) (.tmp 17) rfl rfl rfl hb3.out (by simpa using hdl.out) (by simp [a3e]) (a2r _) ?_
       intro wt bt kt
       replace hb3:=hjd (show Blk wt g3 26 (bv (b2h (keys.take (j + 1)))).toArray from by rw [hst.out];simpa [a0w,bytesOf]using bt)
       replace hb2:=hjd (hb2.out.kept kt (by simpa using N3.out))
       replace KK:=hjd (KK.out.a0p kt L3.out)
       clear bt kt))
   refine⟨rfl,by kernel_rfl,?_⟩
   go_wp2_with fail
   go_roundg (keys.length - (j + 1))
   case measure=>omega
   case rel=>exact⟨j + 1,by omega,by omega,by go_num,hb3,hb2,KK.out⟩
  ·obtain rfl:j=keys.length:=by omega
   replace hb3:=hjd (show Blk wr g3 26 (bv (b2h keys)).toArray from by have:=hb3.out;rwa [List.take_length]at this)
   have hvl:=hjd (b3c keys)
   have hnl:=hjd (show keys.length < 18446744073709551616 from by omega)
   have hsl:=hjd (show(b4q keys).length=32 from a3e _)
   have csum:=hjd (fun(u:World) (pv:Value) (h:d5t [2] (be8 keys.length) (b2h keys) pv u)=>(show Calls Try.prog 57 #[pv] u fun e w'=>e= .returned (ab (b4q keys))∧Kept [] u w' from by
    obtain⟨p1,p2,p3,hp⟩:=h
    have:=c3r pv _ u hp (by simp) (by simp [a0w,bytesOf,a2k,hvl.out])
    simpa [a0w,bytesOf,b4q]using this))
   go_wp2_with fail
   refine Txt.a4e (by kernel_rfl) [a4a [2],Txt.isV (.slice KA keys.length kap),Txt.isV (.int .i64 (keys.length:Int)),Txt.isV (.int .u64 (keys.length:Int)),a4a (be8 keys.length),a4a (b2h keys),d5t [2] (be8 keys.length) (b2h keys),Txt.isV (ab (b4q keys))] (fun u=>Kept [] wr u) (by kernel_rfl) rfl rfl (by kernel_rfl) ((Kept.refl [] wr).drew) (fun u u2 h k=>h.a0f k) ⟨?_,?_,?_,?_,?_,?_,?_,?_,trivial⟩ ?_
   ·exact b9u (b:=2) rfl rfl
   ·exact a2n (x:=0) rfl (by decide) fun a W hx=>a6y rfl W hx
   ·refine a7t fun a u hS hr _=>?_
    have e0:=hr 1 _ 20 _ rfl rfl rfl ⟨⟨1,.data⟩,by simp,rfl,rfl⟩
    exact c0i rfl u e0
   ·refine a7t fun a u hS hr _=>?_
    have e0:=hr 2 _ 21 _ rfl rfl rfl ⟨⟨2,.data⟩,by simp,rfl,rfl⟩
    exact c2w hnl.out rfl u e0
   ·refine Txt.a2d rfl b4t (fun v u u2 h k=>a4a.a0q h k) fun a u hS hr _=>?_
    have e0:a.tmps.getD 22 undef=(.int .u64 (keys.length:Int)):=hr 3 _ 22 _ rfl rfl rfl ⟨⟨3,.data⟩,by simp,rfl,rfl⟩
    have hm:Array.map a.eval #[.tmp 22]= #[(.int .u64 (keys.length:Int))]:=by simp only [List.map_toArray,List.map_cons,List.map_nil,Act.eval,e0]
    rw [hm]
    refine((d1z keys.length hnl.out u)).mono ?_
    rintro e u2 ⟨v,rfl,hv,hk⟩
    exact⟨v,rfl,hv,hk⟩
   ·exact b8l (x:=3) (g:=g3) rfl rfl (by decide) (a4u hb3.out hvl.out)
   ·exact b3r (x:=19) (y:=23) (z:=24) (i:=0) (j:=4) (k:=5) rfl rfl rfl rfl ⟨⟨0,.data⟩,by simp,rfl,rfl⟩ rfl rfl rfl ⟨⟨4,.data⟩,by simp,rfl,rfl⟩ rfl rfl rfl ⟨⟨5,.data⟩,by simp,rfl,rfl⟩
   ·refine Txt.a2d rfl c1k (fun _ _ _ h _=>h) fun a u hS hr _=>?_
    have e0:=hr 6 _ 25 _ rfl rfl rfl ⟨⟨6,.data⟩,by simp,rfl,rfl⟩
    have hm:Array.map a.eval #[.tmp 25]= #[a.tmps.getD 25 undef]:=by simp only [List.map_toArray,List.map_cons,List.map_nil,Act.eval]
    rw [hm]
    refine(csum.out u _ e0).mono ?_
    rintro e u2 ⟨rfl,hk⟩
    exact⟨_,rfl,rfl,hk⟩
   intro v wc kc hv
   have v1:v 1=(.slice KA keys.length kap):=hv 1 _ rfl
   have v2:v 2=(.int .i64 (keys.length:Int)):=hv 2 _ rfl
   have v3:v 3=(.int .u64 (keys.length:Int)):=hv 3 _ rfl
   have v7:v 7=(ab (b4q keys)):=hv 7 _ rfl
   clear hv
   simp [Txt.a1f,List.range,List.range.loop,Act.put,v1,v2,v3,v7]
   generalize v 0=u0 at *
   generalize v 4=u4 at *
   generalize v 5=u5 at *
   generalize v 6=u6 at *
   clear v1 v2 v3 v7
   refine a3q a1o.row (.tmp 2) (.tmp 26) rfl rfl rfl (hb2.out.kept kc (by simp)) (by simpa using hzl.out) (by simpa using hsl.out) (a2r _) ?_
   simp [Act.put]
   have bz:=(hb2.out.kept kc (by simp)).a3w (bv (b4q keys)).toArray
   have kk:Kept [g2] wc (wc.setRow g2 (bv (b4q keys)).toArray):=(Kept.refl [g2] wc).setRow (.inl (by simp)) _
   have kz:=(KK.out.a0f kc).a0p kk L2.out
   clear kk kc hb2 hb3
   go_wp2_with fail
   exact a1i a1o.row rfl rfl bz (by simpa using hsl.out) rfl ⟨rfl,kz⟩
end Go.Proofs.Ytdbngnlpafcogaa
namespace Go.Proofs.Ytdbngnlpafcogaa
open Go.RowKit Go.Mem Go.Txt
set_option maxHeartbeats 1600000 in
theorem c6j(v:Value)(keys:List (List UInt8))(w:World)(hr:Rd w 32 v keys.length (keys.flatMap bv))(hx:keys.length≤1000000) :
 Calls Try.prog 40 #[v] w fun e w'=>∃v',e= .returned v'∧Ow w' 26 32 v' keys.length (keys.flatMap bv)∧Kept [] w w'∧∀k,v'.ownBlock=some k→w.heap.size≤k:=by
 obtain⟨A,c,rfl,hc0,_,hat⟩:=id hr
 have H:=hjd hr
 have qn:=b8v Try.underlying38 A keys.length c 0 0
 clear hr
 cases A with
 | none=>
   have h0:keys= []:=by
    by_cases h:0 < keys.length
    ·obtain⟨_,_,h2,_⟩:=hat h
     cases h2
    ·exact List.length_eq_zero_iff.1 (by omega)
   subst h0
   clear hat hc0
   rw [List.length_nil]at qn ⊢
   rw [show(none:Option Addr).isNone=true from rfl]at qn
   go_enter Try.func40,Try.ntmps40
   go_wp2_with fail
   go_ret
   exact⟨_,rfl,Ow.nil _ _ _,Kept.refl _ _,by simp [Value.ownBlock]⟩
 | some A=>
   clear hat hc0
   go_enter Try.func40,Try.ntmps40
   go_wp2_with (at_builtin;refine a2l a7l rfl (.tmp 5) (.tmp 6) rfl rfl (xs:=[]) (n:=0) (Ow.b2a (a4b (by simp) rfl rfl (by omega))) rfl (H.out.alloc _) (a8h keys) ?_ ?_ ?_)
   case refine_1=>omega
   case refine_2=>omega
   intro v' w' hown hk hb
   go_wp2
   go_ret
   refine⟨_,rfl,by simpa using hown,Kept.fresh ((Kept.refl [] w).alloc _) hk (by simp [Value.ownBlock]),fun k hk2=>?_⟩
   have hk3:v'.ownBlock=some k:=hk2
   rcases hb with hb | hb
   ·rw [hb]at hk3
    simp [Value.ownBlock]at hk3
    omega
   ·rw [hb]at hk3
    simp at hk3
    omega
end Go.Proofs.Ytdbngnlpafcogaa
namespace Go.Proofs.Ytdbngnlpafcogaa
open Go.RowKit Go.Mem Go.Txt
theorem c7s{a b:List (List UInt8)}{j:Nat}(ha:j < a.length)(hb:j < b.length)(h:a.take j=b.take j)(e:a.getD j []=b.getD j []):a.take (j + 1)=b.take (j + 1):=by
 rw [getD_eq ha,getD_eq hb]at e
 rw [List.take_add_one,List.take_add_one,h,List.getElem?_eq_getElem ha,List.getElem?_eq_getElem hb,e]
set_option maxHeartbeats 3200000 in
theorem b2z(va vb:Value)(a b:List (List UInt8))(w:World)(ra:Rd w 32 va a.length (a.flatMap bv))(rb:Rd w 32 vb b.length (b.flatMap bv))(la:∀x∈a,x.length=32)(lb:∀x∈b,x.length=32)(hx:a.length≤1000000) :
 Calls Try.prog 26 #[va,vb] w fun e w'=>e= .returned (.bool (decide (a=b)))∧Kept [] w w':=by
 obtain⟨AA,ac,rfl,_⟩:=id ra
 obtain⟨BA,bc,rfl,_⟩:=id rb
 have HA:=hjd ra
 have HB:=hjd rb
 have la:=hjd la
 have lb:=hjd lb
 clear ra rb
 by_cases hl:a.length=b.length
 ·obtain⟨n,hn⟩:∃n,n=a.length:=⟨_,rfl⟩
  have hnb:n=b.length:=by omega
  rw [←hn]at HA hx ⊢
  rw [←hnb]at HB ⊢
  have na:=hjd hn
  have nb:=hjd hnb
  clear hl hn hnb
  go_enter Try.func26,Try.ntmps26
  go_wp2_with fail
  go_loopg [13] n (fun f g wk=>∃j:Nat,j≤n∧f + j=n∧g= .int .i64 j∧Hid (a.take j=b.take j)∧Kept [] w wk)
  case atStart=>exact⟨0,Nat.zero_le _,rfl,rfl,hjd (by simp),Kept.refl _ _⟩
  case round=>
   obtain⟨j,hj,hfj,rfl,hjj,hwk⟩:=hrel
   by_cases hlt:j < n
   ·have ja:=hjd (show j < a.length by have:=na.out;omega)
    have jb:=hjd (show j < b.length by have:=nb.out;omega)
    have H1:=hjd (HA.out.a0q hwk)
    have H2:=hjd (HB.out.a0q hwk)
    obtain⟨ab1,ao,ad,ea,_⟩:=H1.out.at_ (by omega)
    obtain⟨rfl,rfl⟩:AA=some ⟨ab1,ao,none⟩∧ac=ad:=by simpa using ea
    obtain⟨bb1,bo,bd,eb,_⟩:=H2.out.at_ (by omega)
    obtain⟨rfl,rfl⟩:BA=some ⟨bb1,bo,none⟩∧bc=bd:=by simpa using eb
    clear ea eb
    obtain⟨p1,q1,hp1,hl1⟩:=b2n ja.out la.out
    obtain⟨p2,q2,hp2,hl2⟩:=b2n jb.out lb.out
    have hk1:=hjd (la.out (a.getD j []) (by rw [getD_eq ja.out];exact List.getElem_mem _))
    have hk2:=hjd (lb.out (b.getD j []) (by rw [getD_eq jb.out];exact List.getElem_mem _))
    have hr1:=hjd (Rd.elem (i:=j) H1.out hp1 hl1 (by omega))
    have hr2:=hjd (Rd.elem (i:=j) H2.out hp2 hl2 (by omega))
    have hs:=hjd (c7s ja.out jb.out hjj.out)
    have hno:=hjd (show a=b→a.getD j []=b.getD j []from fun h=>by rw [h])
    have KK:=hjd hwk
    generalize a.getD j []=k1 at *
    generalize b.getD j []=k2 at *
    clear hp1 hl1 hp2 hl2 hwk hjj
    obtain⟨bq,hbq⟩:∃bq:Bool,(k1 == k2)=bq:=⟨_,rfl⟩
    have qe:=a5x hbq hk1.out hk2.out
    replace hbq:=hjd hbq
    go_wp2_with fail
    have S0:=And.intro hr1.out hr2.out
    refine Txt.a1e [3,7,8] (fun u=>u.rangeAt ab1 (ao + j * 32) (bv k1)∧u.rangeAt bb1 (bo + j * 32) (bv k2)) [[_,_,_,_,_,_,_,_,_]] (by kernel_rfl) (by kernel_rfl) rfl S0 (Txt.a0e ?_)
    go_wp2_with (first
     | ((with_reducible refine a0l 18 ?_);refine a6v (o:=⟨some 18,_,_,_,_,_⟩) a7l rfl (.tmp 16) (.tmp 17) rfl rfl rfl hlt ?_)
     | ((with_reducible refine a0l 19 ?_);refine a0r (o:=⟨some 19,_,_,_,_,_⟩) (cs:=bv k1) a1o.row rfl (.tmp 18) rfl rfl S0.1 (by simpa using hk1.out) ?_)
     | ((with_reducible refine a0l 22 ?_);refine a6v (o:=⟨some 22,_,_,_,_,_⟩) a7l rfl (.tmp 20) (.tmp 21) rfl rfl rfl hlt ?_)
     | ((with_reducible refine a0l 23 ?_);refine a0r (o:=⟨some 23,_,_,_,_,_⟩) (cs:=bv k2) a1o.row rfl (.tmp 22) rfl rfl S0.2 (by simpa using hk2.out) ?_))
    refine⟨rfl,S0,Txt.a0x ⟨⟨by kernel_rfl,?_⟩,?_⟩⟩
    ·intro j hj o ho hw
     have hj2:j=3∨j=7∨j=8:=by simpa using hj
     rcases hj2 with rfl | rfl | rfl <;> cases ho
     ·exact⟨19,rfl,fun u hu=>a1c a1o.row (.tmp 18) rfl rfl hu.1 (by simpa using hk1.out)⟩
     ·exact⟨23,rfl,fun u hu=>a1c a1o.row (.tmp 22) rfl rfl hu.2 (by simpa using hk2.out)⟩
     ·exact⟨24,rfl,fun u _=>(a3f a1o Try.underlying5 (by kernel_rfl) (by kernel_rfl) (.tmp 19) (.tmp 23) rfl (xs:=k1) (ys:=k2) rfl rfl hk1.out hk2.out).trans (by rw [hbq.out];rfl)⟩
    clear S0 qe
    cases bq with
    | false=>
      go_wp2_with fail
      go_ret
      refine⟨?_,KK.out.a0f (Kept.refl [] _).drew⟩
      have hne:¬a=b:=fun h=>by
       have h1:=hno.out h
       have h2:=hbq.out
       rw [h1]at h2
       simp at h2
      rw [decide_eq_false hne]
      rfl
    | true=>
      have hnx:=hjd (hs.out (by simpa using hbq.out))
      go_wp2_with fail
      go_roundg (n - (j + 1))
      case measure=>omega
      case rel=>exact⟨j + 1,by omega,by omega,by go_num,hnx,KK.out.a0f (Kept.refl [] _).drew⟩
   ·obtain rfl:j=n:=by omega
    have he:=hjd (show a=b from by
     have h:=hjj.out
     have e1:=na.out
     have e2:=nb.out
     rwa [e1,List.take_length,←e1,e2,List.take_length]at h)
    have KK:=hjd hwk
    clear hwk
    go_wp2_with fail
    go_ret
    exact⟨by rw [decide_eq_true he.out];rfl,KK.out⟩
 ·have hl2:((a.length:Int) !=(b.length:Int))=true:=by rw [bne_iff_ne];omega
  have hne:¬a=b:=fun h=>hl (by rw [h])
  have hne2:=hjd hne
  clear hl hne
  go_enter Try.func26,Try.ntmps26
  go_wp2_with fail
  go_ret
  exact⟨by rw [decide_eq_false hne2.out];rfl,Kept.refl _ _⟩
end Go.Proofs.Ytdbngnlpafcogaa
namespace Go.Proofs.Ytdbngnlpafcogaa
open Go.RowKit Go.Mem Go.Txt
set_option maxHeartbeats 3200000 in
theorem e2q{id key sig:List UInt8}{ver:Int}(v:Value)(L:UpL id key sig)(w:World)
 (cs:∀u,Calls Try.prog 53 #[b0x id ver key sig] u fun e w'=>e= .returned (.bool false)∧Kept [] u w') :
 Calls Try.prog 25 #[v,b0x id ver key sig] w fun e w'=>e= .returned (.tuple #[.slice none 0 0,.int .i64 110])∧Kept [] w w':=by
 have hz:=hjd (a2w (ver:=ver) L)
 replace cs:=hjd cs
 replace L:=hjd L
 go_enter Try.func25,Try.ntmps25
 go_wp2_with (first
  | ((with_reducible refine a0l 3 ?_);(refine a0o (o:=⟨some 3,_,_,_,_,_⟩) (v:=b0x id ver key sig) rfl (.tmp 1) rfl rfl ?_);intro g3 w3 m3;have B3:=hjd (show Blk w3 g3 44 (a2o id ver key sig).toArray from m3.blk);have KK:=hjd m3.kept;clear m3)
  | ((with_reducible refine a0l 7 ?_);refine a0d (cs:=(a2o id ver key sig).toArray) (o:=⟨some 7,_,_,_,_,_⟩) b7n rfl (.tmp 3) rfl rfl B3.out (List.size_toArray.trans hz.out) ?_)
  | (go_at_call 53;(with_reducible refine(cs.out _).mono ?_);rintro e v8 ⟨rfl,k8⟩;replace KK:=hjd (KK.out.a0f k8);clear k8))
 go_ret2
 exact⟨rfl,KK.out⟩
set_option maxHeartbeats 3200000 in
theorem c5v{keys:List (List UInt8)}{id key sig:List UInt8}{ver:Int}(v:Value){w0:World}(hr:Rd w0 32 v keys.length (keys.flatMap bv))(hx:keys.length≤1000000)(L:UpL id key sig)(w:World)
 (cs:∀u,Calls Try.prog 53 #[b0x id ver key sig] u fun e w'=>e= .returned (.bool true)∧Kept [] u w') (hne:ver≠(keys.length:Int) + 1) :
 Calls Try.prog 25 #[v,b0x id ver key sig] w fun e w'=>e= .returned (.tuple #[.slice none 0 0,.int .i64 111])∧Kept [] w w':=by
 obtain⟨VA,vc,rfl,_⟩:=hr
 have hz:=hjd (a2w (ver:=ver) L)
 have hne2:(ver !=((keys.length:Int) + 1))=true:=by rw [bne_iff_ne];exact hne
 replace cs:=hjd cs
 replace L:=hjd L
 clear hne
 go_enter Try.func25,Try.ntmps25
 go_wp2_with (first
  | ((with_reducible refine a0l 3 ?_);(refine a0o (o:=⟨some 3,_,_,_,_,_⟩) (v:=b0x id ver key sig) rfl (.tmp 1) rfl rfl ?_);intro g3 w3 m3;have B3:=hjd (show Blk w3 g3 44 (a2o id ver key sig).toArray from m3.blk);have KK:=hjd m3.kept;clear m3)
  | ((with_reducible refine a0l 7 ?_);refine a0d (cs:=(a2o id ver key sig).toArray) (o:=⟨some 7,_,_,_,_,_⟩) b7n rfl (.tmp 3) rfl rfl B3.out (List.size_toArray.trans hz.out) ?_)
  | (go_at_call 53;(with_reducible refine(cs.out _).mono ?_);rintro e v8 ⟨rfl,k8⟩;have q1:=a2j L.out (B3.out.kept k8 (by simp));replace KK:=hjd (KK.out.a0f k8);clear k8))
 go_ret2
 exact⟨rfl,KK.out⟩
end Go.Proofs.Ytdbngnlpafcogaa
namespace Go.Txt
open Go.RowKit Go.Mem
section
variable {P:Program} {ops:Array Oper} {Q:Exit→Act→World→Prop}
def c4q(l:List Oper)(i:Nat):List Nat:=match l[i]? with
 | some o=>o.after.toList.filterMap fun e=>if Region.binds .any e && decide (e.on < l.length)then some e.on else none
 | none=>[]
def d2a(l:List Oper):Nat→List Nat→List Nat
 | 0,s=>s
 | f + 1,s=>d2a l f (s ++ s.flatMap (c4q l)).eraseDups
theorem b5f{l:List Oper}{i k:Nat}:k∈c4q l i↔∃o,l[i]?=some o∧a1x o k∧k < l.length:=by
 unfold c4q
 cases h:l[i]? with
 | none=>simp
 | some o=>
   simp only [List.mem_filterMap,Option.some.injEq,exists_eq_left']
   constructor
   ·rintro⟨e,he,hb⟩
    split at hb
    ·rename_i hb'
     cases hb
     simp only [Bool.and_eq_true,decide_eq_true_eq]at hb'
     exact⟨⟨e,by simpa using he,rfl,hb'.1⟩,hb'.2⟩
    ·cases hb
   ·rintro⟨⟨e,he,rfl,hb⟩,hk⟩
    exact⟨e,by simpa using he,by rw [if_pos (by simp [hb,hk])]⟩
def b3s(l:List Oper)(L:Nat→Bool):Prop:=∀(j:Nat) o,l[j]?=some o→L j=true→∀k,a1x o k→k < l.length→L k=true
theorem b5k{l:List Oper}{L:Nat→Bool}(hc:b3s l L):∀(f:Nat) (s:List Nat),(∀i∈s,L i=true)→∀k∈d2a l f s,L k=true
 | 0,_,h,k,hk=>h k hk
 | f + 1,s,h,k,hk=>by
   refine b5k hc f _ (fun i hi=>?_) k hk
   rw [List.mem_eraseDups,List.mem_append]at hi
   rcases hi with hi | hi
   ·exact h i hi
   ·obtain⟨j,hj,hi⟩:=List.mem_flatMap.1 hi
    obtain⟨o,ho,hb,hk⟩:=b5f.1 hi
    exact hc j o ho (h j hj) i hb hk
end
end Go.Txt
namespace Go.Txt
open Go.RowKit Go.Mem
section
variable {P:Program} {ops:Array Oper} {Q:Exit→Act→World→Prop}
def c0j(P:Program)(Q:Exit→Act→World→Prop):List Oper→Act→World→Prop
 | [],a,w=>Q .normal a w
 | o :: l,a,w=>o.wp P a w (c0j P Q l) Q
def tailR(l:List Oper)(n:Nat):Bool:=(List.range (l.length - n)).all fun k=>(List.range (n + k)).all fun j=>(d2a l l.length (c4q l (n + k))).contains j
theorem b9o{l:List Oper}{n i:Nat}(h:tailR l n=true)(hn:n≤i)(hi:i < l.length){L:Nat→Bool}(hc:b3s l L){o:Oper}(ho:l[i]?=some o)(hb:∀j,a1x o j→j < l.length→L j=true):∀j,j < i→L j=true:=by
 intro j hj
 have h1:=List.all_eq_true.1 h (i - n) (by simp;omega)
 rw [show n + (i - n)=i from by omega]at h1
 have h2:=List.all_eq_true.1 h1 j (by simpa using hj)
 refine b5k hc _ _ (fun k hk=>?_) j (by simpa using h2)
 obtain⟨o2,ho2,hb2,hk2⟩:=b5f.1 hk
 rw [ho]at ho2;cases ho2
 exact hb k hb2 hk2
theorem c2e{l:List Oper}{L:Nat→Bool}{i:Nat}{o:Oper}(hcl:b3s l L)(ho:l[i]?=some o)(hbound:∀j,a1x o j→L j=true):b3s l (fun j=>if j=i then true else L j):=by
 intro j oj hj hl k hb hk
 dsimp only at hl ⊢
 by_cases hki:k=i
 ·rw [if_pos hki]
 ·rw [if_neg hki]
  by_cases hji:j=i
  ·subst hji
   rw [ho]at hj;cases hj
   exact hbound k hb
  ·rw [if_neg hji]at hl
   exact hcl j oj hj hl k hb hk
theorem d3v{id:Nat}{l:List Oper}{a0:Act}{w0:World}(hm:P.follows .mixedOrders=true)(vs:List Rel)(S:World→Prop)(hch:b1x l a0.tmps.size=true)(hn:vs.length < l.length)(htl:tailR l vs.length=true)
 (hS0:S w0.drew) (hS:∀u u',S u→Kept [] u u'→S u') (hA:b4r (a4y P l vs S a0) l vs)
 (hF:∀(v:Nat→Value) w,S w→(∀(j:Nat) (r:Rel),vs[j]?=some r→r (v j) w)→c0j P Q (l.drop vs.length) (a1f l.toArray v (fun j=>decide (j < vs.length)) (List.range l.length) a0) w):(Code.region id l.toArray true).wp P Q a0 w0:=by
 simp only [b1x,Bool.and_eq_true]at hch
 obtain⟨⟨⟨hdep,hgd⟩,hdst⟩,hsz⟩:=hch
 have hd:∀(i:Nat) (o:Oper),l[i]?=some o→∀(j:Nat),j≠i→∀(oj:Oper),l[j]?=some oj→∀t,oj.dst=some t→o.dst≠some t:=by
  intro i o ho j hj oj hoj t ht e
  have hil:i < l.length:=(List.getElem?_eq_some_iff.1 ho).1
  have hjl:j < l.length:=(List.getElem?_eq_some_iff.1 hoj).1
  have:=List.all_eq_true.1 (List.all_eq_true.1 hdst j (by simpa using hjl)) i (by simpa using hil)
  simp [ho,hoj,ht,e,hj]at this
 have hlt:∀(i:Nat) (o:Oper) d,l[i]?=some o→o.dst=some d→d < a0.tmps.size:=by
  intro i o d ho hdd
  have:=List.all_eq_true.1 hsz o (List.mem_of_getElem? ho)
  simpa [hdd]using this
 have hget:∀(i:Nat) (o:Oper) (d:Tmp) (v:Nat→Value) (L:Nat→Bool),l[i]?=some o→o.dst=some d→L i=true→(a1f l.toArray v L (List.range l.length) a0).tmps.getD d undef=v i:=by
  intro i o d v L ho hdd hL
  exact a7u (by simpa using ho) hdd hL (fun j hj oj hoj t ht=>hd i o ho j hj oj (by simpa using hoj) t ht) _ _ List.nodup_range (by simpa using(List.getElem?_eq_some_iff.1 ho).1) (hlt i o d ho hdd)
 have hoth:∀(t:Tmp) (v:Nat→Value) (L:Nat→Bool),(∀x∈l,x.dst≠some t)→(a1f l.toArray v L (List.range l.length) a0).tmps.getD t undef=a0.tmps.getD t undef:=by
  intro t v L ht
  exact a4q _ _ fun j _ o ho _=>ht o (List.mem_of_getElem? (by simpa using ho))
 have hset:∀(i:Nat) (o:Oper) (v:Nat→Value) (L:Nat→Bool),l[i]?=some o→L i=false→(a1f l.toArray v L (List.range l.length) a0).put o.dst (v i)=a1f l.toArray v (fun j=>if j=i then true else L j) (List.range l.length) a0:=by
  intro i o v L ho hL
  exact(a7r hL (by simpa using ho) (fun j hj oj hoj t ht=>hd i o ho j hj oj (by simpa using hoj) t ht) _ _ List.nodup_range (by simpa using(List.getElem?_eq_some_iff.1 ho).1)).symm
 let I:(Nat→Bool)→Act→World→Prop:=fun L a w=>b3s l L∧((S w∧(∃v:Nat→Value,a=a1f l.toArray v L (List.range l.length) a0∧∀(j:Nat) (r:Rel),vs[j]?=some r→L j=true→r (v j) w)∧∀j,vs.length≤j→j < l.length→L j=false)∨
  ∃m,vs.length < m∧m≤l.length∧(∀j,j < m→L j=true)∧(∀j,m≤j→j < l.length→L j=false)∧c0j P Q (l.drop m) a w)
 have hvl:∀(j:Nat) (r:Rel),vs[j]?=some r→j < vs.length:=fun j r h=>(List.getElem?_eq_some_iff.1 h).1
 refine wp_region_any hm ?_
 refine a9x I ?_ hdep ?_ ?_ _ _ _ _ (by simp) (by simp) ?_
 ·rintro L L' a w hL ⟨hc,h⟩
  have hL2:∀j,j < l.length→L j=L' j:=fun j hj=>hL j (by simpa using hj)
  refine⟨fun j o hj hl k hb hk=>?_,?_⟩
  ·have hjl:j < l.length:=(List.getElem?_eq_some_iff.1 hj).1
   exact(hL2 k hk).symm.trans (hc j o hj ((hL2 j hjl).trans hl) k hb hk)
  rcases h with⟨h1,⟨v,h2,hr⟩,h3⟩ | ⟨m,m1,m2,m3,m4,m5⟩
  ·exact .inl ⟨h1,⟨v,h2.trans (a1q _ _ fun j hj=>⟨hL2 j (by simpa using hj),fun _=>rfl⟩),fun j r hj hl=>hr j r hj ((hL2 j (by have:=hvl j r hj;omega)).trans hl)⟩,fun j hj hl=>(hL2 j hl).symm.trans (h3 j hj hl)⟩
  ·exact .inr ⟨m,m1,m2,fun j hj=>(hL2 j (by omega)).symm.trans (m3 j hj),fun j hj hl=>(hL2 j hl).symm.trans (m4 j hj hl),m5⟩
 ·rintro L a w i o ⟨hcl,hI⟩ ho hLi hdeps
  have ho':l[i]?=some o:=by simpa using ho
  have hil:i < l.length:=(List.getElem?_eq_some_iff.1 ho').1
  have hg:o.guard=none:=by
   have:=List.all_eq_true.1 hgd o (List.mem_of_getElem? ho')
   simpa using this
  have hbound:∀j,a1x o j→L j=true:=by
   rintro j ⟨e,he,rfl,hb⟩
   exact hdeps e he hb
  have hstep:=c2e hcl ho' hbound
  unfold wpOp
  simp only [ho]
  rw [if_pos (by simp [Region.wanted,hg])]
  refine .inl ?_
  have hnext:∀m,vs.length≤m→i=m→(∀j,j < m→L j=true)→(∀j,m≤j→j < l.length→L j=false)→∀a w,c0j P Q (l.drop m) a w→o.wp P a w (fun a' w'=>I (fun j=>if j=i then true else L j) a' w') Q:=by
   rintro m hm rfl m3 m4 a w hq
   rw [List.drop_eq_getElem_cons hil]at hq
   have e:l[i]=o:=by
    rw [List.getElem?_eq_getElem hil]at ho'
    simpa using ho'
   rw [e]at hq
   refine Oper.wp_mono (fun a' w' hq=>⟨hstep,.inr ⟨i + 1,by omega,by omega,fun j hj=>?_,fun j hj hl=>?_,hq⟩⟩) hq
   ·dsimp only
    by_cases h:j=i
    ·rw [if_pos h]
    ·rw [if_neg h];exact m3 j (by omega)
   ·dsimp only
    rw [if_neg (by omega)];exact m4 j (by omega) hl
  rcases hI with⟨h1,⟨v,rfl,hr⟩,h3⟩ | ⟨m,m1,m2,m3,m4,m5⟩
  case inr=>
   have hmi:m≤i:=by
    rcases Nat.lt_or_ge i m with h | h
    ·rw [m3 i h]at hLi;cases hLi
    ·exact h
   have him:i=m:=by
    rcases Nat.lt_or_ge m i with h | h
    ·have:=b9o htl (by omega) hil hcl ho' (fun j hb _=>hbound j hb) m h
     rw [m4 m (Nat.le_refl _) (by omega)]at this;cases this
    ·omega
   exact hnext m (by omega) him m3 m4 _ _ m5
  by_cases hin:vs.length≤i
  ·have hall:=b9o htl hin hil hcl ho' (fun j hb _=>hbound j hb)
   have hi:i=vs.length:=by
    rcases Nat.lt_or_ge vs.length i with h | h
    ·have:=hall vs.length h
     rw [h3 _ (Nat.le_refl _) hn]at this;cases this
    ·omega
   have e1:a1f l.toArray v L (List.range l.length) a0=a1f l.toArray v (fun j=>decide (j < vs.length)) (List.range l.length) a0:=by
    refine a1q _ _ fun j hj=>⟨?_,fun _=>rfl⟩
    have hj':j < l.length:=by simpa using hj
    by_cases h:j < vs.length
    ·rw [hall j (by omega)];simp [h]
    ·rw [h3 j (by omega) hj'];simp [h]
   refine hnext vs.length (Nat.le_refl _) hi (fun j hj=>hall j (by omega)) h3 _ _ ?_
   rw [e1]
   exact hF v w h1 fun j r hj=>hr j r hj (hall j (by have:=hvl j r hj;omega))
  ·have hi:i < vs.length:=by omega
   have hv:vs[i]?=some vs[i]:=by simp [hi]
   obtain⟨_,hp⟩:=b4r.get l vs i o vs[i] hA ho' hv
   refine hp _ w _ _ h1 (fun j r d oj hK hoj hdj hb=>?_) (fun t ht=>hoth t _ L ht) (fun u w' hk hru=>⟨hstep,.inl ⟨hS _ _ h1 hk,⟨fun j=>if j=i then u else v j,?_,fun j r hj hl=>?_⟩,fun j hj hl=>?_⟩⟩)
   ·rw [hget j oj d v L hoj hdj (hbound j hb)]
    exact hr j r hK (hbound j hb)
   ·have e1:a1f l.toArray v L (List.range l.length) a0=a1f l.toArray (fun j=>if j=i then u else v j) L (List.range l.length) a0:=by
     refine a1q _ _ fun j _=>⟨rfl,fun hl=>?_⟩
     have hji:j≠i:=fun e=>by rw [e,hLi]at hl;cases hl
     simp [hji]
    have:=hset i o (fun j=>if j=i then u else v j) L ho' hLi
    simp only [if_true]at this
    rw [e1];exact this
   ·dsimp only at hl ⊢
    by_cases hji:j=i
    ·subst hji
     rw [hv]at hj;cases hj
     rw [if_pos rfl];exact hru
    ·rw [if_neg hji]at hl ⊢
     obtain⟨oj,hoj⟩:∃oj,l[j]?=some oj:=⟨_,List.getElem?_eq_getElem (by have:=hvl j r hj;omega)⟩
     obtain⟨hst,_⟩:=b4r.get l vs j oj r hA hoj hj
     exact hst _ _ _ (hr j r hj hl) hk
   ·dsimp only
    rw [if_neg (by omega)];exact h3 j hj hl
 ·rintro L a w ⟨_,⟨_,_,h3⟩ | ⟨m,m1,m2,m3,m4,m5⟩⟩ hall
  ·have:=h3 _ (Nat.le_refl _) hn
   rw [hall vs.length (by simpa using hn)]at this;cases this
  ·have:m=l.length:=by
    rcases Nat.lt_or_ge m l.length with h | h
    ·have h2:=m4 m (Nat.le_refl _) h
     rw [hall m (by simpa using h)]at h2;cases h2
    ·omega
   subst this
   rwa [List.drop_length]at m5
 ·have hf:∀(j:Nat),j < l.length→(Array.replicate l.toArray.size false).getD j true=false:=by
   intro j hj;simp [hj]
  refine⟨fun j o hj hl=>absurd ((hf j (List.getElem?_eq_some_iff.1 hj).1).symm.trans hl) (by simp),.inl ⟨hS0,⟨fun _=>undef,?_,fun j r hj hl=>absurd ((hf j (by have:=hvl j r hj;omega)).symm.trans hl) (by simp)⟩,fun j _ hl=>hf j hl⟩⟩
  rw [a1q (L':=fun _=>false) (v':=fun _=>undef) _ _ fun j hj=>⟨hf j (by simpa using hj),fun _=>rfl⟩,a6e]
end
end Go.Txt
namespace Go.Proofs.Ytdbngnlpafcogaa
open Go.RowKit Go.Mem Go.Txt
section
variable {P:Program} {w:World} {o:Oper} {a:Act} {C:Act→World→Prop} {R:Exit→Act→World→Prop} {t e:TypeId} {s bytes:Nat} {z:Value}
theorem c7d(T:SliceT P t e s bytes z){x0:Operand}(ho:o.op= .buildSlice t 1 #[(0,x0)]){v0:Value}(h0:a.eval x0=v0)
 (hsmall:s≤2 ^ 24) {cells:Array Value} (hc:v0.cells=cells) (hcs:cells.size=s)
 (h:∀g w',Made w w' g e cells→C (a.put o.dst (.slice (some ⟨g,0,none⟩) 1 1)) w'):o.wp P a w C R:=by
 obtain⟨i,hi,hz,hs,hb⟩:=info_parts T.2
 have e2:(#[(0,x0)].map fun(p:Nat × Operand)=>(p.1,a.eval p.2)).toList= [(0,v0)]:=by simp [h0]
 have hf:Instr.fill (fun i=>some (i * s,s)) ((Array.range (1 * s)).map (z.cells[· % z.cells.size]!)) [(0,v0)]=some cells:=by
  have hzs:((Array.range (1 * s)).map (z.cells[· % z.cells.size]!)).size=s:=by simp
  subst hc
  unfold Instr.fill
  simp only [hcs,Nat.zero_mul,ne_eq,hzs,Nat.zero_add,gt_iff_lt,Nat.lt_irrefl,decide_false,Bool.or_false,decide_not,decide_true,Bool.not_true,Bool.false_eq_true,if_false,Instr.fill]
  congr 1
  rw [←Array.foldl_toList,Array.toList_zipIdx]
  apply Array.ext_getElem?
  intro j
  refine(b6r v0.cells.toList 0 _ j).trans ?_
  rw [hzs]
  by_cases hj:j < s
  ·rw [if_pos (by rw [Array.length_toList,hcs];omega)];simp
  ·rw [if_neg (by omega),Array.getElem?_eq_none (by rw [hzs];omega),Array.getElem?_eq_none (by omega)]
 exact wp_buildSlice t e 1 _ ho cells i z T.1 hi hz (by rw [hs];omega) (by rw [hs];have:=T.pos;omega) (by rw [hs];exact(congrArg (Instr.fill _ _) e2).trans hf) (h _ _ ⟨Blk.new _ _ _,(Kept.refl [] w).alloc _,Nat.le_refl _⟩)
theorem d8c{size n m:Nat}{xs news:List Value}(T:SliceT P t e size bytes z)(x y:Operand)
 (ho:o.op= .call {callee:=.builtin .append,args:=#[x,y],argTypes:=#[t,t]}) {v:Value} (hs:a.eval x=v) (hown:Ow w e size v n xs)
 {xv:Value} (hx:a.eval y=xv) (hr:Rd w size xv m news) (h1:∀u∈news,u.oneCell'=true) (hbytes:(n + m) * bytes≤140737488355328) (h63:n + m≤9223372036854775807)
 (h:∀v' w',Ow w' e size v' (n + m) (xs ++ news)→Kept v.ownBlock.toList w w'→(v'.ownBlock=v.ownBlock∨v'.ownBlock=some w.heap.size)→C (a.put o.dst v') w'):o.wp P a w C R:=by
 obtain⟨v',w',hrun,h2,h3,h4⟩:=c5i T o.type hown hr h1 hbytes h63
 unfold Oper.wp execOp
 simp only [ho,resolve,invoke,builtin,Sem.run_bind,Sem.run_pure,Result.andThen_ok,List.map_toArray,List.map_cons,List.map_nil,hs,hx,hrun]
 exact h _ _ h2 h3 h4
end
section
variable {l:List Oper} {vs:List Rel} {a0:Act} {w0:World} {o:Oper}
def a5r(key:List UInt8):Rel:=fun v w=>Rd w 32 v [key].length ([key].flatMap bv)
theorem a5r.a0q{key:List UInt8}{v:Value}{w w':World}(h:a5r key v w)(k:Kept [] w w'):a5r key v w':=Rd.a0q h k
theorem d1y{x i:Nat}{key:List UInt8}{oi:Oper}(hk:key.length=32)(ho:o.op= .buildSlice 38 1 #[(0,.tmp x)])
 (hi:vs[i]?=some (isV (ab key))) (hl:l[i]?=some oi) (hd:oi.dst=some x) (hb:a1x o i):a4y Try.prog l vs (fun u=>Kept [] w0 u) a0 o (a5r key):=by
 refine⟨fun _ _ _ h hk=>a5r.a0q h hk,fun a w C R hS hr _ h=>?_⟩
 have e:a.tmps.getD x undef=ab key:=hr i _ x oi hi hl hd hb
 exact c7d a7l ho (show a.eval (.tmp x)=ab key from e) (by decide) (cells:=(bv key).toArray) rfl (by simpa using hk) fun g w' m=>h _ _ m.kept (b7r m.blk hk)
def c6h(keys:List (List UInt8))(K:Nat):Rel:=fun v w=>Ow w 26 32 v keys.length (keys.flatMap bv)∧∀k,v.ownBlock=some k→K≤k
theorem c6h.a0q{keys:List (List UInt8)}{K:Nat}{v:Value}{w w':World}(h:c6h keys K v w)(k:Kept [] w w'):c6h keys K v w':=⟨h.1.a0q k,h.2⟩
end
theorem b7c(xs:Array Value)(w:World):(callFunc 40 xs).run Try.prog w= .ok (.enter 40 xs) w:=enters_of (c:=_) Try.func40 (by kernel_rfl) rfl xs w
theorem d2o{a:Act}{o:Oper}{x g:Nat}(ho:o.op= .fieldAddr 44 (.tmp x) 2)(W:World)(hx:a.tmps.getD x undef= .pointer (some ⟨g,0,none⟩)):(execOp a.eval o).run Try.prog W= .ok (.value (.pointer (some ⟨g,33,none⟩))) W:=by
 unfold execOp
 simp only [ho,Sem.run_bind,Act.eval,hx]
 have h:(Instr.fieldAt 44 (.pointer (some ⟨g,0,none⟩)) 2).run Try.prog W= .ok (.pointer (some ⟨g,0 + 33,none⟩)) W:=by kernel_rfl
 rw [Nat.zero_add]at h
 rw [h]
 rfl
set_option maxHeartbeats 3200000 in
theorem c3c{keys:List (List UInt8)}{id key sig:List UInt8}{ver:Int}(v:Value)(w:World)(hr:Rd w 32 v keys.length (keys.flatMap bv))(hx:keys.length≤1000000)(L:UpL id key sig)
 (cs:∀u,Calls Try.prog 53 #[b0x id ver key sig] u fun e w'=>e= .returned (.bool true)∧Kept [] u w') (he:ver=(keys.length:Int) + 1) :
 Calls Try.prog 25 #[v,b0x id ver key sig] w fun e w'=>∃v',e= .returned (.tuple #[v',.int .i64 0])∧(Ow w' 26 32 v' (keys ++ [key]).length ((keys ++ [key]).flatMap bv)∧∀j,v'.ownBlock=some j→w.heap.size≤j)∧Kept [] w w':=by
 have ck:=hjd (fun u h=>c6j v keys u h hx)
 have H:=hjd hr
 obtain⟨VA,vc,rfl,_⟩:=hr
 have hz:=hjd (a2w (ver:=ver) L)
 have hne2:(ver !=((keys.length:Int) + 1))=false:=by rw [he];simp
 have he2:((keys.length:Int) + 1 !=(keys.length:Int) + 1)=false:=by simp
 replace cs:=hjd cs
 replace L:=hjd L
 replace he:=hjd he
 go_enter Try.func25,Try.ntmps25
 go_wp2_with (first
  | ((with_reducible refine a0l 3 ?_);(refine a0o (o:=⟨some 3,_,_,_,_,_⟩) (v:=b0x id ver key sig) rfl (.tmp 1) rfl rfl ?_);intro g3 w3 m3;have B3:=hjd (show Blk w3 g3 44 (a2o id ver key sig).toArray from m3.blk);have KK:=hjd m3.kept;clear m3)
  | ((with_reducible refine a0l 7 ?_);refine a0d (cs:=(a2o id ver key sig).toArray) (o:=⟨some 7,_,_,_,_,_⟩) b7n rfl (.tmp 3) rfl rfl B3.out (List.size_toArray.trans hz.out) ?_)
  | (go_at_call 53;(with_reducible refine(cs.out _).mono ?_);rintro e v8 ⟨rfl,k8⟩;replace B3:=hjd (B3.out.kept k8 (by simp));have q1:=a2j L.out B3.out;replace KK:=hjd (KK.out.a0f k8);clear k8))
 have H2:=hjd (H.out.a0q KK.out)
 clear q1
 refine Txt.d3v (by kernel_rfl) [Txt.isV (.slice VA keys.length vc),c6h keys v8.heap.size,Txt.isV (.pointer (some ⟨g3,33,none⟩)),Txt.isV (ab key),a5r key] (fun u=>Kept [] v8 u) (by kernel_rfl) (by simp) (by kernel_rfl) ((Kept.refl [] v8).drew) (fun u u2 h k=>h.a0f k) ⟨?_,?_,?_,?_,?_,trivial⟩ ?_
 ·exact a2n (x:=0) rfl (by decide) fun a W hx=>a6y rfl W hx
 ·refine Txt.a2d rfl b7c (fun v u u2 h k=>c6h.a0q h k) fun a u hS hr _=>?_
  have e0:a.tmps.getD 17 undef=(.slice VA keys.length vc):=hr 0 _ 17 _ rfl rfl rfl ⟨⟨0,.data⟩,by simp,rfl,rfl⟩
  have hm:Array.map a.eval #[.tmp 17]= #[(.slice VA keys.length vc)]:=by simp only [List.map_toArray,List.map_cons,List.map_nil,Act.eval,e0]
  rw [hm]
  refine((ck.out u (H2.out.a0q hS))).mono ?_
  rintro e u2 ⟨v,rfl,ho,hk,hf⟩
  exact⟨v,rfl,⟨ho,fun k h=>Nat.le_trans hS.size (hf k h)⟩,hk⟩
 ·exact a2n (x:=3) rfl (by decide) fun a W hx=>d2o rfl W hx
 ·refine a7t fun a u hS hr _=>?_
  have e0:=hr 2 _ 19 _ rfl rfl rfl ⟨⟨2,.data⟩,by simp,rfl,rfl⟩
  exact a1c a1o.row (.tmp 19) rfl e0 (a3g L.out (B3.out.kept hS (by simp))) (by simpa using L.out.key)
 ·exact d1y (x:=20) (i:=3) L.out.key rfl rfl rfl rfl ⟨⟨3,.data⟩,by simp,rfl,rfl⟩
 intro v wc kc hv
 have v0:v 0=(.slice VA keys.length vc):=hv 0 _ rfl
 have h1:(c6h keys v8.heap.size) (v 1) wc:=hv 1 _ rfl
 have v2:v 2=(.pointer (some ⟨g3,33,none⟩)):=hv 2 _ rfl
 have v3:v 3=(ab key):=hv 3 _ rfl
 have h4:(a5r key) (v 4) wc:=hv 4 _ rfl
 clear hv
 simp [Txt.a1f,List.range,List.range.loop,Act.put,v0,v2,v3]
 generalize v 1=u1 at *
 generalize v 4=u4 at *
 clear v0 v2 v3
 obtain⟨o18,f18⟩:=h1
 have r4:Rd wc 32 u4 [key].length ([key].flatMap bv):=h4
 unfold Txt.c0j
 refine d8c a7l (.tmp 18) (.tmp 21) rfl rfl o18 rfl r4 (a8h [key]) (by simp;omega) (by simp;omega) ?_
 intro x22 w22 o22 k22 b22
 have F22:=hjd (show∀j,x22.ownBlock=some j→w.heap.size≤j from fun j hj=>by
  have h1:=KK.out.size
  rcases b22 with b | b
  ·exact Nat.le_trans h1 (f18 j (b.symm.trans hj))
  ·have h2:=kc.size
   have:some wc.heap.size=some j:=b.symm.trans hj
   cases this
   omega)
 have O22:=hjd o22
 have KF:=hjd ((KK.out.a0f kc).fresh k22 (fun k hk=>Nat.le_trans KK.out.size (f18 k (Option.mem_toList.1 hk))))
 obtain⟨YA,yc,rfl,_⟩:=o22.shape
 clear k22 o22 o18 f18 r4 h4 b22
 simp only [Act.put]
 unfold Txt.c0j
 refine a9e (v:=.slice YA (keys.length + [key].length) yc) rfl ?_
 unfold Txt.c0j
 refine a9e (v:=.int .i64 0) rfl ?_
 unfold Txt.c0j
 simp [Act.put]
 go_wp2_with fail
 go_ret2
 refine⟨_,rfl,⟨?_,F22.out⟩,KF.out⟩
 simpa using O22.out
theorem d5q{keys:List (List UInt8)}{id key sig:List UInt8}{ver:Int}(v:Value)(w:World)(hr:Rd w 32 v keys.length (keys.flatMap bv))(hx:keys.length≤1000000)(L:UpL id key sig)
 (cs:∀u,Calls Try.prog 53 #[b0x id ver key sig] u fun e w'=>e= .returned (.bool true)∧Kept [] u w') (he:ver=(keys.length:Int) + 1) :
 Calls Try.prog 25 #[v,b0x id ver key sig] w fun e w'=>∃v',e= .returned (.tuple #[v',.int .i64 0])∧Rd w' 32 v' (keys ++ [key]).length ((keys ++ [key]).flatMap bv)∧Kept [] w w':=by
 refine(c3c v w hr hx L cs he).mono ?_
 rintro e w' ⟨v',rfl,ho,hk⟩
 exact⟨v',rfl,Rd.a4x ho.1,hk⟩
end Go.Proofs.Ytdbngnlpafcogaa
namespace Go.Proofs.Ytdbngnlpafcogaa
open Go.RowKit Go.Mem Go.Txt
noncomputable def c0q (seed:List UInt8) (ver:Int) (key:List UInt8):List UInt8:=b7b seed (a9j 1 (a5a ver key))
noncomputable def idU (seed:List UInt8):List UInt8:=d1e (c0p seed)
theorem a6q(seed:List UInt8)(ver:Int){key:List UInt8}(hk:key.length=32):UpL (idU seed) key (c0q seed ver key):=⟨b0d _,hk,c9v _ _⟩
theorem a9u{seed key:List UInt8}(ver:Int)(hs:seed.length=32)(hk:key.length=32)(w:World) :
 Calls Try.prog 24 #[ab seed,.int .i64 ver,ab key] w fun e w'=>e= .returned (b0x (idU seed) ver key (c0q seed ver key))∧Kept [] w w':=
 d0q hs (a6q seed ver hk) (fun u=>c7c _ hs u) (fun u=>b9h ver hk u) (seal_c 1 1 rfl hs (by rw [a9w hk];decide)) w
theorem c0w(seed:List UInt8)(ver:Int)(key:List UInt8):okU (idU seed) ver key (c0q seed ver key)=decide (1≤ver∧ver≤64):=by
 unfold okU c0q idU
 rw [d9z,Bool.and_true]
set_option maxHeartbeats 1600000 in
theorem b3p{key:List UInt8}(ver:Int)(hk:key.length=32)(w:World) :
 Calls Try.prog 29 #[.int .i64 ver,ab key] w fun e w'=>∃v',e= .returned v'∧a4a (a5a ver key) v' w'∧Kept [] w w':=by
 have hk:=hjd hk
 obtain⟨n,hn⟩:∃n,n=e0d ver:=⟨_,rfl⟩
 have hnl:=hjd (show n < 18446744073709551616 from by rw [hn];exact d2n ver)
 have ew:IntKind.u64.wrap ver=(n:Int):=by
  rw [hn]
  show ver % 18446744073709551616=_
  unfold e0d
  omega
 have hj:=hjd (show a5a ver key=be8 n ++ key from by rw [hn];rfl)
 clear hn
 go_enter Try.func29,Try.ntmps29
 go_wp2_with (first
  | ((with_reducible refine a0l 3 ?_);(refine a0o (o:=⟨some 3,_,_,_,_,_⟩) (v:=ab key) rfl (.tmp 1) rfl rfl ?_);intro g3 w3 m3;have B3:=hjd (show Blk w3 g3 26 (bv key).toArray from m3.blk);have KK:=hjd m3.kept;clear m3))
 refine Txt.a2t (by kernel_rfl) (by kernel_rfl) ?_
 go_wp2_with (first
  | (go_at_call 58;(with_reducible refine(b3d n _ hnl.out).mono ?_);rintro e v7 ⟨x7,rfl,h7⟩
     obtain⟨NA,nc,rfl,_⟩:=h7.ow.shape
     have N7:=hjd h7
     have G7:=hjd (show g3 < w3.heap.size from B3.out.lt)
     replace B3:=hjd (B3.out.kept h7.kept.a2a (by simp))
     clear h7)
  | (at_builtin;refine a2l a1n rfl (.tmp 7) (.tmp 8) rfl rfl (xs:=bv (be8 n)) (n:=(be8 n).length) N7.out.ow rfl (a4u B3.out hk.out) (a2v key) (by rw [hk.out,a2k];decide) (by rw [hk.out,a2k];decide) ?_
     intro x9 w9 o9 k9 b9
     have R9:=hjd (Rd.a4x o9)
     obtain⟨YA,yc,rfl,_⟩:=o9.shape
     have KF:=hjd ((KK.out.a0f N7.out.kept.a2a).fresh k9 (fun k hk2=>by
      have h:=Option.mem_toList.1 hk2
      rcases N7.out.near with h3 | ⟨g,h3,h4⟩
      ·exact absurd (h3.symm.trans h) (by simp)
      ·have e:some g=some k:=h3.symm.trans h
       cases e
       exact Nat.le_trans KK.out.size h4))
     clear o9 k9 b9))
 refine⟨rfl,by kernel_rfl,?_⟩
 go_wp2_with fail
 go_ret
 refine⟨_,rfl,?_,KF.out⟩
 rw [hj.out]
 have:=R9.out
 unfold a4a
 show Rd w9 1 (.slice YA ((be8 n).length + 32) yc) _ _
 rw [←hk.out]
 simpa using this
theorem b2q{keys:List (List UInt8)}{id key sig:List UInt8}(ver:Int)(v:Value)(w:World)(hr:Rd w 32 v keys.length (keys.flatMap bv))(hx:keys.length≤1000000)(L:UpL id key sig) :
 Calls Try.prog 25 #[v,b0x id ver key sig] w fun e w'=>∃v' c,e= .returned (.tuple #[v',.int .i64 c])∧Kept [] w w'∧
  ((okU id ver key sig=false∧c=110∧v'= .slice none 0 0)∨(okU id ver key sig=true∧ver≠(keys.length:Int) + 1∧c=111∧v'= .slice none 0 0)∨
    (okU id ver key sig=true∧ver=(keys.length:Int) + 1∧c=0∧Ow w' 26 32 v' (keys ++ [key]).length ((keys ++ [key]).flatMap bv)∧∀j,v'.ownBlock=some j→w.heap.size≤j)):=by
 have cs:=fun u=>b5u ver L u
 cases hok:okU id ver key sig with
 | false=>
   rw [hok]at cs
   refine(e2q v L w cs).mono ?_
   rintro e w' ⟨rfl,hk⟩
   exact⟨_,_,rfl,hk,.inl ⟨rfl,rfl,rfl⟩⟩
 | true=>
   rw [hok]at cs
   by_cases he:ver=(keys.length:Int) + 1
   ·refine(c3c v w hr hx L cs he).mono ?_
    rintro e w' ⟨v',rfl,hr',hk⟩
    exact⟨_,_,rfl,hk,.inr (.inr ⟨rfl,he,rfl,hr'.1,hr'.2⟩)⟩
   ·refine(c5v v hr hx L w cs he).mono ?_
    rintro e w' ⟨rfl,hk⟩
    exact⟨_,_,rfl,hk,.inr (.inl ⟨rfl,he,rfl,rfl⟩)⟩
end Go.Proofs.Ytdbngnlpafcogaa
namespace Go.Proofs.Ytdbngnlpafcogaa
open Go.RowKit Go.Mem Go.Txt
def fcN{α:Type}(n:Nat)(f:Nat→α):α:=match n with
 | 0=>f 0
 | k + 1=>f (k + 1)
theorem fcN_eq{α:Type}(n:Nat)(f:Nat→α):fcN n f=f n:=by cases n <;> rfl
def fcB{α:Type}(x:B32)(f:B32→α):α:=fcN x.toNat fun n=>f (BitVec.ofNat 32 n)
theorem c4p{α:Type}(x:B32)(f:B32→α):fcB x f=f x:=by unfold fcB;rw [fcN_eq,BitVec.ofNat_toNat,BitVec.setWidth_eq]
def nxtB(w:List B32):B32:=ls1 (w.getD 14 0) + w.getD 9 0 + ls0 (w.getD 1 0) + w.getD 0 0
def goB:List Nat→List B32→B32→B32→B32→B32→B32→B32→B32→B32→List B32
 | [],_,a,b,c,d,e,f,g,h=>[a,b,c,d,e,f,g,h]
 | k :: ks,w,a,b,c,d,e,f,g,h=>
   fcB (h + us1 e + chB e f g + b2x k + w.getD 0 0) fun t=>
   fcB (t + (us0 a + mjB a b c)) fun x=>
   fcB (d + t) fun y=>
   fcB (nxtB w) fun z=>goB ks (w.tail ++ [z]) x a b c y e f g
theorem d8m(p:Nat→UInt8)(h0:Nat→B32):∀(ks:List Nat) (t:Nat) (w:List B32) (a b c d e f g h:B32),(∀j,j < ks.length→ks.getD j 0=a1s.getD (t + j) 0)→w.length=16→(∀i,i < 16→w.getD i 0=sch p (t + i))→
 a4m p h0 t 0=a→a4m p h0 t 1=b→a4m p h0 t 2=c→a4m p h0 t 3=d→a4m p h0 t 4=e→a4m p h0 t 5=f→a4m p h0 t 6=g→a4m p h0 t 7=h→
 goB ks w a b c d e f g h=(List.range 8).map (a4m p h0 (t + ks.length))
 | [],t,w,_,_,_,_,_,_,_,_,_,_,_,e0,e1,e2,e3,e4,e5,e6,e7=>by
   subst e0 e1 e2 e3 e4 e5 e6 e7
   rfl
 | k :: ks,t,w,_,_,_,_,_,_,_,_,hk,hl,hw,e0,e1,e2,e3,e4,e5,e6,e7=>by
   unfold goB
   rw [c4p,c4p,c4p,c4p]
   have ek:k=a1s.getD t 0:=by have:=hk 0 (by simp);simpa using this
   have ew:w.getD 0 0=sch p t:=hw 0 (by decide)
   have en:nxtB w=sch p (t + 16):=by
    unfold nxtB
    rw [hw 14 (by decide),hw 9 (by decide),hw 1 (by decide),hw 0 (by decide),c0h p (t:=t + 16) (by omega)]
    rfl
   have hk2:∀j,j < ks.length→ks.getD j 0=a1s.getD (t + 1 + j) 0:=fun j hj=>by
    have:=hk (j + 1) (by simp;omega)
    rw [show t + 1 + j=t + (j + 1)from by omega,←this]
    simp
   have hw2:∀i,i < 16→(w.tail ++ [nxtB w]).getD i 0=sch p (t + 1 + i):=fun i hi=>by
    by_cases h15:i=15
    ·subst h15
     rw [List.getD_eq_getElem?_getD,List.getElem?_append_right (by simp [hl]),show t + 1 + 15=t + 16 from by omega,←en]
     simp [hl]
    ·have hi2:i + 1 < 16:=by omega
     have:=hw (i + 1) hi2
     rw [show t + 1 + i=t + (i + 1)from by omega,←this,List.getD_eq_getElem?_getD,List.getElem?_append_left (by simp [hl];omega),List.getD_eq_getElem?_getD]
     simp
   have r0:a4m p h0 (t + 1) 0=a4m p h0 t 7 + us1 (a4m p h0 t 4) + chB (a4m p h0 t 4) (a4m p h0 t 5) (a4m p h0 t 6) + b2x k + w.getD 0 0 + (us0 (a4m p h0 t 0) + mjB (a4m p h0 t 0) (a4m p h0 t 1) (a4m p h0 t 2)):=by
    rw [ek,ew];rfl
   have r4:a4m p h0 (t + 1) 4=a4m p h0 t 3 + (a4m p h0 t 7 + us1 (a4m p h0 t 4) + chB (a4m p h0 t 4) (a4m p h0 t 5) (a4m p h0 t 6) + b2x k + w.getD 0 0):=by
    rw [ek,ew];rfl
   subst e0 e1 e2 e3 e4 e5 e6 e7
   refine(d8m p h0 ks (t + 1) _ _ _ _ _ _ _ _ _ hk2 (by simp [hl]) hw2 r0 rfl rfl rfl r4 rfl rfl rfl).trans ?_
   rw [List.length_cons,show t + 1 + ks.length=t + (ks.length + 1)from by omega]
def c7e:List Nat:=a1s.take 64
theorem b8g:c7e.length=64:=by decide +kernel
theorem c9s(j:Nat)(h:j < c7e.length):c7e.getD j 0=a1s.getD j 0:=by
 rw [b8g]at h
 unfold c7e
 rw [List.getD_eq_getElem?_getD,List.getElem?_take,if_pos h,List.getD_eq_getElem?_getD]
def blkB(p:Nat→UInt8)(h:List B32):List B32:=
 (List.zipWith (· + ·) h (goB c7e ((List.range 16).map (d3r p)) (h.getD 0 0) (h.getD 1 0) (h.getD 2 0) (h.getD 3 0) (h.getD 4 0) (h.getD 5 0) (h.getD 6 0) (h.getD 7 0)))
theorem d9y(p:Nat→UInt8)(h:Nat→B32):blkB p ((List.range 8).map h)=(List.range 8).map (blk p h):=by
 unfold blkB
 have hz:∀i,i < 8→((List.range 8).map h).getD i 0=h i:=fun i hi=>by simp [List.getD_eq_getElem?_getD,hi]
 rw [hz 0 (by decide),hz 1 (by decide),hz 2 (by decide),hz 3 (by decide),hz 4 (by decide),hz 5 (by decide),hz 6 (by decide),hz 7 (by decide)]
 have q:=d8m p h c7e 0 ((List.range 16).map (d3r p)) (h 0) (h 1) (h 2) (h 3) (h 4) (h 5) (h 6) (h 7) (fun j hj=>by rw [Nat.zero_add];exact c9s j hj) (by simp) (fun i hi=>by
  rw [Nat.zero_add,c0g p hi]
  simp [List.getD_eq_getElem?_getD,hi]) rfl rfl rfl rfl rfl rfl rfl rfl
 rw [q,b8g]
 rfl
def d4f(b:List UInt8):Nat→List B32
 | 0=>a3d.map b2x
 | n + 1=>blkB (fun j=>b.getD (64 * n + j) 0) (d4f b n)
theorem c3b(b:List UInt8):∀n,d4f b n=(List.range 8).map (a4t b n)
 | 0=>rfl
 | n + 1=>by unfold d4f;rw [c3b b n,d9y];rfl
def shaB(m:List UInt8):List UInt8:=(List.range 32).map fun j=>UInt8.ofNat (((d4f (pad m) ((pad m).length / 64)).getD (j / 4) 0).toNat / 2 ^ (24 - 8 * (j % 4)))
theorem b7v(m:List UInt8):sha m=shaB m:=by
 unfold sha shaB b9b
 apply List.map_congr_left
 intro j hj
 have hj2:j < 32:=List.mem_range.1 hj
 have h8:j / 4 < 8:=by omega
 rw [c3b]
 simp [List.getD_eq_getElem?_getD,h8]
end Go.Proofs.Ytdbngnlpafcogaa
namespace Go.Proofs.Ytdbngnlpafcogaa
open Go.RowKit Go.Mem Go.Txt
theorem val_ne:(b4q [] == b4q [a0j 32])=false:=by
 have e0:b4q []=shaB (2 :: (be8 0 ++ a0j 32)):=by rw [←b7v];rfl
 have e1:b4q [a0j 32]=shaB (2 :: (be8 1 ++ shaB (3 :: (a0j 32 ++ a0j 32)))):=by rw [←b7v,←b7v];rfl
 rw [e0,e1]
 decide +kernel
end Go.Proofs.Ytdbngnlpafcogaa
namespace Go.Proofs.Ytdbngnlpafcogaa
open Go.RowKit Go.Mem Go.Txt
theorem hlit5:Value.agg ((bv (a0j 32)).set 0 (.int .u8 5)).toArray=ab (le 5 32):=by kernel_rfl
theorem hlit6:Value.agg ((bv (a0j 32)).set 0 (.int .u8 6)).toArray=ab (le 6 32):=by kernel_rfl
set_option maxHeartbeats 3200000 in
theorem c2l{s k K S Z V0 V1:List UInt8}(hs:s.length=32)(L:UpL K k S)(hzl:Z.length=32)(h0:V0.length=32)(h1:V1.length=32)(hv:(V0 == V1)=false)(l5:Value.agg ((bv Z).set 0 (.int .u8 5)).toArray=ab s)(l6:Value.agg ((bv Z).set 0 (.int .u8 6)).toArray=ab k)(l0:Value.agg #[.int .u8 0,.int .u8 0,.int .u8 0,.int .u8 0,.int .u8 0,.int .u8 0,.int .u8 0,.int .u8 0,.int .u8 0,.int .u8 0,.int .u8 0,.int .u8 0,.int .u8 0,.int .u8 0,.int .u8 0,.int .u8 0,.int .u8 0,.int .u8 0,.int .u8 0,.int .u8 0,.int .u8 0,.int .u8 0,.int .u8 0,.int .u8 0,.int .u8 0,.int .u8 0,.int .u8 0,.int .u8 0,.int .u8 0,.int .u8 0,.int .u8 0,.int .u8 0]=ab Z)
 (cm:∀u,Calls Try.prog 24 #[ab s,.int .i64 1,ab k] u fun e w'=>e= .returned (b0x K 1 k S)∧Kept [] u w')
 (c2:∀u,Calls Try.prog 25 #[.slice none 0 0,Value.agg (a2o K 1 k S).toArray] u fun e w'=>∃v',e= .returned (.tuple #[v',.int .i64 0])∧a5r k v' w'∧Kept [] u w')
 (c3:∀u v,a5r k v u→Calls Try.prog 25 #[v,Value.agg (a2o K 1 k S).toArray] u fun e w'=>e= .returned (.tuple #[.slice none 0 0,.int .i64 111])∧Kept [] u w')
 (cg:∀u,Calls Try.prog 53 #[Value.agg (a2o K 1 k S).toArray] u fun e w'=>e= .returned (.bool true)∧Kept [] u w')
 (v0:∀u,Calls Try.prog 27 #[.slice none 0 0] u fun e w'=>e= .returned (ab V0)∧Kept [] u w')
 (v1:∀u x,a5r Z x u→Calls Try.prog 27 #[x] u fun e w'=>e= .returned (ab V1)∧Kept [] u w') (w:World) :
 Calls Try.prog 23 #[] w fun e w'=>e= .returned (.bool true)∧Kept [] w w':=by
 have ho:=hjd (b4e (id:=K) (key:=k) (sig:=S) (ver:=1))
 have hz:=hjd (a2w (ver:=0) (show UpL (a0j 32) (a0j 32) (a0j 64)from⟨rfl,rfl,rfl⟩))
 have hz2:=hjd (a2w (ver:=1) L)
 have q1:=a5x (b:=true) (beq_self_eq_true k) L.key L.key
 have q2:=a5x hv h0 h1
 have hzn:¬Z= []:=by
  intro h
  rw [h]at hzl
  cases hzl
 replace hs:=hjd hs
 replace L:=hjd L
 replace hzl:=hjd hzl
 replace cm:=hjd cm
 replace c2:=hjd c2
 replace c3:=hjd c3
 replace cg:=hjd cg
 replace v0:=hjd v0
 replace v1:=hjd v1
 clear hv h0 h1
 have t:=hjd (Pm.none w)
 go_enter Try.func23,Try.ntmps23
 go_wp2_with (first
  | (go_at_call 24;(with_reducible refine(cm.out _).mono ?_);rintro e u8 ⟨rfl,kk⟩;replace t:=hjd (t.out.kept kk);clear kk)
  | ((with_reducible refine a0l 1 ?_);(refine a0g (o:=⟨some 1,_,_,_,_,_⟩) rfl rfl a8r ?_);intro g1 w1 m1
     have B1:=hjd (show Blk w1 g1 44 (a2o (a0j 32) 0 (a0j 32) (a0j 64)).toArray from m1.blk)
     refine a0b (cs:=(a2o K 1 k S).toArray) (o:=⟨none,Op.store 44 (.tmp 1) (.tmp 8),_,_,_,_⟩) b7n rfl (.tmp 1) (.tmp 8) rfl rfl rfl B1.out (List.size_toArray.trans hz.out) (List.size_toArray.trans hz2.out) ho.out ?_
     intro wb b1 k1
     replace t:=hjd (t.out.put m1 b1 k1)
     clear m1 b1 k1 B1)
  | ((with_reducible refine a0l 10 ?_);refine a0d (cs:=(a2o K 1 k S).toArray) (o:=⟨some 10,_,_,_,_,_⟩) b7n rfl (.tmp 1) rfl rfl (t.out.s (g1,44,(a2o K 1 k S).toArray) (by simp)) (List.size_toArray.trans hz2.out) ?_)
  | (go_at_call 25;(with_reducible refine(c2.out _).mono ?_);rintro e u11 ⟨x11,rfl,r11,kk⟩
     obtain⟨b2,o2,cp2,rfl,_⟩:=Rd.at_ (n:=1) r11 (by decide)
     have R:=hjd r11
     replace t:=hjd (t.out.kept kk);clear kk r11)
  | ((with_reducible refine a0l 16 ?_);refine a0d (cs:=(a2o K 1 k S).toArray) (o:=⟨some 16,_,_,_,_,_⟩) b7n rfl (.tmp 1) rfl rfl (t.out.s (g1,44,(a2o K 1 k S).toArray) (by simp)) (List.size_toArray.trans hz2.out) ?_)
  | (go_at_call 25;(with_reducible refine(c3.out _ _ R.out).mono ?_);rintro e u17 ⟨rfl,kk⟩
     replace t:=hjd (t.out.kept kk);replace R:=hjd (a5r.a0q R.out kk);clear kk)
  | ((with_reducible refine a0l 20 ?_);refine a0d (cs:=(a2o K 1 k S).toArray) (o:=⟨some 20,_,_,_,_,_⟩) b7n rfl (.tmp 1) rfl rfl (t.out.s (g1,44,(a2o K 1 k S).toArray) (by simp)) (List.size_toArray.trans hz2.out) ?_)
  | (go_at_call 53;(with_reducible refine(cg.out _).mono ?_);rintro e u21 ⟨rfl,kk⟩
     replace t:=hjd (t.out.kept kk);replace R:=hjd (a5r.a0q R.out kk);clear kk)
  | ((with_reducible refine a0l 33 ?_);refine a6v (i:=0) (n:=1) (o:=⟨some 33,_,_,_,_,_⟩) a7l rfl (.tmp 32) (.const (.int .i64 0)) rfl rfl rfl (by decide) ?_)
  | ((with_reducible refine a0l 34 ?_);refine a0r (o:=⟨some 34,_,_,_,_,_⟩) (cs:=bv k) a1o.row rfl (.tmp 33) rfl rfl (Rd.elem (i:=0) (n:=1) (pre:=[]) (post:=[]) R.out (by simp) (by simp) (by decide)) (by simpa using L.out.key) ?_)
  | (go_at_call 27;(with_reducible refine(v0.out _).mono ?_);rintro e u43 ⟨rfl,kk⟩;replace t:=hjd (t.out.kept kk);clear kk)
  | ((with_reducible refine a0l 45 ?_);(refine a1m (o:=⟨some 45,_,_,_,_,_⟩) (v0:=ab Z) (cells:=(bv Z).toArray) rfl a7l rfl rfl (by decide) rfl (by simpa using hzl.out) ?_);intro g45 w45 m45
     have R45:=hjd (show a5r Z (.slice (some ⟨g45,0,none⟩) 1 1) w45 from b7r m45.blk hzl.out)
     replace t:=hjd (t.out.kept m45.kept)
     clear m45)
  | (go_at_call 27;(with_reducible refine(v1.out _ _ R45.out).mono ?_);rintro e u46 ⟨rfl,kk⟩;replace t:=hjd (t.out.kept kk);clear kk))
 go_ret
 exact⟨rfl,t.out.k⟩
theorem b1e(w:World):Calls Try.prog 23 #[] w fun e w'=>e= .returned (.bool true)∧Kept [] w w':=by
 have hs:=a0u 5 32
 have hk:=a0u 6 32
 have L:=a6q (le 5 32) 1 hk
 have hok:okU (idU (le 5 32)) 1 (le 6 32) (c0q (le 5 32) 1 (le 6 32))=true:=by rw [c0w];rfl
 have cg:=fun u=>b5u 1 L u
 rw [hok]at cg
 refine c2l hs L (by rfl) (a3e _) (a3e _) val_ne hlit5 hlit6 b6e (fun u=>a9u 1 hs hk u) (fun u=>?_) (fun u v h=>?_) cg (fun u=>?_) (fun u x h=>?_) w
 ·exact d5q (keys:=[]) (.slice none 0 0) u (Rd.nil _ _) (by simp) L cg rfl
 ·exact c5v (keys:=[le 6 32]) v h (by simp) L u cg (by simp)
 ·exact a5i (.slice none 0 0) [] u (Rd.nil _ _) (by simp) (by simp)
 ·exact a5i x [a0j 32] u h (by simp) (by simp)
end Go.Proofs.Ytdbngnlpafcogaa
namespace Go.Proofs.Ytdbngnlpafcogaa
open Go.RowKit Go.Mem Go.Txt
end Go.Proofs.Ytdbngnlpafcogaa
namespace Go.Proofs.Ytdbngnlpafcogaa
open Go.ChangeShapes Go.WideShapes Go.ChangeAt Go.RowKit Go.Mem
section
variable {H:Type} {enc:TypeId × Value→H} {P:Program} {w:World} {base:Nat} {spare:Nat→Bool} {held:Bool}
theorem d5e{e te:TypeId}(he:P.underlying e=some (.array 32 te))(h3:P.underlying te=some (.int .u8))(c3:P.cellsOf te=1){fuel:Nat}{cs:List Value}{y:DataW H × List MemPlace}(hn:cs.length=32)
 (h:DataW.trod enc P w base spare held fuel e cs=some y):∃bs:List UInt8,cs=bv bs∧bs.length=32:=by
 cases fuel with
 | zero=>simp [DataW.trod]at h
 | succ m=>
   unfold DataW.trod at h
   rw [he]at h
   simp only [hn,c3,Nat.mul_one]at h
   have each:∀i (hi:i < 32),∃b:UInt8,cs[i]'(by omega)=a1p b:=by
    intro i hi
    cases hq:DataW.trod enc P w base spare held m te ((cs.drop i).take 1)with
    | none=>
      have:=mapM_none_of (f:=fun i=>DataW.trod enc P w base spare held m te ((cs.drop i).take 1)) (l:=List.range 32) (x:=i) (by simpa using hi) hq
      rw [this]at h
      simp at h
    | some y=>
      have e1:(cs.drop i).take 1= [cs[i]'(by omega)]:=by
       have:=List.drop_eq_getElem_cons (l:=cs) (i:=i) (by omega)
       rw [this]
       rfl
      rw [e1]at hq
      exact d9u h3 hq
   refine⟨(List.range 32).map fun i=>if hi:i < 32 then(each i hi).choose else 0,?_,by simp⟩
   apply List.ext_getElem
   ·simp [hn]
   ·intro i h1 h2
    have hi:i < 32:=by omega
    simp only [bv,List.map_map,List.getElem_map,List.getElem_range,Function.comp_apply,dif_pos hi]
    exact(each i hi).choose_spec
theorem d2g:∀(l:List (List UInt8)) (_:∀k∈l,k.length=32) (j:Nat) (u:Value),(l.flatMap bv)[j]?=some u→∃(q r:Nat) (h:q < l.length),j=q * 32 + r∧(bv l[q])[r]?=some u
 | [],_,_,_,h=>by simp at h
 | x :: l,hk,j,u,h=>by
   have e:(x :: l).flatMap bv=bv x ++ l.flatMap bv:=by simp
   have hl:(bv x).length=32:=by simpa using hk x (by simp)
   rw [e]at h
   by_cases hj:j < 32
   ·rw [List.getElem?_append_left (by omega)]at h
    exact⟨0,j,by simp,by omega,h⟩
   ·rw [List.getElem?_append_right (by omega),hl]at h
    obtain⟨q,r,hq,he,hu⟩:=d2g l (fun k hm=>hk k (List.mem_cons_of_mem _ hm)) (j - 32) u h
    exact⟨q + 1,r,by simp;omega,by omega,by simpa using hu⟩
theorem c8q{t e te:TypeId}(ht:P.underlying t=some (.slice e))(he:P.underlying e=some (.array 32 te))(hc:P.cellsOf e=32)(h3:P.underlying te=some (.int .u8))(c3:P.cellsOf te=1){v:Value}{d:DataW H}{p:List MemPlace}
 (h:∃fuel,DataW.trod enc P w base spare held fuel t v.cells.toList=some (d,p)) (hv:∃A n c,v= .slice A n c) :
 ∃keys:List (List UInt8),Rd w 32 v keys.length (keys.flatMap bv)∧(keys= []∧d= .nil∨∃el sp,d= .slice el sp∧el.length=keys.length)∧keys.length≤9223372036854775807∧∀k∈keys,k.length=32:=by
 obtain⟨A,n,c,rfl⟩:=hv
 obtain⟨fuel,hf⟩:=h
 rcases DataW.trod_slice ht hf with⟨hcs,hx⟩ | ⟨a,len,cap,elems,rest,m,_,hcs,hx,_,hl,hm,hlen,hel,_,_⟩
 ·simp [Value.cells]at hcs
  obtain⟨rfl,rfl,rfl⟩:=hcs
  exact⟨[],Rd.nil _ _,.inl ⟨rfl,by injection hx⟩,by simp,by simp⟩
 ·simp [Value.cells]at hcs
  obtain⟨rfl,rfl,rfl⟩:=hcs
  have each:∀i,∃k:List UInt8,k.length=32∧(i < n→∀(j:Nat) u,(bv k)[j]?=some u→w.cell? ((a.add (i * 32)).add j)=some u):=by
   intro i
   by_cases hi:i < n
   ·have hb:=hel i hi
    have hil:i < elems.length:=by omega
    rw [hc,List.getElem?_eq_getElem hil,Option.bind_eq_some_iff]at hb
    obtain⟨cs,hcs,hy⟩:=hb
    obtain⟨_,hcl,hcc⟩:=World.cells?_some hcs
    obtain⟨bs,rfl,hbl⟩:=d5e he h3 c3 hcl hy
    refine⟨bs,hbl,fun _ j u hu=>?_⟩
    have hj:j < (bv bs).length:=(List.getElem?_eq_some_iff.1 hu).1
    have:=hcc j (by simpa [hbl]using hj)
    rw [this]
    exact hu
   ·exact⟨a0j 32,by simp,fun h=>absurd h hi⟩
  obtain⟨f,hf2⟩:=Classical.axiomOfChoice each
  have hlen2:((List.range n).map f).length=n:=by simp
  have hkl:∀k∈(List.range n).map f,k.length=32:=by
   intro k hk
   obtain⟨i,_,rfl⟩:=List.mem_map.1 hk
   exact(hf2 i).1
  refine⟨(List.range n).map f,⟨_,_,by rw [hlen2],by rw [c5h hkl],by rw [hlen2];exact hl,fun hn=>?_⟩,.inr ⟨_,_,by injection hx,by simp [hlen]⟩,?_,hkl⟩
  ·rw [hlen2]at hn
   have hb0:(bv (f 0))[0]?=some ((bv (f 0))[0]'(by simp [(hf2 0).1])):=List.getElem?_eq_getElem _
   have k0:=(hf2 0).2 hn 0 _ hb0
   obtain⟨b,o,sp⟩:=a
   have hsp:sp=none:=by
    cases sp with
    | none=>rfl
    | some k=>
      simp only [Addr.add,Nat.zero_mul,if_true]at k0
      unfold World.cell? at k0
      split at k0 <;> simp at k0
   subst hsp
   refine⟨b,o,rfl,fun j u hu=>?_⟩
   obtain⟨q,r,hq,rfl,hu2⟩:=d2g _ hkl _ _ hu
   rw [hlen2]at hq
   simp only [List.getElem_map,List.getElem_range]at hu2
   have:=(hf2 q).2 hq r u hu2
   rw [a3j,a3j]at this
   rwa [←Nat.add_assoc]
  ·rw [hlen2]
   have:c≤9223372036854775807:=by simpa [maxLen]using hm
   omega
end
end Go.Proofs.Ytdbngnlpafcogaa
