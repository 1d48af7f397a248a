/-
  The document's digests: Sum of parts (32 bits).
-/
import Derived.Test.YtdbngnlpafcogaaGreatZbDg4
set_option maxRecDepth 100000
namespace Go.Proofs.YtdbngnlpafcogaaGreat
open Go.RowKit Go.Mem Go.Txt
set_option maxHeartbeats 1600000 in
theorem d7o(pv:Value)(ps:List (Value × List UInt8))(w:World)(hp:Parts w pv ps)(hn:ps.length≤9223372036854775807)(hl:(a0u ps).length≤1000000000000) :
 Calls Tryz.prog 19 #[pv] w fun e w'=>e= .returned (ab (sha (a0u ps)))∧Kept [] w w':=by
 have hP:=hjd hp
 have hL:=hjd hl
 obtain⟨PA,pc,rfl,_,_,_⟩:=hp.outer
 clear hp hl
 go_enter Tryz.func19,Tryz.ntmps19
 go_wp2_with (first
  | ((with_reducible refine a0h (o:=⟨some 2,_,_,_,_,_⟩) rfl rfl c4r ?_);intro g2 w2 m2
     replace hP:=hjd (hP.out.a0o m2.kept)
     have K2:=hjd m2.kept
     have B2:=hjd (show Blk w2 g2 22 (bv (a0e 32)).toArray from m2.blk)
     have l2:=hjd m2.le
     clear m2))
 have N0:=hjd (New.nil w2)
 go_loopg [3,11] ps.length (fun fu r i wk=>∃k:Nat,k≤ps.length∧fu + k=ps.length∧i= .int .i64 k∧Hid (New w2 wk r (a0u (ps.take k))))
 case atStart=>exact⟨0,Nat.zero_le _,by omega,rfl,by simpa [a0u]using N0⟩
 case round=>
  clear N0
  obtain⟨k,hk,hfu,rfl,N0⟩:=hrel
  by_cases hlt:k < ps.length
  ·have hPk:=hP.out.a0o N0.out.kept
   obtain⟨pb,po,pc2,heq,_,hcell⟩:=hPk.outer.at_ (by omega)
   cases heq
   have hin:=hPk.inner ps[k] (List.getElem_mem _)
   have hcl:=hcell k ps[k].1 (by simp [hlt])
   have hle:=b5j ps (k + 1)
   have hj:=b0i ps k hlt
   rw [hj,List.length_append]at hle
   generalize hpk:ps[k]=x at *
   obtain⟨p1,p2⟩:=x
   dsimp only at hin hcl hle hj
   have hin2:=hjd hin
   obtain⟨B,bc,rfl,_,_,_⟩:=hin
   have hsz2:=hjd (show(a0u (ps.take k)).length + p2.length≤1000000000000 from by have:=hL.out;omega)
   have hj2:=hjd hj
   obtain⟨OA,oc,rfl,_⟩:=N0.out.ow.shape
   clear hcell hj hPk hle
   go_wp2_with (at_builtin;refine a1v a1l rfl (.tmp 15) (.tmp 16) rfl rfl N0.out.ow rfl hin2.out (a2q _) ?_ ?_ ?_)
   case refine_1=>have:=hsz2.out;omega
   case refine_2=>have:=hsz2.out;omega
   intro v' w3 hown hk2 hb2
   have hn5:=hjd (show New w2 w3 v' (a0u (ps.take (k + 1)))from N0.out.step (by rw [hj2.out,List.length_append];simpa [bv]using hown) hk2 N0.out.old (by
    rcases hb2 with h | h
    ·exact .inl h
    ·exact .inr ⟨_,h,N0.out.kept.size⟩))
   clear hown hk2 hb2
   go_wp2_with fail
   go_roundg (ps.length - (k + 1))
   case measure=>omega
   case rel=>exact⟨k + 1,by omega,by omega,by go_num,hn5⟩
  ·obtain rfl:k=ps.length:=by omega
   rw [List.take_length]at N0
   have dg:=hjd (fun(u:World) (v:Value) (h:Rd u 1 v (a0u ps).length (bv (a0u ps)))=>c9h v (a0u ps) u h hL.out)
   have hlen:=a4q (a0u ps)
   obtain⟨OA,oc,rfl,_⟩:=N0.out.ow.shape
   generalize hm:a0u ps=m at *
   replace hm:=hjd hm
   generalize hsha:sha m=s at *
   replace hsha:=hjd hsha
   clear hP hL
   go_wp2_with (first
    | ((with_reducible refine a0h (o:=⟨some 6,_,_,_,_,_⟩) rfl rfl c4r ?_);intro g6 w6 m6
       have l6:=hjd (Nat.le_trans N0.out.kept.size m6.le)
       have n6:=hjd (show g2≠g6 from fun e=>by have:=B2.out.lt;have:=N0.out.kept.size;have:=m6.le;omega)
       replace N0:=hjd (N0.out.a0g m6.kept)
       have B6:=hjd (show Blk w6 g6 22 ((fam 32 (mix (fun _=>0) (fun i=>s.getD i 0) 0)).map a1h).toArray from by
        rw [a5w];exact m6.blk)
       have t6:=hjd B6.out.lt
       clear m6)
    | (go_at_call 67;(with_reducible refine(dg.out _ _ (Rd.a6u N0.out.ow)).mono ?_);rintro e w7 ⟨v7,rfl,h7⟩
       obtain⟨A7,c7,rfl,_⟩:=h7.ow.shape
       rw [hlen]
       have R7:=hjd (Rd.a6u h7.ow)
       have r7:=hjd h7.near
       replace N0:=hjd (N0.out.a0g h7.kept)
       replace B6:=hjd (B6.out.kept h7.kept (by simp))
       clear h7 dg))
   obtain⟨b7,o7,c8,heq7,_,hc7⟩:=R7.out.at_ (by rw [hlen];decide)
   have hA7:A7=some ⟨b7,o7,none⟩:=by injection heq7
   subst hA7
   have nb7:=hjd (show b7≠g6 from fun e=>by
    rcases r7.out with h | ⟨g,h,hg⟩
    ·cases h
    ·have h9:b7=g:=by simpa [Value.ownBlock]using h
     have:=t6.out
     omega)
   have HC:=hjd (show∀j,j < 32→w7.cell? ⟨b7,o7 + j,none⟩=some (a1h (s.getD j 0))from fun j hj=>hc7 j _ (by
    have hj':j < s.length:=by omega
    simp [List.getD_eq_getElem?_getD,hj']))
   have K:=hjd N0.out.kept
   clear hc7 heq7 R7 r7 t6 N0
   go_loopg [22] 32 (fun fu i wk=>∃k:Nat,k≤32∧fu + k=32∧i= .int .i64 (k:Int)∧Hid (Blk wk g6 22 ((fam 32 (mix (fun _=>0) (fun i=>s.getD i 0) k)).map a1h).toArray)∧Hid (Kept [] w2 wk)∧Hid (∀j,j < 32→wk.cell? ⟨b7,o7 + j,none⟩=some (a1h (s.getD j 0))))
   case atStart=>exact⟨0,by omega,by omega,rfl,B6,K,HC⟩
   case round=>
    clear B6 K HC
    obtain⟨k,hk2,hfu2,rfl,B6,K,HC⟩:=hrel
    by_cases hlt2:k < 32
    ·have q7:=HC.out k hlt2
     unfold a1h at q7
     have f6:=B6.out.frozen k
     obtain⟨y6,q6⟩:∃y,wr.cell? ⟨g6,k,none⟩=some y:=⟨_,B6.out.a6j k hlt2⟩
     have s6:=hjd (show Blk (wr.setCell ⟨g6,k,none⟩ (.int .u8 ((s.getD k 0).toNat:Int))) g6 22 _ from B6.out.a7v)
     have ks:=hjd (show Kept [] w2 (wr.setCell ⟨g6,k,none⟩ (.int .u8 ((s.getD k 0).toNat:Int)))from K.out.setCell (.inr l6.out) _)
     have hs:=hjd (show∀j,j < 32→(wr.setCell ⟨g6,k,none⟩ (.int .u8 ((s.getD k 0).toNat:Int))).cell? ⟨b7,o7 + j,none⟩=some (a1h (s.getD j 0))from fun j hj=>((Kept.refl [g6] wr).setCell (p:=⟨g6,k,none⟩) (.inl (by simp)) _).cell (HC.out j hj) (by simpa using nb7.out))
     generalize ((s.getD k 0).toNat:Int)=z at *
     clear B6 K HC
     go_wp2_with fail
     go_roundg (32 - (k + 1))
     case measure=>omega
     case rel=>exact⟨k + 1,by omega,by omega,by go_num,s6,ks,hs⟩
    ·obtain rfl:k=32:=by omega
     have b6:=hjd (show Blk wr g6 22 (bv s).toArray from by
      have:=B6.out
      rw [a3f]at this
      have e:fam 32 (fun i=>s.getD i 0)=s:=by
       apply List.ext_getElem (by simp [fam,hlen])
       intro i h1 h2
       simp [fam,List.getD_eq_getElem?_getD,h2]
      rwa [e]at this)
     have b2:=hjd (B2.out.kept K.out (by simp))
     clear B6 HC B2
     go_wp2_with (first
      | (with_reducible refine a0l 31 ?_;refine a0d (o:=⟨some 31,_,_,_,_,_⟩) c8z rfl (.tmp 6) rfl rfl b6.out (by simp [hlen]) ?_)
      | ((with_reducible refine a8s (.tmp 2) (.tmp 31) ?_)
         refine a0c (cs:=(bv s).toArray) (o:=⟨none,Op.store 22 (.tmp 2) (.tmp 31),_,_,_,_⟩) c8z rfl (.tmp 2) (.tmp 31) rfl rfl rfl b2.out (by simp) (by simp [hlen]) (a1r _) ?_
         intro wb bb kb
         have BB:=hjd bb
         have KK:=hjd ((K2.out.a0g K.out).a0p kb l2.out)
         clear bb kb))
     exact a1g c8z rfl rfl BB.out (by simp [hlen]) rfl ⟨by rw [hm.out,hsha.out],KK.out⟩
end Go.Proofs.YtdbngnlpafcogaaGreat
