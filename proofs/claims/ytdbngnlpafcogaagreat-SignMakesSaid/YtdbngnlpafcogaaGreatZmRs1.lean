/-
  The document's sign: 32 of 64 bytes; a seed's number.
-/
import Derived.Test.YtdbngnlpafcogaaGreatZmSg2
import Derived.Test.YtdbngnlpafcogaaGreatZmDq4
set_option maxRecDepth 100000
namespace Go.Proofs.YtdbngnlpafcogaaGreat
open Go.RowKit Go.Mem Go.Txt
set_option maxHeartbeats 1600000 in
theorem d6s(v:Value)(bs:List UInt8)(at_:Nat)(z:Int)(hz:(at_:Int)=z)(w:World)(hr:Rd w 1 v bs.length (bv bs))(hat:at_ + 32≤bs.length)(hl:bs.length≤1000000) :
 Calls Tryz.prog 55 #[v,.int .i64 z] w fun e w'=>e= .returned (ab ((bs.drop at_).take 32))∧Kept [] w w':=by
 subst hz
 obtain⟨gb,o,c,rfl,_,hcell⟩:=hr.at_ (by omega)
 have R:=hjd hr
 have ho:((bs.drop at_).take 32).length=32:=by simp;omega
 have hgo:∀k (h:k < 32),((bs.drop at_).take 32)[k]'(by omega)=bs[at_ + k]'(by omega):=fun k h=>by simp
 obtain⟨O,hO⟩:∃O,O=(bs.drop at_).take 32:=⟨_,rfl⟩
 rw [←hO]at ho
 have hgo2:∀k (h:k < 32),O[k]'(by omega)=bs[at_ + k]'(by omega):=fun k h=>by subst hO;exact hgo k h
 have hO2:=hjd hO
 have hget:=hjd hgo2
 have holen:=hjd ho
 have hat2:=hjd hat
 have hlt0:gb < w.heap.size:=World.block_lt_of_cell? w _ (hcell 0 (a1q (bs[0]'(by omega))) (by simp [bv];exact⟨_,List.getElem?_eq_getElem (by omega),rfl⟩))
 have hc0:∀j (h:j < bs.length),w.cell? ⟨gb,o + j,none⟩=some (a1q (bs[j]'h)):=fun j h=>hcell j _ (by simp [bv];exact⟨_,List.getElem?_eq_getElem h,rfl⟩)
 clear hgo hgo2 hO hcell R hr
 go_enter Tryz.func55,Tryz.ntmps55
 go_wp2_with (first
  | ((with_reducible refine a0f (o:=⟨some 4,_,_,_,_,_⟩) rfl rfl a3h ?_);intro g4 w4 m4)
  | ((with_reducible refine a0f (o:=⟨some 5,_,_,_,_,_⟩) rfl rfl a3h ?_);intro g5 w5 m5))
 have N45:=hjd (m5.ne m4.blk.lt)
 have B4:=hjd (m4.blk.kept m5.kept (by simp))
 have B5:=hjd m5.blk
 have KK:=hjd (m4.kept.a0i m5.kept)
 have L4:=hjd m4.le
 have L5:=hjd (Nat.le_trans m4.kept.size m5.le)
 have NB:=hjd (show gb≠g5 from fun e=>by have:=L5.out;omega)
 have C5:=hjd (fun j (h:j < bs.length)=>(m5.kept.cell (m4.kept.cell (hc0 j h) (by simp)) (by simp):w5.cell? ⟨gb,o + j,none⟩=some (a1q (bs[j]'h))))
 clear hc0 hlt0
 clear m4 m5
 go_loopg [7] 32 (fun f i wk=>∃k:Nat,k≤32∧f + k=32∧i= .int .i64 k∧Blk wk g5 22 (bv (a5u (a0p 32) 0 (O.take k))).toArray∧Kept [g5] w5 wk)
 case atStart=>exact⟨0,Nat.zero_le _,rfl,rfl,B5.out,Kept.refl _ _⟩
 case round=>
  obtain⟨k,hk,hf,rfl,hb,hkw⟩:=hrel
  by_cases hlt:k < 32
  ·have c1:=hkw.cell (C5.out (at_ + k) (by have:=hat2.out;omega)) (by simpa using NB.out)
   have hlb:at_ + k < bs.length:=by have:=hat2.out;omega
   have hfz:=hb.frozen k
   have c3:=hb.c7k k (by rw [a4u _ _ _ (by simp;omega)];simpa using hlt)
   have hst:=hb.a6m k (a1q (O[k]'(by have:=holen.out;omega)))
   rw [a4q (a0p 32) O k (by rw [holen.out];exact hlt) (by rw [holen.out];simp)]at hst
   have hst2:=hjd hst
   have hk2:=hjd (hkw.setCell (p:=⟨g5,k,none⟩) (.inl (by simp)) (a1q (O[k]'(by have:=holen.out;omega))))
   rw [hget.out k hlt]at hst2 hk2
   unfold a1q at hst2 hk2 c1
   clear hst hb hkw
   go_wp2_with fail
   go_roundg (32 - (k + 1))
   case measure=>omega
   case rel=>exact⟨k + 1,by omega,by omega,by go_num,hst2.out,hk2.out⟩
  ·obtain rfl:k=32:=by omega
   have hb2:=hjd hb
   have hk2:=hjd hkw
   clear hb hkw
   rw [List.take_of_length_le (by rw [holen.out];exact Nat.le_refl _),a7b _ _ (by rw [holen.out];rfl)]at hb2
   go_wp2_with (first
    | (refine a0s a1u rfl (.tmp 5) rfl rfl hb2.out (by simpa using holen.out) ?_)
    | (refine a1p a1u rfl (.tmp 4) (.tmp 19) rfl rfl rfl (B4.out.kept hk2.out (by simpa using N45.out)) rfl (by simpa using holen.out) (a2a _) ?_;intro w6 b6 k6))
   exact a5c a1u rfl rfl b6 (by simpa using holen.out) rfl ⟨by rw [hO2.out],(KK.out.a0n hk2.out L5.out).a0n k6 L4.out⟩
end Go.Proofs.YtdbngnlpafcogaaGreat
