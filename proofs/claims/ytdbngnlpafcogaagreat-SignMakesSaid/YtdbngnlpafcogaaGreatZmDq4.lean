/-
  The document's digests: Long of parts (64 bits).
-/
import Derived.Test.YtdbngnlpafcogaaGreatZmDq3
set_option maxRecDepth 100000
namespace Go.Proofs.YtdbngnlpafcogaaGreat.Q
open Go.RowKit Go.Mem Go.Txt
set_option maxHeartbeats 1600000 in
theorem c0g(pv:Value)(ps:List (Value × List UInt8))(w:World)(hp:Parts w pv ps)(hn:ps.length≤9223372036854775807)(hl:(a1k ps).length≤1000000000000) :
 Calls Tryz.prog 45 #[pv] w fun e w'=>∃v',e= .returned v'∧New w w' v' (sha (a1k ps)):=by
 have hP:=hjd hp
 have hL:=hjd hl
 obtain⟨PA,pc,rfl,_,_,_⟩:=hp.outer
 clear hp hl
 go_enter Tryz.func45,Tryz.ntmps45
 go_wp2_with fail
 have N0:=hjd (New.nil w)
 go_loopg [3,8] ps.length (fun fu r i wk=>∃k:Nat,k≤ps.length∧fu + k=ps.length∧i= .int .i64 k∧Hid (New w wk r (a1k (ps.take k))))
 case atStart=>exact⟨0,Nat.zero_le _,by omega,rfl,by simpa [a1k]using N0⟩
 case round=>
  clear N0
  obtain⟨k,hk,hfu,rfl,N0⟩:=hrel
  by_cases hlt:k < ps.length
  ·have hPk:=hP.out.a1o N0.out.kept
   obtain⟨pb,po,pc2,heq,_,hcell⟩:=hPk.outer.at_ (by omega)
   cases heq
   have hin:=hPk.inner ps[k] (List.getElem_mem _)
   have hcl:=hcell k ps[k].1 (by simp [hlt])
   have hle:=b4u ps (k + 1)
   have hj:=a9l ps k hlt
   rw [hj,List.length_append]at hle
   generalize hpk:ps[k]=x at *
   obtain⟨p1,p2⟩:=x
   dsimp only at hin hcl hle hj
   have hin2:=hjd hin
   obtain⟨B,bc,rfl,_,_,_⟩:=hin
   have hsz2:=hjd (show(a1k (ps.take k)).length + p2.length≤1000000000000 from by have:=hL.out;omega)
   have hj2:=hjd hj
   obtain⟨OA,oc,rfl,_⟩:=N0.out.ow.shape
   clear hcell hj hPk hle
   go_wp2_with (at_builtin;refine a5a a2x rfl (.tmp 12) (.tmp 13) rfl rfl N0.out.ow rfl hin2.out (a5z _) ?_ ?_ ?_)
   case refine_1=>have:=hsz2.out;omega
   case refine_2=>have:=hsz2.out;omega
   intro v' w3 hown hk2 hb2
   have hn5:=hjd (show New w w3 v' (a1k (ps.take (k + 1)))from N0.out.step (by rw [hj2.out,List.length_append];simpa [bv]using hown) hk2 N0.out.old (by
    rcases hb2 with h | h
    ·exact .inl h
    ·exact .inr ⟨_,h,N0.out.kept.size⟩))
   clear hown hk2 hb2
   go_wp2_with fail
   go_roundg (ps.length - (k + 1))
   case measure=>omega
   case rel=>exact⟨k + 1,by omega,by omega,by go_num,hn5⟩
  ·obtain rfl:k=ps.length:=by omega
   rw [List.take_length]at N0
   have dg:=hjd (fun(u:World) (v:Value) (h:Rd u 1 v (a1k ps).length (bv (a1k ps)))=>c7m v (a1k ps) u h hL.out)
   obtain⟨OA,oc,rfl,_⟩:=N0.out.ow.shape
   clear hP hL
   go_wp2_with (first
    | (go_at_call 67;(with_reducible refine(dg.out _ _ (Rd.b1o N0.out.ow)).mono ?_);rintro e w7 ⟨v7,rfl,h7⟩
       have H7:=hjd (N0.out.next h7)
       clear h7 dg))
   go_ret
   exact⟨_,rfl,H7.out⟩
end Go.Proofs.YtdbngnlpafcogaaGreat.Q
