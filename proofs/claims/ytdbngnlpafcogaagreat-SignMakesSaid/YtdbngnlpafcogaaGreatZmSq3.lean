/-
  Digests: a message in blocks of 128 bytes.
-/
import Derived.Test.YtdbngnlpafcogaaGreatZmSh2
import Derived.Test.YtdbngnlpafcogaaGreatZmWb0a
import Derived.Test.YtdbngnlpafcogaaGreatZmFam
set_option maxRecDepth 100000
namespace Go.Proofs.YtdbngnlpafcogaaGreat.Q
open Go.RowKit Go.Mem Go.Txt
def pz(n:Nat):Nat:=(239 - n % 128) % 128
def pad(m:List UInt8):List UInt8:=(m ++ 128 :: List.replicate (pz m.length) 0) ++ (List.replicate 8 0 ++ be8 (8 * m.length))
theorem e3l(n:Nat):pz n < 128:=Nat.mod_lt _ (by decide)
theorem d8y{n j:Nat}(h:j≤pz n):((n + 1 + j + 16) % 128=0)↔j=pz n:=by unfold pz at *;omega
theorem d1a(m:List UInt8):(pad m).length % 128=0:=by
 unfold pad
 rw [List.length_append,List.length_append,List.length_cons,List.length_replicate,List.length_append,List.length_replicate,a8a]
 unfold pz;omega
set_option maxHeartbeats 1600000 in
theorem c7u(pv:Value)(ps:List (Value × List UInt8))(w:World)(hp:Parts w pv ps)(hn:ps.length≤9223372036854775807)(hl:(a1k ps).length≤1000000000000) :
 Calls Tryz.prog 131 #[pv,.int .i64 128] w fun e w'=>∃v',e= .returned v'∧New w w' v' (pad (a1k ps)):=by
 have cc:=hjd (c7n pv ps w hp hn (by omega))
 clear hp
 generalize a1k ps=m at *
 go_enter Tryz.func131,Tryz.ntmps131
 go_wp2_with (first
  | (go_at_call 128;(with_reducible refine(cc.out).mono ?_);rintro e w1 ⟨ov,rfl,h⟩
     obtain⟨A,c,rfl,_⟩:=h.ow.shape
     have H:=hjd h
     clear h)
  | ((with_reducible refine a0q 14 ?_);(refine a2b (o:=⟨some 14,_,_,_,_,_⟩) (v0:=.int .u8 128) (cells:=(bv [128]).toArray) rfl a2x rfl rfl (by decide) rfl rfl ?_);intro g7 w7 m7
     have b7:=hjd (show Rd w7 1 (.slice (some ⟨g7,0,none⟩) 1 1) 1 (bv [128])from⟨_,_,rfl,rfl,by omega,fun _=>⟨g7,0,rfl,fun j u hu=>by rw [m7.blk.cell];simpa using hu⟩⟩)
     have k7:=hjd m7.kept
     clear m7)
  | (at_builtin
     refine a5a (n:=m.length) (m:=1) a2x rfl (.tmp 13) (.tmp 14) rfl rfl (H.out.ow.a1o k7.out) rfl b7.out (a5z _) (by omega) (by omega) ?_
     intro v' w9 o9 k9 f9
     obtain⟨A2,c2,hv',hlc'⟩:=o9.shape
     subst hv'
     replace H:=hjd (H.out.e6z k7.out o9 k9 f9)
     clear o9 k9 f9 k7 b7))
 have hl2:=hjd hl
 go_loopg [5] (pz m.length) (fun fu o wk=>∃(j:Nat) (A:Option Addr) (c:Nat),j≤pz m.length∧fu + j=pz m.length∧o= .slice A (m.length + 1 + j) c∧Hid (New w wk (.slice A (m.length + 1 + j) c) (m ++ 128 :: List.replicate j 0)))
 case atStart=>exact⟨0,A2,c2,by omega,by omega,rfl,H⟩
 case round=>
  clear H
  obtain⟨j,A,c,hj,hfu,rfl,H⟩:=hrel
  have hz:=e3l m.length
  by_cases hlt:j < pz m.length
  ·have hne:¬(m.length + 1 + j + 16) % 128=0:=fun e=>by have:=(d8y hj).1 e;omega
   generalize hL:m.length + 1 + j=L at *
   have hne1:(((L:Int) + 16) % 128=0)=False:=eq_false (by omega)
   have hne2:(((L:Int) + 16).tmod 128=0)=False:=eq_false (by rw [Int.tmod_eq_emod_of_nonneg (by omega)];omega)
   have hLs:L≤1000000000200:=by omega
   go_wp2_with (first
    | ((with_reducible refine a0q 25 ?_);(refine a2b (o:=⟨some 25,_,_,_,_,_⟩) (v0:=.int .u8 0) (cells:=(bv [0]).toArray) rfl a2x rfl rfl (by decide) rfl rfl ?_);intro g7 w7 m7
       have b7:=hjd (show Rd w7 1 (.slice (some ⟨g7,0,none⟩) 1 1) 1 (bv [0])from⟨_,_,rfl,rfl,by omega,fun _=>⟨g7,0,rfl,fun j u hu=>by rw [m7.blk.cell];simpa using hu⟩⟩)
       have k7:=hjd m7.kept
       clear m7)
    | (at_builtin
       refine a5a (n:=L) (m:=1) a2x rfl (.tmp 24) (.tmp 25) rfl rfl (by have:=H.out.ow.a1o k7.out;have e:(m ++ 128 :: List.replicate j 0).length=L:=(by simp;omega);rw [e]at this;exact this) rfl b7.out (a5z _) (by omega) (by omega) ?_
       intro v' w9 o9 k9 f9
       have e:(m ++ 128 :: List.replicate j 0).length=L:=by simp;omega
       obtain⟨A3,c3,hv',hlc'⟩:=o9.shape
       subst hv'
       replace H:=hjd (H.out.e6z k7.out (by rw [e];exact o9) k9 f9)
       clear o9 k9 f9 k7 b7 e))
   go_roundg (pz m.length - (j + 1))
   case measure=>omega
   case rel=>
    have e:m ++ 128 :: List.replicate (j + 1) 0=(m ++ 128 :: List.replicate j 0) ++ [0]:=by simp [List.replicate_succ']
    refine⟨j + 1,A3,c3,by omega,by omega,by rw [←hL];rfl,?_⟩
    rw [e,show m.length + 1 + (j + 1)=L + 1 from by omega]
    exact H
  ·obtain rfl:j=pz m.length:=by omega
   have heq:=(d8y hj).2 rfl
   generalize hL:m.length + 1 + pz m.length=L at *
   have heq1:(((L:Int) + 16) % 128=0):=by omega
   have heq2:(((L:Int) + 16).tmod 128=0):=by rw [Int.tmod_eq_emod_of_nonneg (by omega)];omega
   have hLs:L≤1000000000200:=by omega
   have e:(m ++ 128 :: List.replicate (pz m.length) 0).length=L:=by simp;omega
   have ep:pad m=(m ++ 128 :: List.replicate (pz m.length) 0) ++ (List.replicate 8 0 ++ be8 (8 * m.length)):=rfl
   replace ep:=hjd ep
   generalize m ++ 128 :: List.replicate (pz m.length) 0=M0 at *
   have q8:IntKind.u64.wrap (8 * (m.length:Int))=((8 * m.length:Nat):Int):=by rw [IntKind.wrap_u64];omega
   generalize 8 * m.length=q at *
   subst e
   go_wp2_with (first
    | (at_builtin
       refine b2i a2x rfl rfl Tryz.underlying3 rfl (.tmp 27) (.tmp 30) rfl rfl H.out.ow 8 rfl (by omega) (by omega) ?_
       intro v' w9 o9 k9 f9
       obtain⟨A2,c2,hv',hlc'⟩:=o9.shape
       subst hv'
       have H1:=hjd (show New w w9 (.slice A2 (M0.length + 8) c2) (M0 ++ List.replicate 8 0)from H.out.step (by rw [List.length_append,List.length_replicate];simpa [bv,a1q]using o9) k9 H.out.old (by
        rcases f9 with e | e
        ·exact .inl e
        ·exact .inr ⟨_,e,H.out.kept.size⟩))
       clear o9 k9 f9 H))
   clear heq1 heq2 heq
   obtain⟨M1,hM1⟩:∃M1,M1=M0 ++ List.replicate 8 (0:UInt8):=⟨_,rfl⟩
   have hl1:M0.length + 8=M1.length:=by rw [hM1,List.length_append,List.length_replicate]
   have H:=hjd (show New w _ (.slice A2 M1.length c2) M1 from by rw [←hl1,hM1];exact H1.out)
   replace ep:=hjd (show pad m=M1 ++ be8 q from by rw [ep.out,hM1,List.append_assoc])
   rw [hl1]
   have hLs1:M1.length≤1000000000300:=by omega
   clear H1 hM1 hl1 hLs
   generalize M1=M0 at *
   go_loopg [5,7] 8 (fun fu o i wk=>∃(j:Nat) (A:Option Addr) (c:Nat),j≤8∧fu + j=8∧i= .int .i64 (56 - 8 * (j:Int))∧o= .slice A (M0.length + j) c∧Hid (New w wk (.slice A (M0.length + j) c) (M0 ++ (be8 q).take j)))
   case atStart=>exact⟨0,A2,c2,by omega,by omega,rfl,rfl,by simpa using H⟩
   case round=>
    clear H
    obtain⟨j,A,c,hj8,hfu8,rfl,rfl,H⟩:=hrel
    have el:(M0 ++ (be8 q).take j).length=M0.length + j:=by rw [List.length_append,List.length_take,a8a];omega
    by_cases hlt8:j < 8
    ·have h0:(0:Int)≤56 - 8 * (j:Int):=by omega
     have hb8:=d5f q j hlt8
     have hbt:=d5n q j hlt8
     generalize UInt8.ofNat (q / 256 ^ (7 - j))=x at *
     replace hbt:=hjd hbt
     replace el:=hjd el
     have hb9:=hjd hb8
     clear hb8
     go_wp2_with (first
      | ((with_reducible refine a0q 43 ?_);(refine a2b (o:=⟨some 43,_,_,_,_,_⟩) (v0:=a1q x) (cells:=(bv [x]).toArray) rfl a2x rfl hb9.out (by decide) rfl rfl ?_);intro g7 w7 m7
         have b7:=hjd (show Rd w7 1 (.slice (some ⟨g7,0,none⟩) 1 1) 1 (bv [x])from⟨_,_,rfl,rfl,by omega,fun _=>⟨g7,0,rfl,fun j u hu=>by rw [m7.blk.cell];simpa using hu⟩⟩)
         have k7:=hjd m7.kept
         clear m7)
      | (at_builtin
         refine a5a (n:=M0.length + j) (m:=1) a2x rfl (.tmp 36) (.tmp 43) rfl rfl (by have:=H.out.ow.a1o k7.out;rw [el.out]at this;exact this) rfl b7.out (a5z _) (by omega) (by omega) ?_
         intro v' w9 o9 k9 f9
         obtain⟨A3,c3,hv',hlc'⟩:=o9.shape
         subst hv'
         replace H:=hjd (H.out.e6z k7.out (by rw [el.out];exact o9) k9 f9)
         clear o9 k9 f9 k7 b7))
     go_roundg (8 - (j + 1))
     case measure=>omega
     case rel=>
      refine⟨j + 1,A3,c3,by omega,by omega,by go_num,rfl,?_⟩
      rw [hbt.out,←List.append_assoc]
      exact H
    ·obtain rfl:j=8:=by omega
     have et:(be8 q).take 8=be8 q:=List.take_of_length_le (by rw [a8a];omega)
     rw [et]at H
     clear el et
     go_wp2_with fail
     go_ret
     rw [ep.out]
     exact⟨_,rfl,H.out⟩
end Go.Proofs.YtdbngnlpafcogaaGreat.Q
