/-
  The document's scalars, in a namespace of their own.
  Digests: a message in blocks of 128 bytes.
  Digests: words of 64 bits turned.
  Digests: what a block does: words of 64 bits, plain.
  Digests: words for the walk of Sum512.
-/
import Derived.Test.YtdbngnlpafcogaaGreatZbSz
import Derived.Test.YtdbngnlpafcogaaGreatZbFam
import Derived.BigQuiet
import Derived.Deep.QuietTactic
import Derived.Deep.RegionWith
import Derived.IntWalk
import Derived.Test.YtdbngnlpafcogaaGreatZbJ00
set_option maxRecDepth 100000
namespace Go.Proofs.YtdbngnlpafcogaaGreat.Z
open Go.RowKit Go.Mem
def nw(x:Nat):Nat:=if x < LL then x else 0
def okB(x:Nat):Bool:=decide (x < LL)
theorem e1n{x:Nat}(hx:x < M4):(ws4 (red x) == ws4 x)=okB x:=by
 unfold okB
 rw [Bool.eq_iff_iff,beq_iff_eq,decide_eq_true_iff]
 constructor
 ·intro h
  have h2:=congrArg val h
  rw [←wds4,←wds4,b9p,b9p]at h2
  have e:2 ^ (64 * 4)=M4:=rfl
  have hr:red x≤x:=by unfold red;split <;> omega
  rw [e,Nat.mod_eq_of_lt hx,Nat.mod_eq_of_lt (by omega)]at h2
  unfold red at h2
  split at h2
  ·assumption
  ·have:=c5r
   omega
 ·intro h
  rw [e0f h]
theorem e6f:Tryz.prog.built 78 []=some (uv (ws4 0)).toArray:=by kernel_rfl
theorem d7l(g:Nat)(W:World):(Instr.arrayAt 76 (.slice (some ⟨g,0,none⟩) 4 4)).run Tryz.prog W= .ok (.pointer (some ⟨g,0,none⟩)) W:=by kernel_rfl
set_option maxHeartbeats 800000 in
theorem a6t(bs:List UInt8)(hl:bs.length=32)(w:World):Calls Tryz.prog 50 #[ab bs] w fun e w'=>e= .returned (.tuple #[w4 (nw (leV bs)),.bool (okB (leV bs))])∧Kept [] w w':=by
 have hl2:=hjd hl
 have hlen:=hjd (show(bv bs).length=32 by simp [hl])
 have hx:=hjd (show leV bs < M4 by have:=b4g bs;rw [hl]at this;exact this)
 clear hl
 go_enter Tryz.func50,Tryz.ntmps50
 go_wp2_with (first
  | ((with_reducible refine a0q (o:=⟨some 1,_,_,_,_,_⟩) (v:=ab bs) rfl (.tmp 0) rfl rfl ?_);intro g1 w1 m1)
  | ((with_reducible refine a0h (o:=⟨some 2,_,_,_,_,_⟩) rfl rfl a8h ?_);intro g2 w2 m2))
 have hrd:Rd w2 1 (.slice (some ⟨g1,0,none⟩) 32 32) 32 (bv bs):=Blk.rd (m1.blk.kept m2.kept (by simp)) hlen.out (Nat.le_refl _)
 refine(c7o _ bs 32 4 _ hl2.out hrd rfl (by omega)).mono ?_
 rintro e w3 ⟨g3,rfl,b3,k3,l3⟩
 rw [wds4]at b3
 have B3:=hjd b3
 have K:=hjd (And.intro m1 (And.intro m2 k3))
 clear hrd b3 m1 m2 k3 l3
 have hat:=d7l g3
 go_wp2_with (first
  | (refine a0s b5x rfl (.tmp 7) rfl rfl B3.out rfl ?_)
  | ((with_reducible refine a0h (o:=⟨some 4,_,_,_,_,_⟩) rfl rfl c9a ?_);intro g4 w4 m4)
  | (refine a0c b5x.row rfl (.tmp 4) (.tmp 8) rfl rfl rfl m4.blk rfl rfl (a2e _) ?_;intro w5 b5 k5))
 obtain⟨m1,m2,k3⟩:=K.out
 have kw:Kept [] w w5:=(((m1.kept.a0g m2.kept).a0g k3).a0g m4.kept).a0p k5 (Nat.le_trans ((m1.kept.a0g m2.kept).a0g k3).size m4.le)
 have b2:Blk w5 g2 _ _:=((m2.blk.kept k3 (by simp)).kept m4.kept (by simp)).kept k5 (by have:=m4.ne (k3.lt m2.blk.lt);simpa using this)
 have B2:=hjd b2
 have KW:=hjd (And.intro kw (Nat.le_trans m1.kept.size m2.le))
 clear m1 m2 k3 kw b2 m4 k5
 have hS:Blk w5.drew g4 76 (uv (ws4 (leV bs))).toArray:=b5
 refine Txt.d9v [2,3] (fun u=>Blk u g4 76 (uv (ws4 (leV bs))).toArray) [[_,_],[_,_]] (by kernel_rfl) (by kernel_rfl) rfl hS (Txt.a0f ?_)
 have B5:=hjd hS
 clear hS b5
 go_wp2_with (refine a0s b5x rfl (.tmp 4) rfl rfl B5.out rfl ?_)
 refine(b0q (leV bs) hx.out _).mono ?_
 rintro e w6 ⟨rfl,k6⟩
 have B6:=hjd (B5.out.kept k6 (by simp))
 have k7:=hjd k6.a2p
 clear k6
 go_wp2_with fail
 refine⟨rfl,B6.out,Txt.a0f ?_⟩
 have he:=b5a b5x Tryz.underlying67 (by kernel_rfl) (ws4 (red (leV bs))) (ws4 (leV bs)) rfl rfl w6
 rw [e1n hx.out]at he
 go_wp2_with (refine a0s b5x rfl (.tmp 4) rfl rfl B6.out rfl ?_)
 refine⟨rfl,B6.out,Txt.a1d ⟨⟨by kernel_rfl,?_⟩,?_⟩⟩
 ·intro j hj o ho _
  have hj2:j=2∨j=3:=by simpa using hj
  rcases hj2 with rfl | rfl
  ·cases ho
   exact⟨11,rfl,fun u hu=>by
    have:=run_loadVar_row (P:=Tryz.prog) u g4 76 76 (uv (ws4 (leV bs))).toArray (0,0) _ hu Tryz.underlying76 rfl (by kernel_rfl)
    simp [execOp,Act.eval,Instr.loadAt,Instr.sureAddr,this]⟩
  ·cases ho
   exact⟨12,rfl,fun u _=>by
    have he:=b5a b5x Tryz.underlying67 (by kernel_rfl) (ws4 (red (leV bs))) (ws4 (leV bs)) rfl rfl u
    rw [e1n hx.out]at he
    have hg:=run_eqGuard_agg (P:=Tryz.prog) u .neq 76 (.tmp 10) (.tmp 11) (uv (ws4 (red (leV bs)))).toArray (uv (ws4 (leV bs))).toArray (by kernel_rfl)
    simp [execOp,Act.eval,binOp,Op.equal,Op.maxDepth,he,hg]⟩
 have b2':=B2.out.kept k7.out (by simp)
 by_cases hlt:leV bs < LL
 ·have ho:okB (leV bs)=true:=decide_eq_true hlt
  have hq:=hjd (And.intro ho (show nw (leV bs)=leV bs from if_pos hlt))
  rw [ho]
  clear hlt ho
  go_wp2_with (first
   | (refine a0s b5x rfl (.tmp 4) rfl rfl B6.out rfl ?_)
   | (refine a2s rfl 0 (.tmp 14) rfl rfl (b8b _) ?_)
   | (refine a0c a1x rfl (.tmp 2) (.tmp 15) rfl rfl rfl b2' rfl rfl (a2e _) ?_;intro w7 b8 k8))
  refine a2m a1x rfl rfl b8 rfl rfl ⟨?_,(KW.out.1.a0g k7.out).a0p k8 KW.out.2⟩
  rw [hq.out.1,hq.out.2]
  rfl
 ·have ho:okB (leV bs)=false:=decide_eq_false hlt
  have hq:=hjd (And.intro ho (show nw (leV bs)=0 from if_neg hlt))
  rw [ho]
  clear hlt ho
  go_wp2_with (first
   | (refine a1n rfl rfl e6f ?_)
   | (refine a0c a1x rfl (.tmp 2) (.tmp 13) rfl rfl rfl b2' rfl rfl (a2e _) ?_;intro w7 b8 k8))
  refine a2m a1x rfl rfl b8 rfl rfl ⟨?_,(KW.out.1.a0g k7.out).a0p k8 KW.out.2⟩
  rw [hq.out.1,hq.out.2]
  rfl
end Go.Proofs.YtdbngnlpafcogaaGreat.Z
namespace Go.Proofs.YtdbngnlpafcogaaGreat.Z
open Go.RowKit Go.Mem
theorem a1l:SliceT Tryz.prog 23 5 1 1 (.int .u8 0):=⟨Tryz.underlying23,by kernel_rfl,rfl,by omega⟩
theorem arrL:ArrT Tryz.prog 32 5 64:=⟨Tryz.underlying32,by kernel_rfl⟩
theorem zeroL:(Tryz.prog.info? 32).map (·.zero)=some (some (ab (a0e 64))):=by kernel_rfl
theorem a6b:∀n,leV (a0e n)=0
 | 0=>rfl
 | n + 1=>by
   show leV (0 :: a0e n)=0
   rw [leV,a6b n];rfl
theorem b6l:∀(a b:List UInt8),leV (a ++ b)=leV a + 256 ^ a.length * leV b
 | [],b=>by simp [leV]
 | x :: a,b=>by
   rw [List.cons_append,leV,leV,b6l a b,List.length_cons,Nat.pow_succ,Nat.mul_add,Nat.mul_comm (256 ^ a.length) 256,←Nat.mul_assoc,Nat.add_assoc]
theorem c9i(bs:List UInt8)(hl:bs.length=32)(w:World):Calls Tryz.prog 39 #[ab bs] w fun e w'=>e= .returned (w4 (leV bs % LL))∧Kept [] w w':=by
 have hl2:=hjd hl
 have hlen:=hjd (show(bv bs).length=32 by simp [hl])
 have ho:=hjd (show(a5o (a0e 64) 0 bs).length=64 by rw [a7s _ _ _ (by simp [hl])];simp)
 have hv:=hjd (show leV (a5o (a0e 64) 0 bs)=leV bs by
  rw [e4f,b6l,hl]
  have:(a0e 64).drop 32=a0e 32:=rfl
  rw [this,a6b,Nat.mul_zero,Nat.add_zero])
 clear hl
 go_enter Tryz.func39,Tryz.ntmps39
 go_wp2_with (first
  | ((with_reducible refine a0q (o:=⟨some 1,_,_,_,_,_⟩) (v:=ab bs) rfl (.tmp 0) rfl rfl ?_);intro g1 w1 m1)
  | ((with_reducible refine a0h (o:=⟨some 2,_,_,_,_,_⟩) rfl rfl a8h ?_);intro g2 w2 m2)
  | ((with_reducible refine a0h (o:=⟨some 3,_,_,_,_,_⟩) rfl rfl zeroL ?_);intro g3 w3 m3))
 refine Txt.a2o (by kernel_rfl) (by kernel_rfl) ?_
 have hrd:Rd w3.drew 1 (.slice (some ⟨g1,0,none⟩) 32 32) 32 (bv bs):=Blk.rd ((m1.blk.kept m2.kept (by simp)).kept m3.kept (by simp)).drew hlen.out (Nat.le_refl _)
 have b3:=m3.blk.drew
 have n23:=m3.ne m2.blk.lt
 have M:=hjd (And.intro m1 (And.intro m2 (And.intro m3 n23)))
 have R:=hjd hrd
 clear hrd m1 m2 m3 n23
 go_wp2_with (refine b5i a1l rfl (.tmp 4) (.tmp 5) rfl rfl b3 (Nat.le_of_eq rfl) rfl R.out (a2q _) ?_;intro w4 b4 k4;clear b3)
 have e1:(a5o (ab (a0e 64)).cells.toList 0 (List.take 64 (bv bs))).toArray=(bv (a5o (a0e 64) 0 bs)).toArray:=by
  rw [List.take_of_length_le (by rw [hlen.out];omega)]
  exact congrArg _ (b4r (a0e 64) _ 0)
 rw [e1]at b4
 refine⟨rfl,by kernel_rfl,?_⟩
 have b5:=hjd b4.drew
 have k5:=hjd k4.a2p
 clear b4 k4 e1
 go_wp2_with (first
  | (refine a0s arrL rfl (.tmp 3) rfl rfl b5.out (by simpa using ho.out) ?_)
  | (go_at_call 102;refine(c6j _ ho.out _).mono ?_;rintro e w6 ⟨rfl,k6⟩;have k7:=hjd k6;clear k6)
  | (refine a0c a1x rfl (.tmp 2) (.tmp 8) rfl rfl rfl (((M.out.2.1.blk.kept M.out.2.2.1.kept (by simp)).kept k5.out (by have:=M.out.2.2.2;simpa using this)).kept k7.out (by simp)) rfl rfl (a2e _) ?_;intro w7 b8 k8))
 refine a1g a1x rfl rfl b8 rfl rfl ⟨by rw [hv.out],?_⟩
 have m:=M.out
 exact(((((m.1.kept.a0g m.2.1.kept).a0g m.2.2.1.kept).a0p k5.out (Nat.le_trans (m.1.kept.a0g m.2.1.kept).size m.2.2.1.le)).a0g k7.out).a0p k8 (Nat.le_trans m.1.kept.size m.2.1.le))
end Go.Proofs.YtdbngnlpafcogaaGreat.Z
namespace Go.Proofs.YtdbngnlpafcogaaGreat.Q
open Go.RowKit Go.Mem Go.Txt
def pz(n:Nat):Nat:=(239 - n % 128) % 128
def pad(m:List UInt8):List UInt8:=(m ++ 128 :: List.replicate (pz m.length) 0) ++ (List.replicate 8 0 ++ be8 (8 * m.length))
theorem c8k(n:Nat):pz n < 128:=Nat.mod_lt _ (by decide)
theorem c3u{n j:Nat}(h:j≤pz n):((n + 1 + j + 16) % 128=0)↔j=pz n:=by unfold pz at *;omega
theorem b8x(m:List UInt8):(pad m).length % 128=0:=by
 unfold pad
 rw [List.length_append,List.length_append,List.length_cons,List.length_replicate,List.length_append,List.length_replicate,a1p]
 unfold pz;omega
set_option maxHeartbeats 1600000 in
theorem b2j(pv:Value)(ps:List (Value × List UInt8))(w:World)(hp:Parts w pv ps)(hn:ps.length≤9223372036854775807)(hl:(a0u ps).length≤140737488353000) :
 Calls Tryz.prog 131 #[pv,.int .i64 128] w fun e w'=>∃v',e= .returned v'∧New w w' v' (pad (a0u ps)):=by
 have cc:=hjd (b2f pv ps w hp hn (by omega))
 clear hp
 generalize a0u ps=m at *
 go_enter Tryz.func131,Tryz.ntmps131
 go_wp2_with (first
  | (go_at_call 128;(with_reducible refine(cc.out).mono ?_);rintro e w1 ⟨ov,rfl,h⟩
     obtain⟨A,c,rfl,_⟩:=h.ow.shape
     have H:=hjd h
     clear h)
  | ((with_reducible refine a0l 14 ?_);(refine a1c (o:=⟨some 14,_,_,_,_,_⟩) (v0:=.int .u8 128) (cells:=(bv [128]).toArray) rfl a1l rfl rfl (by decide) rfl rfl ?_);intro g7 w7 m7
     have b7:=hjd (show Rd w7 1 (.slice (some ⟨g7,0,none⟩) 1 1) 1 (bv [128])from⟨_,_,rfl,rfl,by omega,fun _=>⟨g7,0,rfl,fun j u hu=>by rw [m7.blk.cell];simpa using hu⟩⟩)
     have k7:=hjd m7.kept
     clear m7)
  | (at_builtin
     refine a1v (n:=m.length) (m:=1) a1l rfl (.tmp 13) (.tmp 14) rfl rfl (H.out.ow.a0o k7.out) rfl b7.out (a2q _) (by omega) (by omega) ?_
     intro v' w9 o9 k9 f9
     obtain⟨A2,c2,hv',hlc'⟩:=o9.shape
     subst hv'
     replace H:=hjd (H.out.c9y k7.out o9 k9 f9)
     clear o9 k9 f9 k7 b7))
 have hl2:=hjd hl
 go_loopg [5] (pz m.length) (fun fu o wk=>∃(j:Nat) (A:Option Addr) (c:Nat),j≤pz m.length∧fu + j=pz m.length∧o= .slice A (m.length + 1 + j) c∧Hid (New w wk (.slice A (m.length + 1 + j) c) (m ++ 128 :: List.replicate j 0)))
 case atStart=>exact⟨0,A2,c2,by omega,by omega,rfl,H⟩
 case round=>
  clear H
  obtain⟨j,A,c,hj,hfu,rfl,H⟩:=hrel
  have hz:=c8k m.length
  by_cases hlt:j < pz m.length
  ·have hne:¬(m.length + 1 + j + 16) % 128=0:=fun e=>by have:=(c3u hj).1 e;omega
   generalize hL:m.length + 1 + j=L at *
   have hne1:(((L:Int) + 16) % 128=0)=False:=eq_false (by omega)
   have hne2:(((L:Int) + 16).tmod 128=0)=False:=eq_false (by rw [Int.tmod_eq_emod_of_nonneg (by omega)];omega)
   have hLs:L≤140737488353200:=by omega
   go_wp2_with (first
    | ((with_reducible refine a0l 25 ?_);(refine a1c (o:=⟨some 25,_,_,_,_,_⟩) (v0:=.int .u8 0) (cells:=(bv [0]).toArray) rfl a1l rfl rfl (by decide) rfl rfl ?_);intro g7 w7 m7
       have b7:=hjd (show Rd w7 1 (.slice (some ⟨g7,0,none⟩) 1 1) 1 (bv [0])from⟨_,_,rfl,rfl,by omega,fun _=>⟨g7,0,rfl,fun j u hu=>by rw [m7.blk.cell];simpa using hu⟩⟩)
       have k7:=hjd m7.kept
       clear m7)
    | (at_builtin
       refine a1v (n:=L) (m:=1) a1l rfl (.tmp 24) (.tmp 25) rfl rfl (by have:=H.out.ow.a0o k7.out;have e:(m ++ 128 :: List.replicate j 0).length=L:=(by simp;omega);rw [e]at this;exact this) rfl b7.out (a2q _) (by omega) (by omega) ?_
       intro v' w9 o9 k9 f9
       have e:(m ++ 128 :: List.replicate j 0).length=L:=by simp;omega
       obtain⟨A3,c3,hv',hlc'⟩:=o9.shape
       subst hv'
       replace H:=hjd (H.out.c9y k7.out (by rw [e];exact o9) k9 f9)
       clear o9 k9 f9 k7 b7 e))
   go_roundg (pz m.length - (j + 1))
   case measure=>omega
   case rel=>
    have e:m ++ 128 :: List.replicate (j + 1) 0=(m ++ 128 :: List.replicate j 0) ++ [0]:=by simp [List.replicate_succ']
    refine⟨j + 1,A3,c3,by omega,by omega,by rw [←hL];rfl,?_⟩
    rw [e,show m.length + 1 + (j + 1)=L + 1 from by omega]
    exact H
  ·obtain rfl:j=pz m.length:=by omega
   have heq:=(c3u hj).2 rfl
   generalize hL:m.length + 1 + pz m.length=L at *
   have heq1:(((L:Int) + 16) % 128=0):=by omega
   have heq2:(((L:Int) + 16).tmod 128=0):=by rw [Int.tmod_eq_emod_of_nonneg (by omega)];omega
   have hLs:L≤140737488353200:=by omega
   have e:(m ++ 128 :: List.replicate (pz m.length) 0).length=L:=by simp;omega
   have ep:pad m=(m ++ 128 :: List.replicate (pz m.length) 0) ++ (List.replicate 8 0 ++ be8 (8 * m.length)):=rfl
   replace ep:=hjd ep
   generalize m ++ 128 :: List.replicate (pz m.length) 0=M0 at *
   have q8:IntKind.u64.wrap (8 * (m.length:Int))=((8 * m.length:Nat):Int):=by rw [IntKind.wrap_u64];omega
   generalize 8 * m.length=q at *
   subst e
   go_wp2_with (first
    | (at_builtin
       refine a8z a1l rfl rfl Tryz.underlying3 rfl (.tmp 27) (.tmp 30) rfl rfl H.out.ow 8 rfl (by omega) (by omega) ?_
       intro v' w9 o9 k9 f9
       obtain⟨A2,c2,hv',hlc'⟩:=o9.shape
       subst hv'
       have H1:=hjd (show New w w9 (.slice A2 (M0.length + 8) c2) (M0 ++ List.replicate 8 0)from H.out.step (by rw [List.length_append,List.length_replicate];simpa [bv,a1h]using o9) k9 H.out.old (by
        rcases f9 with e | e
        ·exact .inl e
        ·exact .inr ⟨_,e,H.out.kept.size⟩))
       clear o9 k9 f9 H))
   clear heq1 heq2 heq
   obtain⟨M1,hM1⟩:∃M1,M1=M0 ++ List.replicate 8 (0:UInt8):=⟨_,rfl⟩
   have hl1:M0.length + 8=M1.length:=by rw [hM1,List.length_append,List.length_replicate]
   have H:=hjd (show New w _ (.slice A2 M1.length c2) M1 from by rw [←hl1,hM1];exact H1.out)
   replace ep:=hjd (show pad m=M1 ++ be8 q from by rw [ep.out,hM1,List.append_assoc])
   rw [hl1]
   have hLs1:M1.length≤140737488353300:=by omega
   clear H1 hM1 hl1 hLs
   generalize M1=M0 at *
   go_loopg [5,7] 8 (fun fu o i wk=>∃(j:Nat) (A:Option Addr) (c:Nat),j≤8∧fu + j=8∧i= .int .i64 (56 - 8 * (j:Int))∧o= .slice A (M0.length + j) c∧Hid (New w wk (.slice A (M0.length + j) c) (M0 ++ (be8 q).take j)))
   case atStart=>exact⟨0,A2,c2,by omega,by omega,rfl,rfl,by simpa using H⟩
   case round=>
    clear H
    obtain⟨j,A,c,hj8,hfu8,rfl,rfl,H⟩:=hrel
    have el:(M0 ++ (be8 q).take j).length=M0.length + j:=by rw [List.length_append,List.length_take,a1p];omega
    by_cases hlt8:j < 8
    ·have h0:(0:Int)≤56 - 8 * (j:Int):=by omega
     have hb8:=b8z q j hlt8
     have hbt:=b8l q j hlt8
     generalize UInt8.ofNat (q / 256 ^ (7 - j))=x at *
     replace hbt:=hjd hbt
     replace el:=hjd el
     have hb9:=hjd hb8
     clear hb8
     go_wp2_with (first
      | ((with_reducible refine a0l 43 ?_);(refine a1c (o:=⟨some 43,_,_,_,_,_⟩) (v0:=a1h x) (cells:=(bv [x]).toArray) rfl a1l rfl hb9.out (by decide) rfl rfl ?_);intro g7 w7 m7
         have b7:=hjd (show Rd w7 1 (.slice (some ⟨g7,0,none⟩) 1 1) 1 (bv [x])from⟨_,_,rfl,rfl,by omega,fun _=>⟨g7,0,rfl,fun j u hu=>by rw [m7.blk.cell];simpa using hu⟩⟩)
         have k7:=hjd m7.kept
         clear m7)
      | (at_builtin
         refine a1v (n:=M0.length + j) (m:=1) a1l rfl (.tmp 36) (.tmp 43) rfl rfl (by have:=H.out.ow.a0o k7.out;rw [el.out]at this;exact this) rfl b7.out (a2q _) (by omega) (by omega) ?_
         intro v' w9 o9 k9 f9
         obtain⟨A3,c3,hv',hlc'⟩:=o9.shape
         subst hv'
         replace H:=hjd (H.out.c9y k7.out (by rw [el.out];exact o9) k9 f9)
         clear o9 k9 f9 k7 b7))
     go_roundg (8 - (j + 1))
     case measure=>omega
     case rel=>
      refine⟨j + 1,A3,c3,by omega,by omega,by go_num,rfl,?_⟩
      rw [hbt.out,←List.append_assoc]
      exact H
    ·obtain rfl:j=8:=by omega
     have et:(be8 q).take 8=be8 q:=List.take_of_length_le (by rw [a1p];omega)
     rw [et]at H
     clear el et
     go_wp2_with fail
     go_ret
     rw [ep.out]
     exact⟨_,rfl,H.out⟩
end Go.Proofs.YtdbngnlpafcogaaGreat.Q
namespace Go.Proofs.YtdbngnlpafcogaaGreat.Q
open Go.RowKit Go.Mem Go.Txt
abbrev W64(x:BitVec 64):Value:=.int .u64 (x.toNat:Int)
theorem ofInt64(x:BitVec 64):BitVec.ofInt 64 (x.toNat:Int)=x:=by
 apply BitVec.eq_of_toNat_eq
 rw [BitVec.toNat_ofInt]
 have:=x.isLt
 omega
theorem a7z(x:BitVec 64):IntKind.u64.wrap (x.toNat:Int)=x.toNat:=by
 have:=x.isLt
 rw [IntKind.wrap_u64];omega
theorem b4i(x y:BitVec 64):bits .xor .u64 (x.toNat:Int) (y.toNat:Int)=((x ^^^ y).toNat:Nat):=by
 show IntKind.u64.wrap (((BitVec.ofInt 64 (x.toNat:Int)) ^^^ (BitVec.ofInt 64 (y.toNat:Int))).toNat:Nat)=_
 rw [ofInt64,ofInt64,a7z]
theorem d5b(x y:BitVec 64):bits .and .u64 (x.toNat:Int) (y.toNat:Int)=((x &&& y).toNat:Nat):=by
 show IntKind.u64.wrap (((BitVec.ofInt 64 (x.toNat:Int)) &&& (BitVec.ofInt 64 (y.toNat:Int))).toNat:Nat)=_
 rw [ofInt64,ofInt64,a7z]
theorem bor(x y:BitVec 64):bits .or .u64 (x.toNat:Int) (y.toNat:Int)=((x ||| y).toNat:Nat):=by
 show IntKind.u64.wrap (((BitVec.ofInt 64 (x.toNat:Int)) ||| (BitVec.ofInt 64 (y.toNat:Int))).toNat:Nat)=_
 rw [ofInt64,ofInt64,a7z]
theorem c2u(x y:BitVec 64):IntKind.u64.wrap ((x.toNat:Int) + (y.toNat:Int))=((x + y).toNat:Nat):=by
 rw [IntKind.wrap_u64,BitVec.toNat_add];omega
theorem bnot(x:BitVec 64):bits .xor .u64 18446744073709551615 (x.toNat:Int)=((~~~x).toNat:Nat):=by
 have e:BitVec.ofInt 64 18446744073709551615=BitVec.allOnes 64:=by decide
 show IntKind.u64.wrap (((BitVec.ofInt 64 18446744073709551615) ^^^ (BitVec.ofInt 64 (x.toNat:Int))).toNat:Nat)=_
 rw [ofInt64,e,BitVec.allOnes_xor,a7z]
theorem e3t(x:BitVec 64)(s:Nat):(x.toNat:Int) * 2 ^ s % 18446744073709551616=((x <<< s).toNat:Nat):=by
 rw [BitVec.toNat_shiftLeft,Nat.shiftLeft_eq]
 have h:((2:Int) ^ s)=((2 ^ s:Nat):Int):=by norm_cast
 rw [h]
 generalize 2 ^ s=q
 show(x.toNat:Int) * (q:Int) % ((18446744073709551616:Nat):Int)=((x.toNat * q % 18446744073709551616:Nat):Int)
 rw [Int.natCast_emod,Int.natCast_mul]
theorem e1h(x:BitVec 64)(s:Nat):(x.toNat:Int) / 2 ^ s=((x >>> s).toNat:Nat):=by
 rw [BitVec.toNat_ushiftRight,Nat.shiftRight_eq_div_pow]
 have h:((2:Int) ^ s)=((2 ^ s:Nat):Int):=by norm_cast
 rw [h]
 norm_cast
theorem a3c(x:BitVec 64)(k:Int)(s:Nat)(hs:bits .and .u64 (IntKind.u64.wrap k) 63=s)(h63:s≤63)(w:World) :
 Calls Tryz.prog 152 #[W64 x,.int .i64 k] w fun e w'=>e= .returned (W64 (x <<< s ||| x >>> (64 - s)))∧Kept [] w w':=by
 have K:=hjd (Kept.refl [] w)
 have h1:(64:Int) - s=((64 - s:Nat):Int):=by omega
 have h2:IntKind.u64.wrap ((64 - s:Nat):Int)=((64 - s:Nat):Int):=by rw [IntKind.wrap_u64];omega
 have h3:∀t:Nat,((t:Int)).toNat=t:=fun t=>rfl
 go_enter Tryz.func152,Tryz.ntmps152
 go_wp2_with fail
 go_ret
 refine⟨?_,K.out⟩
 show Ending.returned (.int .u64 (bits .or .u64 ((x.toNat:Int) * 2 ^ s % 18446744073709551616) ((x.toNat:Int) / 2 ^ (64 - s))))=_
 rw [e3t,e1h,bor]
end Go.Proofs.YtdbngnlpafcogaaGreat.Q
namespace Go.Proofs.YtdbngnlpafcogaaGreat.Q
open Go.RowKit Go.Mem Go.Txt
abbrev B64:=BitVec 64
def rl(x:B64)(s:Nat):B64:=x <<< s ||| x >>> (64 - s)
def ls0(x:B64):B64:=(rl x 63 ^^^ rl x 56) ^^^ x >>> 7
def ls1(y:B64):B64:=(rl y 45 ^^^ rl y 3) ^^^ y >>> 6
def us0(a:B64):B64:=(rl a 36 ^^^ rl a 30) ^^^ rl a 25
def us1(e:B64):B64:=(rl e 50 ^^^ rl e 46) ^^^ rl e 23
def chB(e f g:B64):B64:=(e &&& f) ^^^ (~~~e &&& g)
def mjB(a b c:B64):B64:=((a &&& b) ^^^ (a &&& c)) ^^^ (b &&& c)
def d0z(p:Nat→UInt8)(t:Nat):Nat→B64
 | 0=>0
 | j + 1=>d0z p t j <<< 8 ||| BitVec.ofNat 64 (p (8 * t + j)).toNat
def wrd(p:Nat→UInt8)(t:Nat):B64:=d0z p t 8
def sch(p:Nat→UInt8)(t:Nat):B64:=
 if _h:t < 16 then wrd p t else ls1 (sch p (t - 2)) + sch p (t - 7) + ls0 (sch p (t - 15)) + sch p (t - 16)
termination_by t
decreasing_by all_goals omega
theorem c1j(p:Nat→UInt8){t:Nat}(h:t < 16):sch p t=wrd p t:=by rw [sch,dif_pos h]
theorem c0z(p:Nat→UInt8){t:Nat}(h:¬t < 16):sch p t=ls1 (sch p (t - 2)) + sch p (t - 7) + ls0 (sch p (t - 15)) + sch p (t - 16):=by rw [sch,dif_neg h]
def n64(n:Nat):B64:=BitVec.ofNat 64 n
def rnd(k m:B64)(v:Nat→B64):Nat→B64
 | 0=>v 7 + us1 (v 4) + chB (v 4) (v 5) (v 6) + k + m + (us0 (v 0) + mjB (v 0) (v 1) (v 2))
 | 4=>v 3 + (v 7 + us1 (v 4) + chB (v 4) (v 5) (v 6) + k + m)
 | i + 1=>v i
def a5c(p:Nat→UInt8)(h:Nat→B64):Nat→Nat→B64
 | 0=>h
 | t + 1=>rnd (n64 (a1z.getD t 0)) (sch p t) (a5c p h t)
def blk(p:Nat→UInt8)(h:Nat→B64):Nat→B64:=fun i=>h i + a5c p h 80 i
def a5f(b:List UInt8):Nat→Nat→B64
 | 0=>fun i=>n64 (a3o.getD i 0)
 | n + 1=>blk (fun j=>b.getD (128 * n + j) 0) (a5f b n)
def c0w(h:Nat→B64):List UInt8:=(List.range 64).map fun j=>UInt8.ofNat ((h (j / 8)).toNat / 2 ^ (56 - 8 * (j % 8)))
def sha(m:List UInt8):List UInt8:=c0w (a5f (pad m) ((pad m).length / 128))
theorem a4q(m:List UInt8):(sha m).length=64:=by simp [sha,c0w]
theorem ch_or(e f g:B64):(e &&& f) ||| (~~~e &&& g)=chB e f g:=by
 unfold chB
 apply BitVec.eq_of_getLsbD_eq
 intro i hi
 simp only [BitVec.getLsbD_or,BitVec.getLsbD_and,BitVec.getLsbD_xor,BitVec.getLsbD_not,hi,decide_true,Bool.true_and]
 cases e.getLsbD i <;> cases f.getLsbD i <;> cases g.getLsbD i <;> rfl
theorem mj_or(a b c:B64):((a &&& b) ||| (a &&& c)) ||| (b &&& c)=mjB a b c:=by
 unfold mjB
 apply BitVec.eq_of_getLsbD_eq
 intro i _
 simp only [BitVec.getLsbD_or,BitVec.getLsbD_and,BitVec.getLsbD_xor]
 cases a.getLsbD i <;> cases b.getLsbD i <;> cases c.getLsbD i <;> rfl
end Go.Proofs.YtdbngnlpafcogaaGreat.Q
namespace Go.Proofs.YtdbngnlpafcogaaGreat.Q
open Go.RowKit Go.Mem Go.Txt
theorem a0x{P:Program}{u:World}{a:Act}{o:Oper}{t:TypeId}(x:Operand)(ho:o.op= .load t x)(hs:∀w,(isAgg t).run P w= .ok false w){p:Addr}(hx:a.eval x= .pointer (some p)){v:Value}(hc:u.cell? p=some v) :
 (execOp a.eval o).run P u= .ok (.value v) u:=by
 have h2:(isAgg t).run P u= .ok false u:=hs u
 simp [execOp,ho,hx,Instr.loadAt,Instr.sureAddr,loadVar,h2,hc]
theorem w8z:(Tryz.prog.info? 155).map (·.zero)=some (some (.agg ((fam 8 fun _=>(0:B64)).map W64).toArray)):=by kernel_rfl
theorem d8x:(Tryz.prog.info? 32).map (·.zero)=some (some (ab (a0e 64))):=by kernel_rfl
theorem m80z:(Tryz.prog.info? 178).map (·.zero)=some (some (.agg ((fam 80 fun _=>(0:B64)).map W64).toArray)):=by kernel_rfl
theorem a7n(w:World):(isAgg 67).run Tryz.prog w= .ok false w:=by kernel_rfl
theorem u64s(w:World):(sizeOf 67).run Tryz.prog w= .ok 1 w:=by kernel_rfl
theorem b7z(cs:Array Value)(k:Nat)(v:Value)(hk:k < 8)(hv:cs[k]?=some v)(w:World):(Instr.index 155 (.agg cs) (.int .i64 (k:Int))).run Tryz.prog w= .ok v w:=by
 have h1:(0:Int)≤k∧(k:Int) < 8:=by omega
 have h2:¬8≤k:=by omega
 simp [Instr.index,run_underlying Tryz.underlying155,asIntOf,h1,h2,u64s w,part,hv]
theorem b6f:RowT Tryz.prog 32 64:=⟨⟨_,Tryz.underlying32,rfl⟩,by kernel_rfl⟩
theorem d2d(l:List B64):(l.map W64).toArray.all (·.oneCell')=true:=by
 rw [Array.all_eq_true_iff_forall_mem]
 intro u hu
 simp only [List.mem_toArray,List.mem_map]at hu
 obtain⟨x,_,rfl⟩:=hu
 rfl
def a5d(h:Nat→B64)(j:Nat):UInt8:=UInt8.ofNat ((h (j / 8)).toNat / 2 ^ (56 - 8 * (j % 8)))
theorem c3p(h:Nat→B64):c0w h=fam 64 (a5d h):=rfl
theorem a8d(h:Nat→B64):(c0w h).length=64:=by simp [c0w]
theorem b0b(h:Nat→B64)(k i:Nat)(hi:i < 8):((h k).toNat:Int) / 2 ^ (56 - 8 * i) % 256=((a5d h (8 * k + i)).toNat:Int):=by
 unfold a5d
 rw [show(8 * k + i) / 8=k from by omega,show(8 * k + i) % 8=i from by omega,UInt8.toNat_ofNat']
 have h2:((2:Int) ^ (56 - 8 * i))=((2 ^ (56 - 8 * i):Nat):Int):=by norm_cast
 rw [h2]
 generalize 2 ^ (56 - 8 * i)=q
 show((h k).toNat:Int) / (q:Int) % ((256:Nat):Int)=(((h k).toNat / q % 256:Nat):Int)
 rw [Int.natCast_emod,Int.natCast_ediv]
theorem e3k:uv a3o=(fam 8 fun i=>n64 (a3o.getD i 0)).map W64:=by kernel_rfl
theorem d0e:a1z.all (fun n=>decide (n < 18446744073709551616))=true:=by kernel_rfl
theorem b8h(t:Nat):a1z.getD t 0 < 18446744073709551616:=by
 rw [List.getD_eq_getElem?_getD]
 cases h:a1z[t]? with
 | none=>exact(by decide)
 | some n=>
   have:=List.all_eq_true.1 d0e n (List.mem_of_getElem? h)
   simpa using this
theorem built8(s0 s1 s2 s3 s4 s5 s6 s7:B64):Tryz.prog.built 155 [(0,W64 s0),(1,W64 s1),(2,W64 s2),(3,W64 s3),(4,W64 s4),(5,W64 s5),(6,W64 s6),(7,W64 s7)]=some (([s0,s1,s2,s3,s4,s5,s6,s7]:List B64).map W64).toArray:=by kernel_rfl
structure ShA (w0:World) (g2 g3 g4:Nat) (h:Nat→B64) (u:World):Prop where
 b2:Blk u g2 32 (bv (a0e 64)).toArray
 b3:Blk u g3 155 ((fam 8 h).map W64).toArray
 b4:Blk u g4 178 (uv a1z).toArray
 k:Kept [] w0 u
 l2:w0.heap.size≤g2
 l3:w0.heap.size≤g3
 l4:w0.heap.size≤g4
theorem ShA.kept{w0 u u':World}{g2 g3 g4:Nat}{h:Nat→B64}(t:ShA w0 g2 g3 g4 h u)(hk:Kept [] u u'):ShA w0 g2 g3 g4 h u':=⟨t.b2.kept hk (by simp),t.b3.kept hk (by simp),t.b4.kept hk (by simp),t.k.a0g hk,t.l2,t.l3,t.l4⟩
structure ShB (w0:World) (g2 g3 g4 g5:Nat) (h m:Nat→B64) (u:World):Prop where
 A:ShA w0 g2 g3 g4 h u
 b5:Blk u g5 178 ((fam 80 m).map W64).toArray
 l5:w0.heap.size≤g5
 n45:g4≠g5
theorem ShB.kept{w0 u u':World}{g2 g3 g4 g5:Nat}{h m:Nat→B64}(t:ShB w0 g2 g3 g4 g5 h m u)(hk:Kept [] u u'):ShB w0 g2 g3 g4 g5 h m u':=⟨t.A.kept hk,t.b5.kept hk (by simp),t.l5,t.n45⟩
structure ShM (w0:World) (g2 g3 g4 g5 b o:Nat) (h m:Nat→B64) (rest:List UInt8) (u:World):Prop where
 B:ShB w0 g2 g3 g4 g5 h m u
 all:∀j v,(bv rest)[j]?=some v→u.cell? ⟨b,o + j,none⟩=some v
 n3:b≠g3
 n5:b≠g5
section
variable {w0 u u':World} {g2 g3 g4 g5 g13 b o:Nat} {h h' m m' v v':Nat→B64} {rest:List UInt8} {k:Nat}
theorem ShM.rd(t:ShM w0 g2 g3 g4 g5 b o h m rest u){j:Nat}(hj:j < rest.length):u.cell? ⟨b,o + j,none⟩=some (.int .u8 ((rest.getD j 0).toNat:Int)):=
 t.all j _ (by simp [a1h,hj,List.getD_eq_getElem?_getD])
theorem ShM.kept(t:ShM w0 g2 g3 g4 g5 b o h m rest u)(hk:Kept [] u u'):ShM w0 g2 g3 g4 g5 b o h m rest u':=⟨t.B.kept hk,fun j v hj=>hk.cell (t.all j v hj) (by simp),t.n3,t.n5⟩
theorem ShM.drew(t:ShM w0 g2 g3 g4 g5 b o h m rest u):ShM w0 g2 g3 g4 g5 b o h m rest u.drew:=t.kept (Kept.refl [] u).drew
theorem ShM.set5a(t:ShM w0 g2 g3 g4 g5 b o h m rest u)(x:B64)(hb:Blk (u.setCell ⟨g5,k,none⟩ (W64 x)) g5 178 ((fam 80 m').map W64).toArray):ShM w0 g2 g3 g4 g5 b o h m' rest (u.setCell ⟨g5,k,none⟩ (W64 x)):=by
 have hk:Kept [g5] u (u.setCell ⟨g5,k,none⟩ (W64 x)):=(Kept.refl [g5] u).setCell (.inl (by simp)) _
 exact⟨⟨⟨t.B.A.b2.kept hk (by simpa using t.B.A.b2.ne_ t.B.b5 (by decide)),t.B.A.b3.kept hk (by simpa using t.B.A.b3.ne_ t.B.b5 (by decide)),t.B.A.b4.kept hk (by simpa using t.B.n45),t.B.A.k.a0p hk t.B.l5,t.B.A.l2,t.B.A.l3,t.B.A.l4⟩,hb,t.B.l5,t.B.n45⟩,
  fun j v hj=>hk.cell (t.all j v hj) (by simpa using t.n5),t.n3,t.n5⟩
theorem ShM.set5(t:ShM w0 g2 g3 g4 g5 b o h (mix m m' k) rest u):ShM w0 g2 g3 g4 g5 b o h (mix m m' (k + 1)) rest (u.setCell ⟨g5,k,none⟩ (W64 (m' k))):=t.set5a (m' k) t.B.b5.a7v
theorem ShM.sety(t:ShM w0 g2 g3 g4 g5 b o h m rest u)(k:Nat)(m':Nat→B64)(hm:∀i,i≠k→m' i=m i):ShM w0 g2 g3 g4 g5 b o h m' rest (u.setCell ⟨g5,k,none⟩ (W64 (m' k))):=by
 have e:(fun i=>if i=k then m' k else m i)=m':=by
  funext i
  by_cases hi:i=k
  ·subst hi;exact if_pos rfl
  ·rw [if_neg hi,hm i hi]
 refine t.set5a (m' k) ?_
 have:=t.B.b5.e1z k (m' k)
 rwa [e]at this
structure ShV (w0:World) (g2 g3 g4 g5 b o g13:Nat) (h m:Nat→B64) (rest:List UInt8) (v:Nat→B64) (u:World):Prop where
 M:ShM w0 g2 g3 g4 g5 b o h m rest u
 v:Blk u g13 155 ((fam 8 v).map W64).toArray
 n3:g3≠g13
 nb:b≠g13
 l:w0.heap.size≤g13
theorem ShV.kept(t:ShV w0 g2 g3 g4 g5 b o g13 h m rest v u)(hk:Kept [] u u'):ShV w0 g2 g3 g4 g5 b o g13 h m rest v u':=⟨t.M.kept hk,t.v.kept hk (by simp),t.n3,t.nb,t.l⟩
theorem ShV.drew(t:ShV w0 g2 g3 g4 g5 b o g13 h m rest v u):ShV w0 g2 g3 g4 g5 b o g13 h m rest v u.drew:=t.kept (Kept.refl [] u).drew
theorem ShV.put(t:ShV w0 g2 g3 g4 g5 b o g13 h m rest v u)(hk:Kept [g13] u u')(hb:Blk u' g13 155 ((fam 8 v').map W64).toArray):ShV w0 g2 g3 g4 g5 b o g13 h m rest v' u':=
 ⟨⟨⟨⟨t.M.B.A.b2.kept hk (by simpa using t.M.B.A.b2.ne_ t.v (by decide)),t.M.B.A.b3.kept hk (by simpa using t.n3),t.M.B.A.b4.kept hk (by simpa using t.M.B.A.b4.ne_ t.v (by decide)),t.M.B.A.k.a0p hk t.l,t.M.B.A.l2,t.M.B.A.l3,t.M.B.A.l4⟩,t.M.B.b5.kept hk (by simpa using t.M.B.b5.ne_ t.v (by decide)),t.M.B.l5,t.M.B.n45⟩,
  fun j v hj=>hk.cell (t.M.all j v hj) (by simpa using t.nb),t.M.n3,t.M.n5⟩,hb,t.n3,t.nb,t.l⟩
theorem ShV.set3(t:ShV w0 g2 g3 g4 g5 b o g13 (mix h h' k) m rest v u):ShV w0 g2 g3 g4 g5 b o g13 (mix h h' (k + 1)) m rest v (u.setCell ⟨g3,k,none⟩ (W64 (h' k))):=by
 have hk:Kept [g3] u (u.setCell ⟨g3,k,none⟩ (W64 (h' k))):=(Kept.refl [g3] u).setCell (.inl (by simp)) _
 exact⟨⟨⟨⟨t.M.B.A.b2.kept hk (by simpa using t.M.B.A.b2.ne_ t.M.B.A.b3 (by decide)),t.M.B.A.b3.a7v,t.M.B.A.b4.kept hk (by simpa using t.M.B.A.b4.ne_ t.M.B.A.b3 (by decide)),t.M.B.A.k.a0p hk t.M.B.A.l3,t.M.B.A.l2,t.M.B.A.l3,t.M.B.A.l4⟩,t.M.B.b5.kept hk (by simpa using t.M.B.b5.ne_ t.M.B.A.b3 (by decide)),t.M.B.l5,t.M.B.n45⟩,
  fun j v hj=>hk.cell (t.M.all j v hj) (by simpa using t.M.n3),t.M.n3,t.M.n5⟩,t.v.kept hk (by simpa using t.n3.symm),t.n3,t.nb,t.l⟩
end
theorem e2q(x:B64)(w:World):Calls Tryz.prog 152 #[W64 x,.int .i64 (-19)] w fun e w'=>e= .returned (W64 (rl x 45))∧Kept [] w w':=a3c x (-19) 45 (by kernel_rfl) (by decide) w
theorem rot61(x:B64)(w:World):Calls Tryz.prog 152 #[W64 x,.int .i64 (-61)] w fun e w'=>e= .returned (W64 (rl x 3))∧Kept [] w w':=a3c x (-61) 3 (by kernel_rfl) (by decide) w
theorem rot1(x:B64)(w:World):Calls Tryz.prog 152 #[W64 x,.int .i64 (-1)] w fun e w'=>e= .returned (W64 (rl x 63))∧Kept [] w w':=a3c x (-1) 63 (by kernel_rfl) (by decide) w
theorem rot8(x:B64)(w:World):Calls Tryz.prog 152 #[W64 x,.int .i64 (-8)] w fun e w'=>e= .returned (W64 (rl x 56))∧Kept [] w w':=a3c x (-8) 56 (by kernel_rfl) (by decide) w
theorem rot14(x:B64)(w:World):Calls Tryz.prog 152 #[W64 x,.int .i64 (-14)] w fun e w'=>e= .returned (W64 (rl x 50))∧Kept [] w w':=a3c x (-14) 50 (by kernel_rfl) (by decide) w
theorem e2l(x:B64)(w:World):Calls Tryz.prog 152 #[W64 x,.int .i64 (-18)] w fun e w'=>e= .returned (W64 (rl x 46))∧Kept [] w w':=a3c x (-18) 46 (by kernel_rfl) (by decide) w
theorem rot41(x:B64)(w:World):Calls Tryz.prog 152 #[W64 x,.int .i64 (-41)] w fun e w'=>e= .returned (W64 (rl x 23))∧Kept [] w w':=a3c x (-41) 23 (by kernel_rfl) (by decide) w
theorem rot28(x:B64)(w:World):Calls Tryz.prog 152 #[W64 x,.int .i64 (-28)] w fun e w'=>e= .returned (W64 (rl x 36))∧Kept [] w w':=a3c x (-28) 36 (by kernel_rfl) (by decide) w
theorem rot34(x:B64)(w:World):Calls Tryz.prog 152 #[W64 x,.int .i64 (-34)] w fun e w'=>e= .returned (W64 (rl x 30))∧Kept [] w w':=a3c x (-34) 30 (by kernel_rfl) (by decide) w
theorem rot39(x:B64)(w:World):Calls Tryz.prog 152 #[W64 x,.int .i64 (-39)] w fun e w'=>e= .returned (W64 (rl x 25))∧Kept [] w w':=a3c x (-39) 25 (by kernel_rfl) (by decide) w
theorem shr6(x:B64):(x.toNat:Int) / (64:Int)=(((x >>> 6).toNat:Nat):Int):=e1h x 6
theorem shr7(x:B64):(x.toNat:Int) / (128:Int)=(((x >>> 7).toNat:Nat):Int):=e1h x 7
theorem c2l(x y s7 s16:B64):IntKind.u64.wrap (IntKind.u64.wrap (IntKind.u64.wrap (bits .xor .u64 (bits .xor .u64 (rl y 45).toNat (rl y 3).toNat) ((y.toNat:Int) / (64:Int)) + (s7.toNat:Int)) + bits .xor .u64 (bits .xor .u64 (rl x 63).toNat (rl x 56).toNat) ((x.toNat:Int) / (128:Int))) + (s16.toNat:Int))=(((ls1 y + s7 + ls0 x + s16).toNat:Nat):Int):=by
 rw [shr6,shr7,b4i,b4i,b4i,b4i,c2u,c2u,c2u]
 rfl
theorem d5o(v7 e f g k m:B64):IntKind.u64.wrap (IntKind.u64.wrap (IntKind.u64.wrap (IntKind.u64.wrap ((v7.toNat:Int) + bits .xor .u64 (bits .xor .u64 (rl e 50).toNat (rl e 46).toNat) (rl e 23).toNat) + bits .xor .u64 (bits .and .u64 e.toNat f.toNat) (bits .and .u64 (bits .xor .u64 IntKind.u64.max e.toNat) g.toNat)) + (k.toNat:Int)) + (m.toNat:Int))=(((v7 + us1 e + chB e f g + k + m).toNat:Nat):Int):=by
 rw [show IntKind.u64.max=18446744073709551615 from by decide,bnot,d5b,d5b,b4i,b4i,b4i,c2u,c2u,c2u,c2u]
 rfl
theorem d0g(a b c:B64):IntKind.u64.wrap (bits .xor .u64 (bits .xor .u64 (rl a 36).toNat (rl a 30).toNat) (rl a 25).toNat + bits .xor .u64 (bits .xor .u64 (bits .and .u64 a.toNat b.toNat) (bits .and .u64 a.toNat c.toNat)) (bits .and .u64 b.toNat c.toNat))=(((us0 a + mjB a b c).toNat:Nat):Int):=by
 rw [d5b,d5b,d5b,b4i,b4i,b4i,b4i,c2u]
 rfl
theorem u8_64(a:UInt8):IntKind.u64.wrap (a.toNat:Int)=((BitVec.ofNat 64 a.toNat).toNat:Nat):=by
 have:=UInt8.toNat_lt a
 rw [IntKind.wrap_u64,BitVec.toNat_ofNat];omega
theorem d9j(x:B64)(a:UInt8):bits .or .u64 (IntKind.u64.wrap ((x.toNat:Int) * 256)) (IntKind.u64.wrap (a.toNat:Int))=((x <<< 8 ||| BitVec.ofNat 64 a.toNat).toNat:Nat):=by
 have e1:IntKind.u64.wrap ((x.toNat:Int) * (256:Int))=(((x <<< 8).toNat:Nat):Int):=by rw [IntKind.wrap_u64];exact e3t x 8
 rw [u8_64,e1,bor]
end Go.Proofs.YtdbngnlpafcogaaGreat.Q
