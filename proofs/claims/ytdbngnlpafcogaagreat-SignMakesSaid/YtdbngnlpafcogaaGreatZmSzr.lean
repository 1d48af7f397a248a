/-
  The document's scalars, in a namespace of their own.
-/
import Derived.Test.YtdbngnlpafcogaaGreatZmSz
import Derived.Test.YtdbngnlpafcogaaGreatZmFam
import Derived.BigQuiet
import Derived.Deep.QuietTactic
import Derived.Deep.RegionWith
import Derived.IntWalk
set_option maxRecDepth 100000
namespace Go.Proofs.YtdbngnlpafcogaaGreat.Z
open Go.RowKit Go.Mem
def nw(x:Nat):Nat:=if x < LL then x else 0
def okB(x:Nat):Bool:=decide (x < LL)
theorem e0x{x:Nat}(hx:x < M4):(ws4 (red x) == ws4 x)=okB x:=by
 unfold okB
 rw [Bool.eq_iff_iff,beq_iff_eq,decide_eq_true_iff]
 constructor
 ·intro h
  have h2:=congrArg val h
  rw [←wds4,←wds4,b8h,b8h]at h2
  have e:2 ^ (64 * 4)=M4:=rfl
  have hr:red x≤x:=by unfold red;split <;> omega
  rw [e,Nat.mod_eq_of_lt hx,Nat.mod_eq_of_lt (by omega)]at h2
  unfold red at h2
  split at h2
  ·assumption
  ·have:=c0b
   omega
 ·intro h
  rw [e0j h]
theorem e3s:Tryz.prog.built 78 []=some (uv (ws4 0)).toArray:=by kernel_rfl
theorem d5o(g:Nat)(W:World):(Instr.arrayAt 76 (.slice (some ⟨g,0,none⟩) 4 4)).run Tryz.prog W= .ok (.pointer (some ⟨g,0,none⟩)) W:=by kernel_rfl
set_option maxHeartbeats 800000 in
theorem a6i(bs:List UInt8)(hl:bs.length=32)(w:World):Calls Tryz.prog 50 #[ab bs] w fun e w'=>e= .returned (.tuple #[w4 (nw (leV bs)),.bool (okB (leV bs))])∧Kept [] w w':=by
 have hl2:=hjd hl
 have hlen:=hjd (show(bv bs).length=32 by simp [hl])
 have hx:=hjd (show leV bs < M4 by have:=a6f bs;rw [hl]at this;exact this)
 clear hl
 go_enter Tryz.func50,Tryz.ntmps50
 go_wp2_with (first
  | ((with_reducible refine a0m (o:=⟨some 1,_,_,_,_,_⟩) (v:=ab bs) rfl (.tmp 0) rfl rfl ?_);intro g1 w1 m1)
  | ((with_reducible refine a0f (o:=⟨some 2,_,_,_,_,_⟩) rfl rfl a7o ?_);intro g2 w2 m2))
 have hrd:Rd w2 1 (.slice (some ⟨g1,0,none⟩) 32 32) 32 (bv bs):=Blk.rd (m1.blk.kept m2.kept (by simp)) hlen.out (Nat.le_refl _)
 refine(c3z _ bs 32 4 _ hl2.out hrd rfl (by omega)).mono ?_
 rintro e w3 ⟨g3,rfl,b3,k3,l3⟩
 rw [wds4]at b3
 have B3:=hjd b3
 have K:=hjd (And.intro m1 (And.intro m2 k3))
 clear hrd b3 m1 m2 k3 l3
 have hat:=d5o g3
 go_wp2_with (first
  | (refine a0s b5b rfl (.tmp 7) rfl rfl B3.out rfl ?_)
  | ((with_reducible refine a0f (o:=⟨some 4,_,_,_,_,_⟩) rfl rfl c7s ?_);intro g4 w4 m4)
  | (refine a0b b5b.row rfl (.tmp 4) (.tmp 8) rfl rfl rfl m4.blk rfl rfl (a2d _) ?_;intro w5 b5 k5))
 obtain⟨m1,m2,k3⟩:=K.out
 have kw:Kept [] w w5:=(((m1.kept.a0i m2.kept).a0i k3).a0i m4.kept).a0n k5 (Nat.le_trans ((m1.kept.a0i m2.kept).a0i k3).size m4.le)
 have b2:Blk w5 g2 _ _:=((m2.blk.kept k3 (by simp)).kept m4.kept (by simp)).kept k5 (by have:=m4.ne (k3.lt m2.blk.lt);simpa using this)
 have B2:=hjd b2
 have KW:=hjd (And.intro kw (Nat.le_trans m1.kept.size m2.le))
 clear m1 m2 k3 kw b2 m4 k5
 have hS:Blk w5.drew g4 76 (uv (ws4 (leV bs))).toArray:=b5
 refine Txt.b3k [2,3] (fun u=>Blk u g4 76 (uv (ws4 (leV bs))).toArray) [[_,_],[_,_]] (by kernel_rfl) (by kernel_rfl) rfl hS (Txt.a0h ?_)
 have B5:=hjd hS
 clear hS b5
 go_wp2_with (refine a0s b5b rfl (.tmp 4) rfl rfl B5.out rfl ?_)
 refine(a9o (leV bs) hx.out _).mono ?_
 rintro e w6 ⟨rfl,k6⟩
 have B6:=hjd (B5.out.kept k6 (by simp))
 have k7:=hjd k6.a1v
 clear k6
 go_wp2_with fail
 refine⟨rfl,B6.out,Txt.a0h ?_⟩
 have he:=b4b b5b Tryz.underlying67 (by kernel_rfl) (ws4 (red (leV bs))) (ws4 (leV bs)) rfl rfl w6
 rw [e0x hx.out]at he
 go_wp2_with (refine a0s b5b rfl (.tmp 4) rfl rfl B6.out rfl ?_)
 refine⟨rfl,B6.out,Txt.a1l ⟨⟨by kernel_rfl,?_⟩,?_⟩⟩
 ·intro j hj o ho _
  have hj2:j=2∨j=3:=by simpa using hj
  rcases hj2 with rfl | rfl
  ·cases ho
   exact⟨11,rfl,fun u hu=>by
    have:=run_loadVar_row (P:=Tryz.prog) u g4 76 76 (uv (ws4 (leV bs))).toArray (0,0) _ hu Tryz.underlying76 rfl (by kernel_rfl)
    simp [execOp,Act.eval,Instr.loadAt,Instr.sureAddr,this]⟩
  ·cases ho
   exact⟨12,rfl,fun u _=>by
    have he:=b4b b5b Tryz.underlying67 (by kernel_rfl) (ws4 (red (leV bs))) (ws4 (leV bs)) rfl rfl u
    rw [e0x hx.out]at he
    have hg:=run_eqGuard_agg (P:=Tryz.prog) u .neq 76 (.tmp 10) (.tmp 11) (uv (ws4 (red (leV bs)))).toArray (uv (ws4 (leV bs))).toArray (by kernel_rfl)
    simp [execOp,Act.eval,binOp,Op.equal,Op.maxDepth,he,hg]⟩
 have b2':=B2.out.kept k7.out (by simp)
 by_cases hlt:leV bs < LL
 ·have ho:okB (leV bs)=true:=decide_eq_true hlt
  have hq:=hjd (And.intro ho (show nw (leV bs)=leV bs from if_pos hlt))
  rw [ho]
  clear hlt ho
  go_wp2_with (first
   | (refine a0s b5b rfl (.tmp 4) rfl rfl B6.out rfl ?_)
   | (refine a4f rfl 0 (.tmp 14) rfl rfl (b7a _) ?_)
   | (refine a0b a1x rfl (.tmp 2) (.tmp 15) rfl rfl rfl b2' rfl rfl (a2d _) ?_;intro w7 b8 k8))
  refine a1z a1x rfl rfl b8 rfl rfl ⟨?_,(KW.out.1.a0i k7.out).a0n k8 KW.out.2⟩
  rw [hq.out.1,hq.out.2]
  rfl
 ·have ho:okB (leV bs)=false:=decide_eq_false hlt
  have hq:=hjd (And.intro ho (show nw (leV bs)=0 from if_neg hlt))
  rw [ho]
  clear hlt ho
  go_wp2_with (first
   | (refine a1n rfl rfl e3s ?_)
   | (refine a0b a1x rfl (.tmp 2) (.tmp 13) rfl rfl rfl b2' rfl rfl (a2d _) ?_;intro w7 b8 k8))
  refine a1z a1x rfl rfl b8 rfl rfl ⟨?_,(KW.out.1.a0i k7.out).a0n k8 KW.out.2⟩
  rw [hq.out.1,hq.out.2]
  rfl
end Go.Proofs.YtdbngnlpafcogaaGreat.Z
namespace Go.Proofs.YtdbngnlpafcogaaGreat.Z
open Go.RowKit Go.Mem
theorem a2x:SliceT Tryz.prog 23 5 1 1 (.int .u8 0):=⟨Tryz.underlying23,by kernel_rfl,rfl,by omega⟩
theorem arrL:ArrT Tryz.prog 32 5 64:=⟨Tryz.underlying32,by kernel_rfl⟩
theorem zeroL:(Tryz.prog.info? 32).map (·.zero)=some (some (ab (a0p 64))):=by kernel_rfl
theorem a5p:∀n,leV (a0p n)=0
 | 0=>rfl
 | n + 1=>by
   show leV (0 :: a0p n)=0
   rw [leV,a5p n];rfl
theorem b5w:∀(a b:List UInt8),leV (a ++ b)=leV a + 256 ^ a.length * leV b
 | [],b=>by simp [leV]
 | x :: a,b=>by
   rw [List.cons_append,leV,leV,b5w a b,List.length_cons,Nat.pow_succ,Nat.mul_add,Nat.mul_comm (256 ^ a.length) 256,←Nat.mul_assoc,Nat.add_assoc]
theorem c6u(bs:List UInt8)(hl:bs.length=32)(w:World):Calls Tryz.prog 39 #[ab bs] w fun e w'=>e= .returned (w4 (leV bs % LL))∧Kept [] w w':=by
 have hl2:=hjd hl
 have hlen:=hjd (show(bv bs).length=32 by simp [hl])
 have ho:=hjd (show(a5u (a0p 64) 0 bs).length=64 by rw [a4u _ _ _ (by simp [hl])];simp)
 have hv:=hjd (show leV (a5u (a0p 64) 0 bs)=leV bs by
  rw [d6u,b5w,hl]
  have:(a0p 64).drop 32=a0p 32:=rfl
  rw [this,a5p,Nat.mul_zero,Nat.add_zero])
 clear hl
 go_enter Tryz.func39,Tryz.ntmps39
 go_wp2_with (first
  | ((with_reducible refine a0m (o:=⟨some 1,_,_,_,_,_⟩) (v:=ab bs) rfl (.tmp 0) rfl rfl ?_);intro g1 w1 m1)
  | ((with_reducible refine a0f (o:=⟨some 2,_,_,_,_,_⟩) rfl rfl a7o ?_);intro g2 w2 m2)
  | ((with_reducible refine a0f (o:=⟨some 3,_,_,_,_,_⟩) rfl rfl zeroL ?_);intro g3 w3 m3))
 refine Txt.a3a (by kernel_rfl) (by kernel_rfl) ?_
 have hrd:Rd w3.drew 1 (.slice (some ⟨g1,0,none⟩) 32 32) 32 (bv bs):=Blk.rd ((m1.blk.kept m2.kept (by simp)).kept m3.kept (by simp)).drew hlen.out (Nat.le_refl _)
 have b3:=m3.blk.drew
 have n23:=m3.ne m2.blk.lt
 have M:=hjd (And.intro m1 (And.intro m2 (And.intro m3 n23)))
 have R:=hjd hrd
 clear hrd m1 m2 m3 n23
 go_wp2_with (refine c1w a2x rfl (.tmp 4) (.tmp 5) rfl rfl b3 (Nat.le_of_eq rfl) rfl R.out (a5z _) ?_;intro w4 b4 k4;clear b3)
 have e1:(a5u (ab (a0p 64)).cells.toList 0 (List.take 64 (bv bs))).toArray=(bv (a5u (a0p 64) 0 bs)).toArray:=by
  rw [List.take_of_length_le (by rw [hlen.out];omega)]
  exact congrArg _ (c2m (a0p 64) _ 0)
 rw [e1]at b4
 refine⟨rfl,by kernel_rfl,?_⟩
 have b5:=hjd b4.drew
 have k5:=hjd k4.a1v
 clear b4 k4 e1
 go_wp2_with (first
  | (refine a0s arrL rfl (.tmp 3) rfl rfl b5.out (by simpa using ho.out) ?_)
  | (go_at_call 102;refine(c3p _ ho.out _).mono ?_;rintro e w6 ⟨rfl,k6⟩;have k7:=hjd k6;clear k6)
  | (refine a0b a1x rfl (.tmp 2) (.tmp 8) rfl rfl rfl (((M.out.2.1.blk.kept M.out.2.2.1.kept (by simp)).kept k5.out (by have:=M.out.2.2.2;simpa using this)).kept k7.out (by simp)) rfl rfl (a2d _) ?_;intro w7 b8 k8))
 refine a0y a1x rfl rfl b8 rfl rfl ⟨by rw [hv.out],?_⟩
 have m:=M.out
 exact(((((m.1.kept.a0i m.2.1.kept).a0i m.2.2.1.kept).a0n k5.out (Nat.le_trans (m.1.kept.a0i m.2.1.kept).size m.2.2.1.le)).a0i k7.out).a0n k8 (Nat.le_trans m.1.kept.size m.2.1.le))
end Go.Proofs.YtdbngnlpafcogaaGreat.Z
