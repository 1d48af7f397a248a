/-
  The document's scalars, in a namespace of their own.
  Bytes: copied, numbers written, joined (the wire's texts, for programs with fewer functions).
  Digests: the roots' fractions.
  Digests: a message in blocks of 128 bytes.
  Digests: words of 64 bits turned.
  Digests: what a block does: words of 64 bits, plain.
  A region that draws its order, as in Text5, whose last operation waits for all others: what the others need may be gone behind it.
  Digests: words for the walk of Sum512.
-/
import Derived.Test.YtdbngnlpafcogaaGreatZcSz
import Derived.Test.YtdbngnlpafcogaaGreatZcFam
import Derived.BigQuiet
import Derived.Deep.QuietTactic
import Derived.Deep.RegionWith
import Derived.IntWalk
import Derived.WalkKit
import Derived.WalkSpells
import Derived.WalkLawsBesides
import Derived.Deep.LoopGhost
import Derived.Deep.DeepCutAuto
import Derived.Deep.CutBlock
set_option maxRecDepth 100000
namespace Go.Proofs.YtdbngnlpafcogaaGreat.Z
open Go.RowKit Go.Mem
def nw(x:Nat):Nat:=if x < LL then x else 0
def okB(x:Nat):Bool:=decide (x < LL)
theorem e1y{x:Nat}(hx:x < M4):(ws4 (red x) == ws4 x)=okB x:=by
 unfold okB;rw [Bool.eq_iff_iff,beq_iff_eq,decide_eq_true_iff];constructor
 ·intro h;have h2:=congrArg val h;rw [←wds4,←wds4,b9q,b9q]at h2;have e:2 ^ (64 * 4)=M4:=rfl;have hr:red x≤x:=by unfold red;split <;> omega
  rw [e,Nat.mod_eq_of_lt hx,Nat.mod_eq_of_lt (by omega)]at h2;unfold red at h2;split at h2
  ·assumption
  ·have:=c7d;omega
 ·intro h;rw [e2j h]
theorem e6n:Tryz.prog.built 78 []=some (uv (ws4 0)).toArray:=by kernel_rfl
theorem e0v(g:Nat)(W:World):(Instr.arrayAt 76 (.slice (some ⟨g,0,none⟩) 4 4)).run Tryz.prog W= .ok (.pointer (some ⟨g,0,none⟩)) W:=by kernel_rfl
set_option maxHeartbeats 800000 in
theorem a7e(bs:List UInt8)(hl:bs.length=32)(w:World):Calls Tryz.prog 50 #[ab bs] w fun e w'=>e= .returned (.tuple #[w4 (nw (leV bs)),.bool (okB (leV bs))])∧Kept [] w w':=by
 have hl2:=hjd hl;have hlen:=hjd (show(bv bs).length=32 by simp [hl]);have hx:=hjd (show leV bs < M4 by have:=b5k bs;rw [hl]at this;exact this);clear hl;go_enter Tryz.func50,Tryz.ntmps50;go_wp2_with (first
  | ((with_reducible refine a0q (o:=⟨some 1,_,_,_,_,_⟩) (v:=ab bs) rfl (.tmp 0) rfl rfl ?_);intro g1 w1 m1)
  | ((with_reducible refine a0h (o:=⟨some 2,_,_,_,_,_⟩) rfl rfl a8s ?_);intro g2 w2 m2))
 have hrd:Rd w2 1 (.slice (some ⟨g1,0,none⟩) 32 32) 32 (bv bs):=Blk.rd (m1.blk.kept m2.kept (by simp)) hlen.out (Nat.le_refl _);refine(c8g _ bs 32 4 _ hl2.out hrd rfl (by omega)).mono ?_;rintro e w3 ⟨g3,rfl,b3,k3,l3⟩;rw [wds4]at b3;have B3:=hjd b3;have K:=hjd (And.intro m1 (And.intro m2 k3));clear hrd b3 m1 m2 k3 l3;have hat:=e0v g3;go_wp2_with (first
  | (refine a0t b6w rfl (.tmp 7) rfl rfl B3.out rfl ?_)
  | ((with_reducible refine a0h (o:=⟨some 4,_,_,_,_,_⟩) rfl rfl d0t ?_);intro g4 w4 m4)
  | (refine a0a b6w.row rfl (.tmp 4) (.tmp 8) rfl rfl rfl m4.blk rfl rfl (a2e _) ?_;intro w5 b5 k5))
 obtain⟨m1,m2,k3⟩:=K.out;have kw:Kept [] w w5:=(((m1.kept.a0g m2.kept).a0g k3).a0g m4.kept).a0r k5 (Nat.le_trans ((m1.kept.a0g m2.kept).a0g k3).size m4.le);have b2:Blk w5 g2 _ _:=((m2.blk.kept k3 (by simp)).kept m4.kept (by simp)).kept k5 (by have:=m4.ne (k3.lt m2.blk.lt);simpa using this);have B2:=hjd b2;have KW:=hjd (And.intro kw (Nat.le_trans m1.kept.size m2.le));clear m1 m2 k3 kw b2 m4 k5;have hS:Blk w5.drew g4 76 (uv (ws4 (leV bs))).toArray:=b5;refine Txt.e0m [2,3] (fun u=>Blk u g4 76 (uv (ws4 (leV bs))).toArray) [[_,_],[_,_]] (by kernel_rfl) (by kernel_rfl) rfl hS (Txt.a0e ?_);have B5:=hjd hS;clear hS b5;go_wp2_with (refine a0t b6w rfl (.tmp 4) rfl rfl B5.out rfl ?_);refine(b1b (leV bs) hx.out _).mono ?_;rintro e w6 ⟨rfl,k6⟩;have B6:=hjd (B5.out.kept k6 (by simp));have k7:=hjd k6.a1r;clear k6;go_wp2_with fail;refine⟨rfl,B6.out,Txt.a0e ?_⟩;have he:=b6t b6w Tryz.underlying67 (by kernel_rfl) (ws4 (red (leV bs))) (ws4 (leV bs)) rfl rfl w6;rw [e1y hx.out]at he;go_wp2_with (refine a0t b6w rfl (.tmp 4) rfl rfl B6.out rfl ?_);refine⟨rfl,B6.out,Txt.a0w ⟨⟨by kernel_rfl,?_⟩,?_⟩⟩
 ·intro j hj o ho _;have hj2:j=2∨j=3:=by simpa using hj
  rcases hj2 with rfl | rfl
  ·cases ho
   exact⟨11,rfl,fun u hu=>by
    have:=run_loadVar_row (P:=Tryz.prog) u g4 76 76 (uv (ws4 (leV bs))).toArray (0,0) _ hu Tryz.underlying76 rfl (by kernel_rfl);simp [execOp,Act.eval,Instr.loadAt,Instr.sureAddr,this]⟩
  ·cases ho
   exact⟨12,rfl,fun u _=>by
    have he:=b6t b6w Tryz.underlying67 (by kernel_rfl) (ws4 (red (leV bs))) (ws4 (leV bs)) rfl rfl u;rw [e1y hx.out]at he;have hg:=run_eqGuard_agg (P:=Tryz.prog) u .neq 76 (.tmp 10) (.tmp 11) (uv (ws4 (red (leV bs)))).toArray (uv (ws4 (leV bs))).toArray (by kernel_rfl);simp [execOp,Act.eval,binOp,Op.equal,Op.maxDepth,he,hg]⟩
 have b2':=B2.out.kept k7.out (by simp);by_cases hlt:leV bs < LL
 ·have ho:okB (leV bs)=true:=decide_eq_true hlt;have hq:=hjd (And.intro ho (show nw (leV bs)=leV bs from if_pos hlt));rw [ho];clear hlt ho;go_wp2_with (first
   | (refine a0t b6w rfl (.tmp 4) rfl rfl B6.out rfl ?_)
   | (refine a3x rfl 0 (.tmp 14) rfl rfl (b9e _) ?_)
   | (refine a0a a1y rfl (.tmp 2) (.tmp 15) rfl rfl rfl b2' rfl rfl (a2e _) ?_;intro w7 b8 k8))
  refine a1j a1y rfl rfl b8 rfl rfl ⟨?_,(KW.out.1.a0g k7.out).a0r k8 KW.out.2⟩;rw [hq.out.1,hq.out.2];rfl
 ·have ho:okB (leV bs)=false:=decide_eq_false hlt;have hq:=hjd (And.intro ho (show nw (leV bs)=0 from if_neg hlt));rw [ho];clear hlt ho;go_wp2_with (first
   | (refine a0y rfl rfl e6n ?_)
   | (refine a0a a1y rfl (.tmp 2) (.tmp 13) rfl rfl rfl b2' rfl rfl (a2e _) ?_;intro w7 b8 k8))
  refine a1j a1y rfl rfl b8 rfl rfl ⟨?_,(KW.out.1.a0g k7.out).a0r k8 KW.out.2⟩;rw [hq.out.1,hq.out.2];rfl
end Go.Proofs.YtdbngnlpafcogaaGreat.Z
namespace Go.Proofs.YtdbngnlpafcogaaGreat.Z
open Go.RowKit Go.Mem
theorem a1x:SliceT Tryz.prog 23 5 1 1 (.int .u8 0):=⟨Tryz.underlying23,by kernel_rfl,rfl,by omega⟩
theorem arrL:ArrT Tryz.prog 32 5 64:=⟨Tryz.underlying32,by kernel_rfl⟩
theorem zeroL:(Tryz.prog.info? 32).map (·.zero)=some (some (ab (a0m 64))):=by kernel_rfl
theorem a6v:∀n,leV (a0m n)=0
 | 0=>rfl
 | n + 1=>by
   show leV (0 :: a0m n)=0;rw [leV,a6v n];rfl
theorem b9a:∀(a b:List UInt8),leV (a ++ b)=leV a + 256 ^ a.length * leV b
 | [],b=>by simp [leV]
 | x :: a,b=>by
   rw [List.cons_append,leV,leV,b9a a b,List.length_cons,Nat.pow_succ,Nat.mul_add,Nat.mul_comm (256 ^ a.length) 256,←Nat.mul_assoc,Nat.add_assoc]
theorem c9q(bs:List UInt8)(hl:bs.length=32)(w:World):Calls Tryz.prog 39 #[ab bs] w fun e w'=>e= .returned (w4 (leV bs % LL))∧Kept [] w w':=by
 have hl2:=hjd hl;have hlen:=hjd (show(bv bs).length=32 by simp [hl]);have ho:=hjd (show(a5y (a0m 64) 0 bs).length=64 by rw [a8f _ _ _ (by simp [hl])];simp)
 have hv:=hjd (show leV (a5y (a0m 64) 0 bs)=leV bs by
  rw [e5o,b9a,hl];have:(a0m 64).drop 32=a0m 32:=rfl;rw [this,a6v,Nat.mul_zero,Nat.add_zero])
 clear hl;go_enter Tryz.func39,Tryz.ntmps39;go_wp2_with (first
  | ((with_reducible refine a0q (o:=⟨some 1,_,_,_,_,_⟩) (v:=ab bs) rfl (.tmp 0) rfl rfl ?_);intro g1 w1 m1)
  | ((with_reducible refine a0h (o:=⟨some 2,_,_,_,_,_⟩) rfl rfl a8s ?_);intro g2 w2 m2)
  | ((with_reducible refine a0h (o:=⟨some 3,_,_,_,_,_⟩) rfl rfl zeroL ?_);intro g3 w3 m3))
 refine Txt.a2g (by kernel_rfl) (by kernel_rfl) ?_;have hrd:Rd w3.drew 1 (.slice (some ⟨g1,0,none⟩) 32 32) 32 (bv bs):=Blk.rd ((m1.blk.kept m2.kept (by simp)).kept m3.kept (by simp)).drew hlen.out (Nat.le_refl _);have b3:=m3.blk.drew;have n23:=m3.ne m2.blk.lt;have M:=hjd (And.intro m1 (And.intro m2 (And.intro m3 n23)));have R:=hjd hrd;clear hrd m1 m2 m3 n23;go_wp2_with (refine b6b a1x rfl (.tmp 4) (.tmp 5) rfl rfl b3 (Nat.le_of_eq rfl) rfl R.out (a2x _) ?_;intro w4 b4 k4;clear b3);have e1:(a5y (ab (a0m 64)).cells.toList 0 (List.take 64 (bv bs))).toArray=(bv (a5y (a0m 64) 0 bs)).toArray:=by
  rw [List.take_of_length_le (by rw [hlen.out];omega)];exact congrArg _ (b6n (a0m 64) _ 0)
 rw [e1]at b4;refine⟨rfl,by kernel_rfl,?_⟩;have b5:=hjd b4.drew;have k5:=hjd k4.a1r;clear b4 k4 e1;go_wp2_with (first
  | (refine a0t arrL rfl (.tmp 3) rfl rfl b5.out (by simpa using ho.out) ?_)
  | (go_at_call 102;refine(c7o _ ho.out _).mono ?_;rintro e w6 ⟨rfl,k6⟩;have k7:=hjd k6;clear k6)
  | (refine a0a a1y rfl (.tmp 2) (.tmp 8) rfl rfl rfl (((M.out.2.1.blk.kept M.out.2.2.1.kept (by simp)).kept k5.out (by have:=M.out.2.2.2;simpa using this)).kept k7.out (by simp)) rfl rfl (a2e _) ?_;intro w7 b8 k8))
 refine a1m a1y rfl rfl b8 rfl rfl ⟨by rw [hv.out],?_⟩;have m:=M.out;exact(((((m.1.kept.a0g m.2.1.kept).a0g m.2.2.1.kept).a0r k5.out (Nat.le_trans (m.1.kept.a0g m.2.1.kept).size m.2.2.1.le)).a0g k7.out).a0r k8 (Nat.le_trans m.1.kept.size m.2.1.le))
end Go.Proofs.YtdbngnlpafcogaaGreat.Z
namespace Go.Proofs.YtdbngnlpafcogaaGreat
open Go.RowKit Go.Mem
theorem a1x:SliceT Tryz.prog 23 5 1 1 (.int .u8 0):=⟨Tryz.underlying23,by kernel_rfl,rfl,by omega⟩
@[go_sem] theorem eqnilB (A:Option Addr) (n c n' c':Nat) (w:World):(binOp .eql 23 (.slice A n c) (.slice none n' c')).run Tryz.prog w= .ok (.bool A.isNone) w:=c3h Tryz.underlying23 A n c n' c' w
structure New (w w':World) (v:Value) (xs:List UInt8):Prop where
 ow:Ow w' 5 1 v xs.length (bv xs)
 kept:Kept [] w w'
 near:d4e none w.heap.size v
def be8(v:Nat):List UInt8:=(List.range 8).map fun j=>UInt8.ofNat (v / 256 ^ (7 - j))
theorem a2h(v:Nat):(be8 v).length=8:=by simp [be8]
theorem b9h(v j:Nat)(h:j < 8):(be8 v).take (j + 1)=(be8 v).take j ++ [UInt8.ofNat (v / 256 ^ (7 - j))]:=by
 rw [List.take_succ_eq_append_getElem (by rw [a2h];exact h)];simp [be8]
theorem c0n(v j:Nat)(h:j < 8):Value.int .u8 ((v:Int) / 2 ^ (56 - 8 * j) % 256)=a1z (UInt8.ofNat (v / 256 ^ (7 - j))):=by
 have e:(2:Nat) ^ (56 - 8 * j)=256 ^ (7 - j):=by
  have:j=0∨j=1∨j=2∨j=3∨j=4∨j=5∨j=6∨j=7:=by omega
  rcases this with rfl | rfl | rfl | rfl | rfl | rfl | rfl | rfl <;> rfl
 unfold a1z;rw [UInt8.toNat_ofNat',←e];simp
theorem New.step{w w1 w2:World}{v v':Value}{xs ys:List UInt8}(h:New w w1 v xs){S:List Nat}(ho:Ow w2 5 1 v' ys.length (bv ys))(hk:Kept S w1 w2)(hS:∀k∈S,w.heap.size≤k)(hb:v'.ownBlock=v.ownBlock∨∃k,v'.ownBlock=some k∧w.heap.size≤k):New w w2 v' ys:=by
 refine⟨ho,h.kept.fresh hk hS,?_⟩;rcases hb with hb | ⟨k,hb,hk⟩
 ·rcases h.near with h | ⟨g,h,hg⟩
  ·exact .inl (hb.trans h)
  ·exact .inr ⟨g,hb.trans h,hg⟩
 ·exact .inr ⟨k,hb,hk⟩
theorem New.old{w w1:World}{v:Value}{xs:List UInt8}(h:New w w1 v xs):∀k∈v.ownBlock.toList,w.heap.size≤k:=by
 intro k hk;have hk:=e5p hk;rcases h.near with h | ⟨g,h,hg⟩
 ·rw [hk]at h;cases h
 ·rw [hk]at h;have:k=g:=by simpa using h
  omega
theorem New.next{w w1 w2:World}{v v':Value}{xs ys:List UInt8}(h:New w w1 v xs)(h2:New w1 w2 v' ys):New w w2 v' ys:=by
 refine⟨h2.ow,h.kept.a0g h2.kept,?_⟩;rcases h2.near with h3 | ⟨g,h3,hg⟩
 ·exact .inl h3
 ·exact .inr ⟨g,h3,by have:=h.kept.size;omega⟩
theorem New.a0g{w w1 w2:World}{v:Value}{xs:List UInt8}(h:New w w1 v xs)(hk:Kept [] w1 w2):New w w2 v xs:=⟨h.ow.a0k hk,h.kept.a0g hk,h.near⟩
theorem New.nil(w:World):New w w (.slice none 0 0) []:=⟨Ow.nil _ _ _,Kept.refl _ _,.inl rfl⟩
structure Parts (w:World) (pv:Value) (ps:List (Value × List UInt8)):Prop where
 outer:Rd w 1 pv ps.length (ps.map (·.1))
 inner:∀x∈ps,Rd w 1 x.1 x.2.length (bv x.2)
theorem Parts.a0k{w w':World}{pv:Value}{ps:List (Value × List UInt8)}(h:Parts w pv ps)(hk:Kept [] w w'):Parts w' pv ps:=
 ⟨h.outer.a0k hk,fun x hx=>(h.inner x hx).a0k hk⟩
abbrev bytesOf(ps:List (Value × List UInt8)):List (List UInt8):=ps.map (·.2)
theorem e0g(n:Nat)(w:World)(hn:n≤140737488355328) :
 Calls Tryz.prog 166 #[.slice none 0 0,.int .i64 n] w fun e w'=>∃v',e= .returned v'∧New w w' v' []:=by
 by_cases h0:n=0
 ·subst h0;go_enter Tryz.func166,Tryz.ntmps166;go_wp2_with fail;go_ret;exact⟨_,rfl,New.nil w⟩
 ·go_enter Tryz.func166,Tryz.ntmps166;go_wp2_with (at_builtin;refine a9f a1x rfl rfl Tryz.underlying3 rfl (.tmp 20) (.tmp 21) rfl rfl (Ow.nil w 5 1) n rfl ?_ ?_ ?_);case refine_1=>omega
  case refine_2=>omega
  intro v' w2 ho hk hb;obtain⟨B,d,hB,oB,bB⟩:=ow_to a1x ho .i64 0 (Nat.zero_le _);have hB2:∀W,(Instr.sliceAt 23 v' none (some (.int .i64 0)) none).run Tryz.prog W= .ok (.slice B 0 d) W:=fun W=>hB W
  have oB2:=hjd oB;have bB2:=hjd bB;have hk2:=hjd hk;have hb2:=hjd hb;clear oB bB hk hb ho hB;go_wp2_with fail;go_ret;refine⟨.slice B 0 d,rfl,by simpa using oB2.out,by simpa [Value.ownBlock]using hk2.out,?_⟩;rcases hb2.out with h | h
  ·exact .inl (by rw [bB2.out,h];rfl)
  ·exact .inr ⟨_,by rw [bB2.out,h],Nat.le_refl _⟩
def a0z(ps:List (Value × List UInt8)):List UInt8:=(bytesOf ps).flatten
theorem b2b(a b:List (Value × List UInt8)):a0z (a ++ b)=a0z a ++ a0z b:=by
 unfold a0z bytesOf;rw [List.map_append,List.flatten_append]
theorem b5s(ps:List (Value × List UInt8))(k:Nat)(h:k < ps.length):a0z (ps.take (k + 1))=a0z (ps.take k) ++ ps[k].2:=by
 rw [List.take_succ_eq_append_getElem h,b2b];simp [a0z]
theorem c3a(ps:List (Value × List UInt8))(k:Nat):(a0z (ps.take k)).length≤(a0z ps).length:=by
 have:a0z ps=a0z (ps.take k) ++ a0z (ps.drop k):=by rw [←b2b,List.take_append_drop]
 rw [this,List.length_append];omega
set_option maxHeartbeats 1000000 in
theorem b3e(pv:Value)(ps:List (Value × List UInt8))(w:World)(hp:Parts w pv ps)(hn:ps.length≤9223372036854775807)(hl:(a0z ps).length≤140737488355328) :
 Calls Tryz.prog 128 #[pv] w fun e w'=>∃v',e= .returned v'∧New w w' v' (a0z ps):=by
 have hP:=hjd hp;have hL:=hjd hl;obtain⟨PA,pc,rfl,_,_,_⟩:=hp.outer;clear hp hl;go_enter Tryz.func128,Tryz.ntmps128;go_wp2_with fail
 go_loop [3,11] (fun r i=>∃k:Nat,k≤ps.length∧i= .int .i64 k∧r= .int .i64 (a0z (ps.take k)).length) (fun _ i=>ps.length - (intOf i).toNat)
 case atStart=>exact⟨0,Nat.zero_le _,rfl,by simp [a0z]⟩
 case round=>
  obtain⟨k,hk,rfl,rfl⟩:=hrel;by_cases hlt:k < ps.length
  ·obtain⟨pb,po,pc2,heq,_,hcell⟩:=hP.out.outer.at_ (by omega)
   cases heq
   have hin:=hP.out.inner ps[k] (List.getElem_mem _);have hcl:=hcell k ps[k].1 (by simp [hlt]);have hle:=c3a ps (k + 1);have hj:=b5s ps k hlt;rw [hj,List.length_append]at hle;generalize hpk:ps[k]=x at *;obtain⟨p1,p2⟩:=x;obtain⟨B,bc,hB,_,_,_⟩:=hin
   dsimp only at hB hcl hle hj
   subst hB;have hLL:=hL.out;have hj2:=hjd hj;clear hcell hj;go_wp2_with fail;exact⟨⟨k + 1,by omega,by go_num,by rw [hj2.out,List.length_append];simp⟩,by simp [intOf];omega⟩
  ·obtain rfl:k=ps.length:=by omega
   have ht:ps.take ps.length=ps:=List.take_length;rw [ht];go_wp2_with (go_at_call 166;refine(e0g _ _ hL.out).mono ?_;rintro e w1 ⟨gv,rfl,hg⟩;have hg2:=hjd hg;clear hg);go_loopg [6,27] ps.length (fun g rv i wk=>∃k:Nat,g + k=ps.length∧i= .int .i64 k∧New w wk rv (a0z (ps.take k)));case atStart=>exact⟨0,rfl,rfl,by simpa [a0z]using hg2.out⟩
   case round=>
    obtain⟨k,hk,rfl,hn2⟩:=hrel;by_cases hlt2:k < ps.length
    ·have hPk:=hP.out.a0k hn2.kept;obtain⟨pb,po,pc2,heq,_,hcell⟩:=hPk.outer.at_ (by omega)
     cases heq
     have hin:=hPk.inner ps[k] (List.getElem_mem _);have hcl:=hcell k ps[k].1 (by simp [hlt2]);have hle:=c3a ps (k + 1);have hj:=b5s ps k hlt2;rw [hj,List.length_append]at hle;generalize hpk:ps[k]=x at *;obtain⟨p1,p2⟩:=x
     dsimp only at hin hcl hle hj
     have hin2:=hjd hin;obtain⟨B,bc,rfl,_,_,_⟩:=hin;have hsz:(a0z (ps.take k)).length + p2.length≤140737488355328:=by have:=hL.out;omega
     have hsz2:=hjd hsz;have hj2:=hjd hj;obtain⟨OA,oc,rfl,_⟩:=hn2.ow.shape;have hn3:=hjd hn2;clear hcell hj hPk hle hsz hn2;go_wp2_with (at_builtin;refine a1q a1x rfl (.tmp 31) (.tmp 32) rfl rfl hn3.out.ow rfl hin2.out (a2x _) ?_ ?_ ?_);case refine_1=>have:=hsz2.out;omega
     case refine_2=>have:=hsz2.out;omega
     intro v' w2 hown hk2 hb2
     have hn4:New w w2 v' (a0z (ps.take (k + 1))):=hn3.out.step (by rw [hj2.out,List.length_append];simpa [bv]using hown) hk2 hn3.out.old (by
      rcases hb2 with h | h
      ·exact .inl h
      ·exact .inr ⟨_,h,hn3.out.kept.size⟩)
     have hn5:=hjd hn4;clear hown hk2 hb2 hn4;go_wp2_with fail;go_roundg (ps.length - (k + 1));case measure=>omega
     case rel=>exact⟨k + 1,by omega,by go_num,hn5.out⟩
    ·rw [show k=ps.length from by omega,List.take_length]at hn2;have hn3:=hjd hn2;clear hn2;go_wp2_with fail;go_ret;exact⟨_,rfl,hn3.out⟩
end Go.Proofs.YtdbngnlpafcogaaGreat
namespace Go.Proofs.YtdbngnlpafcogaaGreat
open Go.RowKit Go.Mem Go.Txt
def a6u:List Nat:=[0x6a09e667f3bcc908,0xbb67ae8584caa73b,0x3c6ef372fe94f82b,0xa54ff53a5f1d36f1,0x510e527fade682d1,0x9b05688c2b3e6c1f,0x1f83d9abfb41bd6b,0x5be0cd19137e2179]
theorem d4d(l:List Nat):(uv l).toArray.all (·.oneCell')=true:=by
 rw [Array.all_eq_true_iff_forall_mem];intro u hu;simp only [List.mem_toArray,uv,List.mem_map]at hu;obtain⟨x,_,rfl⟩:=hu;rfl
theorem r8z:(Tryz.prog.info? 155).map (·.zero)=some (some (.agg (uv (List.replicate 8 0)).toArray)):=by kernel_rfl
theorem r8R:RowT Tryz.prog 155 8:=⟨⟨_,Tryz.underlying155,rfl⟩,by kernel_rfl⟩
set_option maxHeartbeats 800000 in
theorem c0z(w:World):Calls Tryz.prog 129 #[] w fun e w'=>e= .returned (.agg (uv a6u).toArray)∧Kept [] w w':=by
 go_enter Tryz.func129,Tryz.ntmps129;go_wp2_with (first
  | ((with_reducible refine a0h (o:=⟨some 0,_,_,_,_,_⟩) rfl rfl r8z ?_);intro g0 w1 m0)
  | (with_reducible refine a0f 1 ?_;refine a0p (v:=.agg (uv a6u).toArray) rfl (by kernel_rfl) ?_)
  | ((with_reducible refine a6c (.tmp 0) (.tmp 1) ?_);(refine a0a (cs:=(uv a6u).toArray) (o:=⟨none,Op.store 155 (.tmp 0) (.tmp 1),_,_,_,_⟩) r8R rfl (.tmp 0) (.tmp 1) rfl rfl rfl m0.blk rfl rfl (d4d _) ?_);intro w2 b0 k0;have B:=hjd b0;have K:=hjd (m0.kept.a0r k0 m0.le);clear m0 b0 k0))
 exact a1m r8R rfl rfl B.out rfl rfl ⟨rfl,K.out⟩
def a2f:List Nat:=[4794697086780616226,8158064640168781261,13096744586834688815,16840607885511220156,4131703408338449720,6480981068601479193,10538285296894168987,12329834152419229976,15566598209576043074,1334009975649890238,2608012711638119052,6128411473006802146,8268148722764581231,9286055187155687089,11230858885718282805,13951009754708518548,16472876342353939154,17275323862435702243,1135362057144423861,2597628984639134821,3308224258029322869,5365058923640841347,6679025012923562964,8573033837759648693,10970295158949994411,12119686244451234320,12683024718118986047,13788192230050041572,14330467153632333762,15395433587784984357,489312712824947311,1452737877330783856,2861767655752347644,3322285676063803686,5560940570517711597,5996557281743188959,7280758554555802590,8532644243296465576,9350256976987008742,10552545826968843579,11727347734174303076,12113106623233404929,14000437183269869457,14369950271660146224,15101387698204529176,15463397548674623760,17586052441742319658,1182934255886127544,1847814050463011016,2177327727835720531,2830643537854262169,3796741975233480872,4115178125766777443,5681478168544905931,6601373596472566643,7507060721942968483,8399075790359081724,8693463985226723168,9568029438360202098,10144078919501101548,10430055236837252648,11840083180663258601,13761210420658862357,14299343276471374635,14566680578165727644,15097957966210449927,16922976911328602910,17689382322260857208,500013540394364858,748580250866718886,1242879168328830382,1977374033974150939,2944078676154940804,3659926193048069267,4368137639120453308,4836135668995329356,5532061633213252278,6448918945643986474,6902733635092675308,7801388544844847127]
theorem c80z:(Tryz.prog.info? 178).map (·.zero)=some (some (.agg (uv (List.replicate 80 0)).toArray)):=by kernel_rfl
theorem c80R:RowT Tryz.prog 178 80:=⟨⟨_,Tryz.underlying178,rfl⟩,by kernel_rfl⟩
set_option maxHeartbeats 800000 in
theorem c2j(w:World):Calls Tryz.prog 130 #[] w fun e w'=>e= .returned (.agg (uv a2f).toArray)∧Kept [] w w':=by
 go_enter Tryz.func130,Tryz.ntmps130;go_wp2_with (first
  | ((with_reducible refine a0h (o:=⟨some 0,_,_,_,_,_⟩) rfl rfl c80z ?_);intro g0 w1 m0)
  | (with_reducible refine a0f 1 ?_;refine a0p (v:=.agg (uv a2f).toArray) rfl (by kernel_rfl) ?_)
  | ((with_reducible refine a6c (.tmp 0) (.tmp 1) ?_);(refine a0a (cs:=(uv a2f).toArray) (o:=⟨none,Op.store 178 (.tmp 0) (.tmp 1),_,_,_,_⟩) c80R rfl (.tmp 0) (.tmp 1) rfl rfl rfl m0.blk rfl rfl (d4d _) ?_);intro w2 b0 k0;have B:=hjd b0;have K:=hjd (m0.kept.a0r k0 m0.le);clear m0 b0 k0))
 exact a1m c80R rfl rfl B.out rfl rfl ⟨rfl,K.out⟩
theorem New.c2d{w w1 w2 w3:World}{v v':Value}{xs:List UInt8}{x:UInt8}(h:New w w1 v xs)(hk:Kept [] w1 w2)(ho:Ow w3 5 1 v' (xs.length + 1) (bv xs ++ bv [x]))(k3:Kept v.ownBlock.toList w2 w3)(f3:v'.ownBlock=v.ownBlock∨v'.ownBlock=some w2.heap.size):New w w3 v' (xs ++ [x]):=
 h.step (by rw [List.length_append];simpa [bv]using ho) (hk.of0.trans' k3) h.old (by
  rcases f3 with e | e
  ·exact .inl e
  ·exact .inr ⟨_,e,Nat.le_trans h.kept.size hk.size⟩)
end Go.Proofs.YtdbngnlpafcogaaGreat
namespace Go.Proofs.YtdbngnlpafcogaaGreat.Q
open Go.RowKit Go.Mem Go.Txt
def pz(n:Nat):Nat:=(239 - n % 128) % 128
def pad(m:List UInt8):List UInt8:=(m ++ 128 :: List.replicate (pz m.length) 0) ++ (List.replicate 8 0 ++ be8 (8 * m.length))
theorem d1v(n:Nat):pz n < 128:=Nat.mod_lt _ (by decide)
theorem d5i{n j:Nat}(h:j≤pz n):((n + 1 + j + 16) % 128=0)↔j=pz n:=by unfold pz at *;omega
theorem c5h(m:List UInt8):(pad m).length % 128=0:=by
 unfold pad;rw [List.length_append,List.length_append,List.length_cons,List.length_replicate,List.length_append,List.length_replicate,a2h];unfold pz;omega
set_option maxHeartbeats 1600000 in
theorem b3q(pv:Value)(ps:List (Value × List UInt8))(w:World)(hp:Parts w pv ps)(hn:ps.length≤9223372036854775807)(hl:(a0z ps).length≤140737488353000) :
 Calls Tryz.prog 131 #[pv,.int .i64 128] w fun e w'=>∃v',e= .returned v'∧New w w' v' (pad (a0z ps)):=by
 have cc:=hjd (b3e pv ps w hp hn (by omega));clear hp;generalize a0z ps=m at *;go_enter Tryz.func131,Tryz.ntmps131;go_wp2_with (first
  | (go_at_call 128;(with_reducible refine(cc.out).mono ?_);rintro e w1 ⟨ov,rfl,h⟩;obtain⟨A,c,rfl,_⟩:=h.ow.shape;have H:=hjd h;clear h)
  | ((with_reducible refine a0f 14 ?_);(refine a1a (o:=⟨some 14,_,_,_,_,_⟩) (v0:=.int .u8 128) (cells:=(bv [128]).toArray) rfl a1x rfl rfl (by decide) rfl rfl ?_);intro g7 w7 m7;have b7:=hjd (show Rd w7 1 (.slice (some ⟨g7,0,none⟩) 1 1) 1 (bv [128])from⟨_,_,rfl,rfl,by omega,fun _=>⟨g7,0,rfl,fun j u hu=>by rw [m7.blk.cell];simpa using hu⟩⟩);have k7:=hjd m7.kept;clear m7)
  | (at_builtin;refine a1q (n:=m.length) (m:=1) a1x rfl (.tmp 13) (.tmp 14) rfl rfl (H.out.ow.a0k k7.out) rfl b7.out (a2x _) (by omega) (by omega) ?_;intro v' w9 o9 k9 f9;obtain⟨A2,c2,hv',hlc'⟩:=o9.shape;subst hv';replace H:=hjd (H.out.c2d k7.out o9 k9 f9);clear o9 k9 f9 k7 b7))
 have hl2:=hjd hl;go_loopg [5] (pz m.length) (fun fu o wk=>∃(j:Nat) (A:Option Addr) (c:Nat),j≤pz m.length∧fu + j=pz m.length∧o= .slice A (m.length + 1 + j) c∧Hid (New w wk (.slice A (m.length + 1 + j) c) (m ++ 128 :: List.replicate j 0)));case atStart=>exact⟨0,A2,c2,by omega,by omega,rfl,H⟩
 case round=>
  clear H;obtain⟨j,A,c,hj,hfu,rfl,H⟩:=hrel;have hz:=d1v m.length;by_cases hlt:j < pz m.length
  ·have hne:¬(m.length + 1 + j + 16) % 128=0:=fun e=>by have:=(d5i hj).1 e;omega
   generalize hL:m.length + 1 + j=L at *;have hne1:(((L:Int) + 16) % 128=0)=False:=eq_false (by omega);have hne2:(((L:Int) + 16).tmod 128=0)=False:=eq_false (by rw [Int.tmod_eq_emod_of_nonneg (by omega)];omega);have hLs:L≤140737488353200:=by omega
   go_wp2_with (first
    | ((with_reducible refine a0f 25 ?_);(refine a1a (o:=⟨some 25,_,_,_,_,_⟩) (v0:=.int .u8 0) (cells:=(bv [0]).toArray) rfl a1x rfl rfl (by decide) rfl rfl ?_);intro g7 w7 m7;have b7:=hjd (show Rd w7 1 (.slice (some ⟨g7,0,none⟩) 1 1) 1 (bv [0])from⟨_,_,rfl,rfl,by omega,fun _=>⟨g7,0,rfl,fun j u hu=>by rw [m7.blk.cell];simpa using hu⟩⟩);have k7:=hjd m7.kept;clear m7)
    | (at_builtin;refine a1q (n:=L) (m:=1) a1x rfl (.tmp 24) (.tmp 25) rfl rfl (by have:=H.out.ow.a0k k7.out;have e:(m ++ 128 :: List.replicate j 0).length=L:=(by simp;omega);rw [e]at this;exact this) rfl b7.out (a2x _) (by omega) (by omega) ?_;intro v' w9 o9 k9 f9;have e:(m ++ 128 :: List.replicate j 0).length=L:=by simp;omega
       obtain⟨A3,c3,hv',hlc'⟩:=o9.shape;subst hv';replace H:=hjd (H.out.c2d k7.out (by rw [e];exact o9) k9 f9);clear o9 k9 f9 k7 b7 e))
   go_roundg (pz m.length - (j + 1));case measure=>omega
   case rel=>
    have e:m ++ 128 :: List.replicate (j + 1) 0=(m ++ 128 :: List.replicate j 0) ++ [0]:=by simp [List.replicate_succ']
    refine⟨j + 1,A3,c3,by omega,by omega,by rw [←hL];rfl,?_⟩;rw [e,show m.length + 1 + (j + 1)=L + 1 from by omega];exact H
  ·obtain rfl:j=pz m.length:=by omega
   have heq:=(d5i hj).2 rfl;generalize hL:m.length + 1 + pz m.length=L at *;have heq1:(((L:Int) + 16) % 128=0):=by omega
   have heq2:(((L:Int) + 16).tmod 128=0):=by rw [Int.tmod_eq_emod_of_nonneg (by omega)];omega
   have hLs:L≤140737488353200:=by omega
   have e:(m ++ 128 :: List.replicate (pz m.length) 0).length=L:=by simp;omega
   have ep:pad m=(m ++ 128 :: List.replicate (pz m.length) 0) ++ (List.replicate 8 0 ++ be8 (8 * m.length)):=rfl;replace ep:=hjd ep;generalize m ++ 128 :: List.replicate (pz m.length) 0=M0 at *;have q8:IntKind.u64.wrap (8 * (m.length:Int))=((8 * m.length:Nat):Int):=by rw [IntKind.wrap_u64];omega
   generalize 8 * m.length=q at *;subst e;go_wp2_with (first
    | (at_builtin;refine a9f a1x rfl rfl Tryz.underlying3 rfl (.tmp 27) (.tmp 30) rfl rfl H.out.ow 8 rfl (by omega) (by omega) ?_;intro v' w9 o9 k9 f9;obtain⟨A2,c2,hv',hlc'⟩:=o9.shape;subst hv'
       have H1:=hjd (show New w w9 (.slice A2 (M0.length + 8) c2) (M0 ++ List.replicate 8 0)from H.out.step (by rw [List.length_append,List.length_replicate];simpa [bv,a1z]using o9) k9 H.out.old (by
        rcases f9 with e | e
        ·exact .inl e
        ·exact .inr ⟨_,e,H.out.kept.size⟩))
       clear o9 k9 f9 H))
   clear heq1 heq2 heq;obtain⟨M1,hM1⟩:∃M1,M1=M0 ++ List.replicate 8 (0:UInt8):=⟨_,rfl⟩;have hl1:M0.length + 8=M1.length:=by rw [hM1,List.length_append,List.length_replicate]
   have H:=hjd (show New w _ (.slice A2 M1.length c2) M1 from by rw [←hl1,hM1];exact H1.out);replace ep:=hjd (show pad m=M1 ++ be8 q from by rw [ep.out,hM1,List.append_assoc]);rw [hl1];have hLs1:M1.length≤140737488353300:=by omega
   clear H1 hM1 hl1 hLs;generalize M1=M0 at *;go_loopg [5,7] 8 (fun fu o i wk=>∃(j:Nat) (A:Option Addr) (c:Nat),j≤8∧fu + j=8∧i= .int .i64 (56 - 8 * (j:Int))∧o= .slice A (M0.length + j) c∧Hid (New w wk (.slice A (M0.length + j) c) (M0 ++ (be8 q).take j)));case atStart=>exact⟨0,A2,c2,by omega,by omega,rfl,rfl,by simpa using H⟩
   case round=>
    clear H;obtain⟨j,A,c,hj8,hfu8,rfl,rfl,H⟩:=hrel;have el:(M0 ++ (be8 q).take j).length=M0.length + j:=by rw [List.length_append,List.length_take,a2h];omega
    by_cases hlt8:j < 8
    ·have h0:(0:Int)≤56 - 8 * (j:Int):=by omega
     have hb8:=c0n q j hlt8;have hbt:=b9h q j hlt8;generalize UInt8.ofNat (q / 256 ^ (7 - j))=x at *;replace hbt:=hjd hbt;replace el:=hjd el;have hb9:=hjd hb8;clear hb8;go_wp2_with (first
      | ((with_reducible refine a0f 43 ?_);(refine a1a (o:=⟨some 43,_,_,_,_,_⟩) (v0:=a1z x) (cells:=(bv [x]).toArray) rfl a1x rfl hb9.out (by decide) rfl rfl ?_);intro g7 w7 m7;have b7:=hjd (show Rd w7 1 (.slice (some ⟨g7,0,none⟩) 1 1) 1 (bv [x])from⟨_,_,rfl,rfl,by omega,fun _=>⟨g7,0,rfl,fun j u hu=>by rw [m7.blk.cell];simpa using hu⟩⟩);have k7:=hjd m7.kept;clear m7)
      | (at_builtin;refine a1q (n:=M0.length + j) (m:=1) a1x rfl (.tmp 36) (.tmp 43) rfl rfl (by have:=H.out.ow.a0k k7.out;rw [el.out]at this;exact this) rfl b7.out (a2x _) (by omega) (by omega) ?_;intro v' w9 o9 k9 f9;obtain⟨A3,c3,hv',hlc'⟩:=o9.shape;subst hv';replace H:=hjd (H.out.c2d k7.out (by rw [el.out];exact o9) k9 f9);clear o9 k9 f9 k7 b7))
     go_roundg (8 - (j + 1));case measure=>omega
     case rel=>
      refine⟨j + 1,A3,c3,by omega,by omega,by go_num,rfl,?_⟩;rw [hbt.out,←List.append_assoc];exact H
    ·obtain rfl:j=8:=by omega
     have et:(be8 q).take 8=be8 q:=List.take_of_length_le (by rw [a2h];omega);rw [et]at H;clear el et;go_wp2_with fail;go_ret;rw [ep.out];exact⟨_,rfl,H.out⟩
end Go.Proofs.YtdbngnlpafcogaaGreat.Q
namespace Go.Proofs.YtdbngnlpafcogaaGreat.Q
open Go.RowKit Go.Mem Go.Txt
abbrev W64(x:BitVec 64):Value:=.int .u64 (x.toNat:Int)
theorem ofInt64(x:BitVec 64):BitVec.ofInt 64 (x.toNat:Int)=x:=by
 apply BitVec.eq_of_toNat_eq;rw [BitVec.toNat_ofInt];have:=x.isLt;omega
theorem c0j(x:BitVec 64):IntKind.u64.wrap (x.toNat:Int)=x.toNat:=by
 have:=x.isLt;rw [IntKind.wrap_u64];omega
theorem b5h(x y:BitVec 64):bits .xor .u64 (x.toNat:Int) (y.toNat:Int)=((x ^^^ y).toNat:Nat):=by
 show IntKind.u64.wrap (((BitVec.ofInt 64 (x.toNat:Int)) ^^^ (BitVec.ofInt 64 (y.toNat:Int))).toNat:Nat)=_;rw [ofInt64,ofInt64,c0j]
theorem d5m(x y:BitVec 64):bits .and .u64 (x.toNat:Int) (y.toNat:Int)=((x &&& y).toNat:Nat):=by
 show IntKind.u64.wrap (((BitVec.ofInt 64 (x.toNat:Int)) &&& (BitVec.ofInt 64 (y.toNat:Int))).toNat:Nat)=_;rw [ofInt64,ofInt64,c0j]
theorem bor(x y:BitVec 64):bits .or .u64 (x.toNat:Int) (y.toNat:Int)=((x ||| y).toNat:Nat):=by
 show IntKind.u64.wrap (((BitVec.ofInt 64 (x.toNat:Int)) ||| (BitVec.ofInt 64 (y.toNat:Int))).toNat:Nat)=_;rw [ofInt64,ofInt64,c0j]
theorem c4o(x y:BitVec 64):IntKind.u64.wrap ((x.toNat:Int) + (y.toNat:Int))=((x + y).toNat:Nat):=by
 rw [IntKind.wrap_u64,BitVec.toNat_add];omega
theorem bnot(x:BitVec 64):bits .xor .u64 18446744073709551615 (x.toNat:Int)=((~~~x).toNat:Nat):=by
 have e:BitVec.ofInt 64 18446744073709551615=BitVec.allOnes 64:=by decide
 show IntKind.u64.wrap (((BitVec.ofInt 64 18446744073709551615) ^^^ (BitVec.ofInt 64 (x.toNat:Int))).toNat:Nat)=_;rw [ofInt64,e,BitVec.allOnes_xor,c0j]
theorem e4s(x:BitVec 64)(s:Nat):(x.toNat:Int) * 2 ^ s % 18446744073709551616=((x <<< s).toNat:Nat):=by
 rw [BitVec.toNat_shiftLeft,Nat.shiftLeft_eq];have h:((2:Int) ^ s)=((2 ^ s:Nat):Int):=by norm_cast
 rw [h];generalize 2 ^ s=q;show(x.toNat:Int) * (q:Int) % ((18446744073709551616:Nat):Int)=((x.toNat * q % 18446744073709551616:Nat):Int);rw [Int.natCast_emod,Int.natCast_mul]
theorem e5k(x:BitVec 64)(s:Nat):(x.toNat:Int) / 2 ^ s=((x >>> s).toNat:Nat):=by
 rw [BitVec.toNat_ushiftRight,Nat.shiftRight_eq_div_pow];have h:((2:Int) ^ s)=((2 ^ s:Nat):Int):=by norm_cast
 rw [h]
 norm_cast
theorem a3g(x:BitVec 64)(k:Int)(s:Nat)(hs:bits .and .u64 (IntKind.u64.wrap k) 63=s)(h63:s≤63)(w:World) :
 Calls Tryz.prog 152 #[W64 x,.int .i64 k] w fun e w'=>e= .returned (W64 (x <<< s ||| x >>> (64 - s)))∧Kept [] w w':=by
 have K:=hjd (Kept.refl [] w);have h1:(64:Int) - s=((64 - s:Nat):Int):=by omega
 have h2:IntKind.u64.wrap ((64 - s:Nat):Int)=((64 - s:Nat):Int):=by rw [IntKind.wrap_u64];omega
 have h3:∀t:Nat,((t:Int)).toNat=t:=fun t=>rfl
 go_enter Tryz.func152,Tryz.ntmps152;go_wp2_with fail;go_ret;refine⟨?_,K.out⟩;show Ending.returned (.int .u64 (bits .or .u64 ((x.toNat:Int) * 2 ^ s % 18446744073709551616) ((x.toNat:Int) / 2 ^ (64 - s))))=_;rw [e4s,e5k,bor]
end Go.Proofs.YtdbngnlpafcogaaGreat.Q
namespace Go.Proofs.YtdbngnlpafcogaaGreat.Q
open Go.RowKit Go.Mem Go.Txt
abbrev B64:=BitVec 64
def rl(x:B64)(s:Nat):B64:=x <<< s ||| x >>> (64 - s)
def ls0(x:B64):B64:=(rl x 63 ^^^ rl x 56) ^^^ x >>> 7
def ls1(y:B64):B64:=(rl y 45 ^^^ rl y 3) ^^^ y >>> 6
def us0(a:B64):B64:=(rl a 36 ^^^ rl a 30) ^^^ rl a 25
def us1(e:B64):B64:=(rl e 50 ^^^ rl e 46) ^^^ rl e 23
def chB(e f g:B64):B64:=(e &&& f) ^^^ (~~~e &&& g)
def mjB(a b c:B64):B64:=((a &&& b) ^^^ (a &&& c)) ^^^ (b &&& c)
def d2h(p:Nat→UInt8)(t:Nat):Nat→B64
 | 0=>0
 | j + 1=>d2h p t j <<< 8 ||| BitVec.ofNat 64 (p (8 * t + j)).toNat
def wrd(p:Nat→UInt8)(t:Nat):B64:=d2h p t 8
def sch(p:Nat→UInt8)(t:Nat):B64:=
 if _h:t < 16 then wrd p t else ls1 (sch p (t - 2)) + sch p (t - 7) + ls0 (sch p (t - 15)) + sch p (t - 16)
termination_by t
decreasing_by all_goals omega
theorem c1q(p:Nat→UInt8){t:Nat}(h:t < 16):sch p t=wrd p t:=by rw [sch,dif_pos h]
theorem c2q(p:Nat→UInt8){t:Nat}(h:¬t < 16):sch p t=ls1 (sch p (t - 2)) + sch p (t - 7) + ls0 (sch p (t - 15)) + sch p (t - 16):=by rw [sch,dif_neg h]
def n64(n:Nat):B64:=BitVec.ofNat 64 n
def rnd(k m:B64)(v:Nat→B64):Nat→B64
 | 0=>v 7 + us1 (v 4) + chB (v 4) (v 5) (v 6) + k + m + (us0 (v 0) + mjB (v 0) (v 1) (v 2))
 | 4=>v 3 + (v 7 + us1 (v 4) + chB (v 4) (v 5) (v 6) + k + m)
 | i + 1=>v i
def a3z(p:Nat→UInt8)(h:Nat→B64):Nat→Nat→B64
 | 0=>h
 | t + 1=>rnd (n64 (a2f.getD t 0)) (sch p t) (a3z p h t)
def blk(p:Nat→UInt8)(h:Nat→B64):Nat→B64:=fun i=>h i + a3z p h 80 i
def b0r(b:List UInt8):Nat→Nat→B64
 | 0=>fun i=>n64 (a6u.getD i 0)
 | n + 1=>blk (fun j=>b.getD (128 * n + j) 0) (b0r b n)
def c3k(h:Nat→B64):List UInt8:=(List.range 64).map fun j=>UInt8.ofNat ((h (j / 8)).toNat / 2 ^ (56 - 8 * (j % 8)))
def sha(m:List UInt8):List UInt8:=c3k (b0r (pad m) ((pad m).length / 128))
theorem b3g(m:List UInt8):(sha m).length=64:=by simp [sha,c3k]
end Go.Proofs.YtdbngnlpafcogaaGreat.Q
namespace Go.Txt
section
variable {P:Program} {F:List Nat} {S:World→Prop} {G:Act→World→Prop} {Q:Exit→Act→World→Prop}
theorem c8r{ops ops':Array Oper}{i:Nat}{o:Oper}(h1:ops[i]?=some o)(h2:ops'[i]?=some o)(hg:o.guard=none){K:Act→World→Prop}{a:Act}{w:World}(h:wpOp P ops T0 i K a w):wpOp P ops' Q i K a w:=by
 have hw:∀y,Region.wanted o y=true:=fun y=>by simp [Region.wanted,hg]
 unfold wpOp at h ⊢;simp only [h1,hw,if_true]at h;simp only [h2,hw,if_true];rcases h with h2 | ⟨_,hl⟩
 case inr=>exact(a2k hT0 hl).elim
 refine .inl ?_;unfold Oper.wp at h2 ⊢;generalize (execOp a.eval o).run P w=r at *
 cases r with
 | ok n w'=>
   cases n <;> simp only [Oper.upon]at h2 ⊢ <;> first
    | exact h2
    | exact Calls.mono h2 fun e w'' he=>by
       cases e with
       | returned u=>exact he
       | panicked c=>exact he.elim
       | outgrown=>exact(a2k hT0 he).elim
 | halt x w'=>
   cases x <;> simp only [Oper.upon]at h2 ⊢
   case panic u=>exact h2.elim
theorem a9n{m:Array Bool}{j:Nat}(h:j < m.size)(d:Bool):(m.push false).getD j d=m.getD j d:=by
 simp [Array.getD,h,Nat.lt_succ_of_lt h,Array.getElem_push_lt h]
theorem b7a{m:Array Bool}{j:Nat}(h:j=m.size)(d:Bool):(m.push false).getD j d=false:=by
 subst h;simp [Array.getD]
theorem d9c{m:Array Bool}{j:Nat}(h:j < m.size):m.getD j true=m.getD j false:=by simp [Array.getD,h]
theorem c9w{ops:Array Oper}(hdep:d1m ops=true){listed:Array Bool}(hs:listed.size=ops.size)(hr:Region.ready .any ops listed= []):∀j,j < ops.size→listed.getD j true=true:=by
 intro j
 induction j using Nat.strongRecOn with
 | _ j ih=>
   intro hj
   cases hl:listed.getD j true with
   | true=>rfl
   | false=>
     exfalso
     have hjs:j < listed.size:=by omega
     have:j∈Region.ready .any ops listed:=by
      rw [mem_ready];refine⟨hl,ops[j],by simp [hj],fun e he hb=>?_⟩;have hlt:=a3w hdep j ops[j] (by simp [hj]) e he hb;have:=ih e.on hlt (by omega);have hes:e.on < listed.size:=by omega
      simpa [Array.getD,hes]using this
     rw [hr]at this
     cases this
theorem d8a{l:List Oper}{ol:Oper}(hdep:d1m (l ++ [ol]).toArray=true)(hgd:∀o∈l ++ [ol],o.guard=none)(hlate:∀i,i < l.length→b9r (l ++ [ol]).toArray i ol)
 (hG:∀a w,G a w→ol.wp P a w (fun a w=>Q .normal a w) Q) :
 ∀(fuel:Nat) (m:Array Bool) (a:Act) (w:World),m.size=l.length→a4z (l ++ [ol]).toArray (m.push false)→anyS P l.toArray S G fuel m a w→wpAny P .any (l ++ [ol]).toArray Q (fuel + 1) (m.push false) a w:=by
 have hol:(l ++ [ol]).toArray[l.length]?=some ol:=by simp
 have hge:∀(i:Nat),i < l.length→(l ++ [ol]).toArray[i]?=l.toArray[i]?:=fun i hi=>by simp [List.getElem?_append_left hi]
 have hlast:∀(fuel:Nat) (m:Array Bool) (a:Act) (w:World),m.size=l.length→(∀j,j < l.length→(m.push false).getD j true=true)→G a w→wpOp P (l ++ [ol]).toArray Q l.length (wpAny P .any (l ++ [ol]).toArray Q fuel ((m.push false).setIfInBounds l.length true)) a w:=by
  intro fuel m a w hm hall hg;have hw:∀y,Region.wanted ol y=true:=fun y=>by simp [Region.wanted,hgd ol (by simp)]
  have hr:Region.ready .any (l ++ [ol]).toArray ((m.push false).setIfInBounds l.length true)= []:=by
   rw [List.eq_nil_iff_forall_not_mem];intro j hj;obtain⟨h1,o,ho,_⟩:=mem_ready.1 hj;have hjl:j < l.length + 1:=by have:=(Array.getElem?_eq_some_iff.1 ho).1;simpa using this
   by_cases hjn:j=l.length
   ·subst hjn;simp [Array.getD,hm]at h1
   ·have h2:=hall j (by omega);rw [getD_set_ne true (Ne.symm hjn)]at h1;rw [h1]at h2
    cases h2
  unfold wpOp;simp only [hol,hw,if_true];refine .inl (Oper.wp_mono (fun a' w' h'=>?_) (hG a w hg))
  cases fuel with
  | zero=>exact⟨hr,h'⟩
  | succ fuel=>exact⟨fun _=>h',fun i hi=>by rw [hr]at hi;cases hi⟩
 have hnr:∀(m:Array Bool),m.size=l.length→(∀j,j < l.length→(m.push false).getD j true=true)→Region.ready .any l.toArray m= []:=by
  intro m hm hall;rw [List.eq_nil_iff_forall_not_mem];intro j hj;obtain⟨h1,o,ho,_⟩:=mem_ready.1 hj;have hjl:j < l.length:=by have:=(Array.getElem?_eq_some_iff.1 ho).1;simpa using this
  have h2:=hall j hjl;have hjm:j < m.size:=by omega
  rw [a9n hjm,h1]at h2
  cases h2
 have hsome:∀(m:Array Bool),m.size=l.length→Region.ready .any (l ++ [ol]).toArray (m.push false)≠[]:=by
  intro m hm hr;have:=c9w hdep (by simp [hm]) hr l.length (by simp);rw [b7a hm.symm]at this
  cases this
 have hready:∀(m:Array Bool) i,m.size=l.length→i < l.length→i∈Region.ready .any (l ++ [ol]).toArray (m.push false)→i∈Region.ready .any l.toArray m:=by
  intro m i hm hi h;obtain⟨h1,o,ho,h2⟩:=mem_ready.1 h;rw [mem_ready];have him:i < m.size:=by omega
  refine⟨?_,o,by rw [←hge i hi];exact ho,fun e he hb=>?_⟩
  ·rwa [a9n him]at h1
  ·have h3:=h2 e he hb;have h4:=a3w hdep i o ho e he hb;have hem:e.on < m.size:=by omega
   rwa [a9n hem]at h3
 have hlt:∀(m:Array Bool),m.size=l.length→a4z (l ++ [ol]).toArray (m.push false)→l.length∈Region.ready .any (l ++ [ol]).toArray (m.push false)→∀j,j < l.length→(m.push false).getD j true=true:=by
  intro m hm hc hi j hj
  cases hl:(m.push false).getD j true with
  | true=>rfl
  | false=>
    obtain⟨_,o,ho,h2⟩:=mem_ready.1 hi;rw [hol]at ho
    cases ho
    obtain⟨e,he,hb,h3⟩:=hlate j hj _ hc hl;have h4:=h2 e he hb;have h5:=a3w hdep l.length ol hol e he hb;have hem:e.on < (m.push false).size:=by simp;omega
    rw [d9c hem,h4]at h3
    cases h3
 intro fuel
 induction fuel with
 | zero=>
   intro m a w hm hc h;refine⟨fun hr=>(hsome m hm hr).elim,fun i hi=>?_⟩;have hil:i < l.length + 1:=by
    obtain⟨_,o,ho,_⟩:=mem_ready.1 hi;have:=(Array.getElem?_eq_some_iff.1 ho).1;simpa using this
   by_cases hin:i=l.length
   ·subst hin;exact hlast 0 m a w hm (hlt m hm hc hi) h.2
   ·have:=hready m i hm (by omega) hi;rw [h.1]at this
    cases this
 | succ fuel ih=>
   intro m a w hm hc h;refine⟨fun hr=>(hsome m hm hr).elim,fun i hi=>?_⟩;have hil:i < l.length + 1:=by
    obtain⟨_,o,ho,_⟩:=mem_ready.1 hi;have:=(Array.getElem?_eq_some_iff.1 ho).1;simpa using this
   by_cases hin:i=l.length
   ·subst hin;exact hlast (fuel + 1) m a w hm (hlt m hm hc hi) (h.1 (hnr m hm (hlt m hm hc hi)))
   ·have hi2:i < l.length:=by omega
    have hri:=hready m i hm hi2 hi;have hop:=h.2 i hri;have hoi:l.toArray[i]?=some l[i]:=by simp [hi2]
    have e:(m.push false).setIfInBounds i true=(m.setIfInBounds i true).push false:=by
     have him:i < m.size:=by omega
     apply Array.ext_getElem?;intro j;simp only [Array.getElem?_setIfInBounds,Array.getElem?_push,Array.size_push,Array.size_setIfInBounds];by_cases h1:i=j
     ·subst h1;have h2:i < m.size + 1:=by omega
      have h3:¬i=m.size:=by omega
      simp [him,h2,h3]
     ·simp [h1]
    have h3:wpOp P l.toArray T0 i (wpAny P .any (l ++ [ol]).toArray Q (fuel + 1) ((m.push false).setIfInBounds i true)) a w:=wpOp_mono (fun a' w' hh=>by
     rw [e];refine ih _ a' w' (by simpa using hm) ?_ hh.2;rw [←e];exact hc.set hi) hop
    exact c8r hoi ((hge i hi2).trans hoi) (hgd _ (by simp)) h3
def lastB(ops:Array Oper):Bool:=d1m ops && (ops.all (fun o=>o.guard.isNone) && d7l 0 ops.toList [] (fun acc=>(List.range (ops.size - 1)).all fun i=>(acc.getD 0 0).testBit i))
theorem b2l(F:List Nat)(S:World→Prop){id:Nat}{a:Act}{w:World}{ops:Array Oper}(l:List Oper)(ol:Oper)(hops:ops=(l ++ [ol]).toArray)(ss:List (List Oper))(hm:P.follows .mixedOrders=true)(hB:b9b P l.toArray F=true)(hL:lastB (l ++ [ol]).toArray=true)
 (hss:parts P l=ss) (hS:S w.drew) (h:a3j P l.toArray S (a4v P l.toArray F S (fun _ a w=>ol.wp P a w (fun a w=>Q .normal a w) Q)) ss a w.drew):(Code.region id ops true).wp P Q a w:=by
 subst hops;simp only [lastB,Bool.and_eq_true]at hL;obtain⟨hdep2,hgd,hrows2⟩:=hL;simp only [b9b,Bool.and_eq_true]at hB;obtain⟨⟨⟨hns,hset⟩,hdep⟩,hrows⟩:=hB;obtain⟨acc,hinv,hpr⟩:=a7v hdep l 0 [] (by simp) ⟨rfl,fun e he=>by omega⟩ (by simpa using hrows);have hpair:∀i j oi oj,i < j→l.toArray[i]?=some oi→l.toArray[j]?=some oj→¬b9r l.toArray i oj→b4k P l.toArray F i j oi oj=true:=
  fun i j oi oj hij hi hj hn=>b1c (by simpa using hinv) hpr hij hi hj hn
 obtain⟨acc2,hinv2,hpr2⟩:=a7v hdep2 (l ++ [ol]) 0 [] (by simp) ⟨rfl,fun e he=>by omega⟩ (by simpa using hrows2);have hG:∀a w,a4v P l.toArray F S (fun _ a w=>ol.wp P a w (fun a w=>Q .normal a w) Q) a w→Good P l.toArray F S a:=fun _ _ h=>h.1
 have hsel:=Region.noSelect_spec hns;have h1:b7h P l.toArray S (a4v P l.toArray F S (fun _ a w=>ol.wp P a w (fun a w=>Q .normal a w) Q)) l.length 0 a w.drew:=by
  subst hss;have hpn:=b2d (P:=P) l;have hpf:=a6i (P:=P) l;have hpo:=b5e (P:=P) l
  cases hp:parts P l with
  | nil=>exact absurd hp hpn
  | cons s ss=>
    rw [hp]at h hpf hpo
    have:=b4s hG hset (a3w hdep) hsel ss s 0 a w.drew hS hpo (fun j=>by
     have:s ++ ss.flatten=l:=by simpa using hpf
     rw [this];simp) h
    have e:s ++ ss.flatten=l:=by simpa using hpf
    rw [e]at this;exact this
 have h2:=b0b hG hset hdep hpair hsel l.length 0 (Array.replicate l.toArray.size false) a w.drew hS (by simp) (by simp) (fun j hj=>by simp at hj;simp [hj]) (a4z.start _) h1;refine wp_region_any hm ?_;have e:Array.replicate (l ++ [ol]).toArray.size false=(Array.replicate l.toArray.size false).push false:=by
  apply Array.ext';simp [List.replicate_succ']
 have h3:=d8a (Q:=Q) hdep2 (fun o ho=>by
  have:=Array.all_eq_true_iff_forall_mem.1 hgd o (by simpa using ho);simpa using this) (fun i hi=>by
  have ht:=List.all_eq_true.1 hpr2 i (by simpa using hi);have:=hinv2.2 l.length (by simp) i ol (by simp);simp only [Nat.zero_add,List.length_append,List.length_cons,List.length_nil,Nat.add_sub_cancel,Nat.sub_self]at this;exact this ht) (fun a w hh=>hh.2) l.length (Array.replicate l.toArray.size false) a w.drew (by simp) (by rw [←e];exact a4z.start _) h2
 rw [e];simpa using h3
end
end Go.Txt
namespace Go.Proofs.YtdbngnlpafcogaaGreat.Q
open Go.RowKit Go.Mem Go.Txt
theorem a2y{P:Program}{u:World}{a:Act}{o:Oper}{t:TypeId}(x:Operand)(ho:o.op= .load t x)(hs:∀w,(isAgg t).run P w= .ok false w){p:Addr}(hx:a.eval x= .pointer (some p)){v:Value}(hc:u.cell? p=some v) :
 (execOp a.eval o).run P u= .ok (.value v) u:=by
 have h2:(isAgg t).run P u= .ok false u:=hs u;simp [execOp,ho,hx,Instr.loadAt,Instr.sureAddr,loadVar,h2,hc]
theorem w8z:(Tryz.prog.info? 155).map (·.zero)=some (some (.agg ((fam 8 fun _=>(0:B64)).map W64).toArray)):=by kernel_rfl
theorem e0h:(Tryz.prog.info? 32).map (·.zero)=some (some (ab (a0m 64))):=by kernel_rfl
theorem m80z:(Tryz.prog.info? 178).map (·.zero)=some (some (.agg ((fam 80 fun _=>(0:B64)).map W64).toArray)):=by kernel_rfl
theorem d1e(w:World):(isAgg 67).run Tryz.prog w= .ok false w:=by kernel_rfl
theorem u64s(w:World):(sizeOf 67).run Tryz.prog w= .ok 1 w:=by kernel_rfl
theorem b9s(cs:Array Value)(k:Nat)(v:Value)(hk:k < 8)(hv:cs[k]?=some v)(w:World):(Instr.index 155 (.agg cs) (.int .i64 (k:Int))).run Tryz.prog w= .ok v w:=by
 have h1:(0:Int)≤k∧(k:Int) < 8:=by omega
 have h2:¬8≤k:=by omega
 simp [Instr.index,run_underlying Tryz.underlying155,asIntOf,h1,h2,u64s w,part,hv]
theorem b7e:RowT Tryz.prog 32 64:=⟨⟨_,Tryz.underlying32,rfl⟩,by kernel_rfl⟩
theorem d6o(l:List B64):(l.map W64).toArray.all (·.oneCell')=true:=by
 rw [Array.all_eq_true_iff_forall_mem];intro u hu;simp only [List.mem_toArray,List.mem_map]at hu;obtain⟨x,_,rfl⟩:=hu;rfl
def b2v(h:Nat→B64)(j:Nat):UInt8:=UInt8.ofNat ((h (j / 8)).toNat / 2 ^ (56 - 8 * (j % 8)))
theorem c3u(h:Nat→B64):c3k h=fam 64 (b2v h):=rfl
theorem a8j(h:Nat→B64):(c3k h).length=64:=by simp [c3k]
theorem b7p(h:Nat→B64)(k i:Nat)(hi:i < 8):((h k).toNat:Int) / 2 ^ (56 - 8 * i) % 256=((b2v h (8 * k + i)).toNat:Int):=by
 unfold b2v;rw [show(8 * k + i) / 8=k from by omega,show(8 * k + i) % 8=i from by omega,UInt8.toNat_ofNat'];have h2:((2:Int) ^ (56 - 8 * i))=((2 ^ (56 - 8 * i):Nat):Int):=by norm_cast
 rw [h2];generalize 2 ^ (56 - 8 * i)=q;show((h k).toNat:Int) / (q:Int) % ((256:Nat):Int)=(((h k).toNat / q % 256:Nat):Int);rw [Int.natCast_emod,Int.natCast_ediv]
theorem e6e:uv a6u=(fam 8 fun i=>n64 (a6u.getD i 0)).map W64:=by kernel_rfl
theorem d2e:a2f.all (fun n=>decide (n < 18446744073709551616))=true:=by kernel_rfl
theorem e0p(t:Nat):a2f.getD t 0 < 18446744073709551616:=by
 rw [List.getD_eq_getElem?_getD]
 cases h:a2f[t]? with
 | none=>exact(by decide)
 | some n=>
   have:=List.all_eq_true.1 d2e n (List.mem_of_getElem? h);simpa using this
theorem built8(s0 s1 s2 s3 s4 s5 s6 s7:B64):Tryz.prog.built 155 [(0,W64 s0),(1,W64 s1),(2,W64 s2),(3,W64 s3),(4,W64 s4),(5,W64 s5),(6,W64 s6),(7,W64 s7)]=some (([s0,s1,s2,s3,s4,s5,s6,s7]:List B64).map W64).toArray:=by kernel_rfl
structure ShA (w0:World) (g2 g3 g4:Nat) (h:Nat→B64) (u:World):Prop where
 b2:Blk u g2 32 (bv (a0m 64)).toArray
 b3:Blk u g3 155 ((fam 8 h).map W64).toArray
 b4:Blk u g4 178 (uv a2f).toArray
 k:Kept [] w0 u
 l2:w0.heap.size≤g2
 l3:w0.heap.size≤g3
 l4:w0.heap.size≤g4
theorem ShA.kept{w0 u u':World}{g2 g3 g4:Nat}{h:Nat→B64}(t:ShA w0 g2 g3 g4 h u)(hk:Kept [] u u'):ShA w0 g2 g3 g4 h u':=⟨t.b2.kept hk (by simp),t.b3.kept hk (by simp),t.b4.kept hk (by simp),t.k.a0g hk,t.l2,t.l3,t.l4⟩
structure ShB (w0:World) (g2 g3 g4 g5:Nat) (h m:Nat→B64) (u:World):Prop where
 A:ShA w0 g2 g3 g4 h u
 b5:Blk u g5 178 ((fam 80 m).map W64).toArray
 l5:w0.heap.size≤g5
 n45:g4≠g5
theorem ShB.kept{w0 u u':World}{g2 g3 g4 g5:Nat}{h m:Nat→B64}(t:ShB w0 g2 g3 g4 g5 h m u)(hk:Kept [] u u'):ShB w0 g2 g3 g4 g5 h m u':=⟨t.A.kept hk,t.b5.kept hk (by simp),t.l5,t.n45⟩
structure ShM (w0:World) (g2 g3 g4 g5 b o:Nat) (h m:Nat→B64) (rest:List UInt8) (u:World):Prop where
 B:ShB w0 g2 g3 g4 g5 h m u
 all:∀j v,(bv rest)[j]?=some v→u.cell? ⟨b,o + j,none⟩=some v
 n3:b≠g3
 n5:b≠g5
section
variable {w0 u u':World} {g2 g3 g4 g5 g13 b o:Nat} {h h' m m' v v':Nat→B64} {rest:List UInt8} {k:Nat}
theorem ShM.rd(t:ShM w0 g2 g3 g4 g5 b o h m rest u){j:Nat}(hj:j < rest.length):u.cell? ⟨b,o + j,none⟩=some (.int .u8 ((rest.getD j 0).toNat:Int)):=
 t.all j _ (by simp [a1z,hj,List.getD_eq_getElem?_getD])
theorem ShM.kept(t:ShM w0 g2 g3 g4 g5 b o h m rest u)(hk:Kept [] u u'):ShM w0 g2 g3 g4 g5 b o h m rest u':=⟨t.B.kept hk,fun j v hj=>hk.cell (t.all j v hj) (by simp),t.n3,t.n5⟩
theorem ShM.drew(t:ShM w0 g2 g3 g4 g5 b o h m rest u):ShM w0 g2 g3 g4 g5 b o h m rest u.drew:=t.kept (Kept.refl [] u).drew
theorem ShM.set5a(t:ShM w0 g2 g3 g4 g5 b o h m rest u)(x:B64)(hb:Blk (u.setCell ⟨g5,k,none⟩ (W64 x)) g5 178 ((fam 80 m').map W64).toArray):ShM w0 g2 g3 g4 g5 b o h m' rest (u.setCell ⟨g5,k,none⟩ (W64 x)):=by
 have hk:Kept [g5] u (u.setCell ⟨g5,k,none⟩ (W64 x)):=(Kept.refl [g5] u).setCell (.inl (by simp)) _
 exact⟨⟨⟨t.B.A.b2.kept hk (by simpa using t.B.A.b2.ne_ t.B.b5 (by decide)),t.B.A.b3.kept hk (by simpa using t.B.A.b3.ne_ t.B.b5 (by decide)),t.B.A.b4.kept hk (by simpa using t.B.n45),t.B.A.k.a0r hk t.B.l5,t.B.A.l2,t.B.A.l3,t.B.A.l4⟩,hb,t.B.l5,t.B.n45⟩,
  fun j v hj=>hk.cell (t.all j v hj) (by simpa using t.n5),t.n3,t.n5⟩
theorem ShM.set5(t:ShM w0 g2 g3 g4 g5 b o h (mix m m' k) rest u):ShM w0 g2 g3 g4 g5 b o h (mix m m' (k + 1)) rest (u.setCell ⟨g5,k,none⟩ (W64 (m' k))):=t.set5a (m' k) t.B.b5.b2o
theorem ShM.sety(t:ShM w0 g2 g3 g4 g5 b o h m rest u)(k:Nat)(m':Nat→B64)(hm:∀i,i≠k→m' i=m i):ShM w0 g2 g3 g4 g5 b o h m' rest (u.setCell ⟨g5,k,none⟩ (W64 (m' k))):=by
 have e:(fun i=>if i=k then m' k else m i)=m':=by
  funext i
  by_cases hi:i=k
  ·subst hi;exact if_pos rfl
  ·rw [if_neg hi,hm i hi]
 refine t.set5a (m' k) ?_;have:=t.B.b5.e6l k (m' k)
 rwa [e]at this
structure ShV (w0:World) (g2 g3 g4 g5 b o g13:Nat) (h m:Nat→B64) (rest:List UInt8) (v:Nat→B64) (u:World):Prop where
 M:ShM w0 g2 g3 g4 g5 b o h m rest u
 v:Blk u g13 155 ((fam 8 v).map W64).toArray
 n3:g3≠g13
 nb:b≠g13
 l:w0.heap.size≤g13
theorem ShV.kept(t:ShV w0 g2 g3 g4 g5 b o g13 h m rest v u)(hk:Kept [] u u'):ShV w0 g2 g3 g4 g5 b o g13 h m rest v u':=⟨t.M.kept hk,t.v.kept hk (by simp),t.n3,t.nb,t.l⟩
theorem ShV.drew(t:ShV w0 g2 g3 g4 g5 b o g13 h m rest v u):ShV w0 g2 g3 g4 g5 b o g13 h m rest v u.drew:=t.kept (Kept.refl [] u).drew
theorem ShV.put(t:ShV w0 g2 g3 g4 g5 b o g13 h m rest v u)(hk:Kept [g13] u u')(hb:Blk u' g13 155 ((fam 8 v').map W64).toArray):ShV w0 g2 g3 g4 g5 b o g13 h m rest v' u':=
 ⟨⟨⟨⟨t.M.B.A.b2.kept hk (by simpa using t.M.B.A.b2.ne_ t.v (by decide)),t.M.B.A.b3.kept hk (by simpa using t.n3),t.M.B.A.b4.kept hk (by simpa using t.M.B.A.b4.ne_ t.v (by decide)),t.M.B.A.k.a0r hk t.l,t.M.B.A.l2,t.M.B.A.l3,t.M.B.A.l4⟩,t.M.B.b5.kept hk (by simpa using t.M.B.b5.ne_ t.v (by decide)),t.M.B.l5,t.M.B.n45⟩,
  fun j v hj=>hk.cell (t.M.all j v hj) (by simpa using t.nb),t.M.n3,t.M.n5⟩,hb,t.n3,t.nb,t.l⟩
theorem ShV.set3(t:ShV w0 g2 g3 g4 g5 b o g13 (mix h h' k) m rest v u):ShV w0 g2 g3 g4 g5 b o g13 (mix h h' (k + 1)) m rest v (u.setCell ⟨g3,k,none⟩ (W64 (h' k))):=by
 have hk:Kept [g3] u (u.setCell ⟨g3,k,none⟩ (W64 (h' k))):=(Kept.refl [g3] u).setCell (.inl (by simp)) _
 exact⟨⟨⟨⟨t.M.B.A.b2.kept hk (by simpa using t.M.B.A.b2.ne_ t.M.B.A.b3 (by decide)),t.M.B.A.b3.b2o,t.M.B.A.b4.kept hk (by simpa using t.M.B.A.b4.ne_ t.M.B.A.b3 (by decide)),t.M.B.A.k.a0r hk t.M.B.A.l3,t.M.B.A.l2,t.M.B.A.l3,t.M.B.A.l4⟩,t.M.B.b5.kept hk (by simpa using t.M.B.b5.ne_ t.M.B.A.b3 (by decide)),t.M.B.l5,t.M.B.n45⟩,
  fun j v hj=>hk.cell (t.M.all j v hj) (by simpa using t.M.n3),t.M.n3,t.M.n5⟩,t.v.kept hk (by simpa using t.n3.symm),t.n3,t.nb,t.l⟩
end
theorem e5w(x:B64)(w:World):Calls Tryz.prog 152 #[W64 x,.int .i64 (-19)] w fun e w'=>e= .returned (W64 (rl x 45))∧Kept [] w w':=a3g x (-19) 45 (by kernel_rfl) (by decide) w
theorem rot61(x:B64)(w:World):Calls Tryz.prog 152 #[W64 x,.int .i64 (-61)] w fun e w'=>e= .returned (W64 (rl x 3))∧Kept [] w w':=a3g x (-61) 3 (by kernel_rfl) (by decide) w
theorem rot1(x:B64)(w:World):Calls Tryz.prog 152 #[W64 x,.int .i64 (-1)] w fun e w'=>e= .returned (W64 (rl x 63))∧Kept [] w w':=a3g x (-1) 63 (by kernel_rfl) (by decide) w
theorem rot8(x:B64)(w:World):Calls Tryz.prog 152 #[W64 x,.int .i64 (-8)] w fun e w'=>e= .returned (W64 (rl x 56))∧Kept [] w w':=a3g x (-8) 56 (by kernel_rfl) (by decide) w
theorem rot14(x:B64)(w:World):Calls Tryz.prog 152 #[W64 x,.int .i64 (-14)] w fun e w'=>e= .returned (W64 (rl x 50))∧Kept [] w w':=a3g x (-14) 50 (by kernel_rfl) (by decide) w
theorem e6g(x:B64)(w:World):Calls Tryz.prog 152 #[W64 x,.int .i64 (-18)] w fun e w'=>e= .returned (W64 (rl x 46))∧Kept [] w w':=a3g x (-18) 46 (by kernel_rfl) (by decide) w
theorem rot41(x:B64)(w:World):Calls Tryz.prog 152 #[W64 x,.int .i64 (-41)] w fun e w'=>e= .returned (W64 (rl x 23))∧Kept [] w w':=a3g x (-41) 23 (by kernel_rfl) (by decide) w
theorem rot28(x:B64)(w:World):Calls Tryz.prog 152 #[W64 x,.int .i64 (-28)] w fun e w'=>e= .returned (W64 (rl x 36))∧Kept [] w w':=a3g x (-28) 36 (by kernel_rfl) (by decide) w
theorem rot34(x:B64)(w:World):Calls Tryz.prog 152 #[W64 x,.int .i64 (-34)] w fun e w'=>e= .returned (W64 (rl x 30))∧Kept [] w w':=a3g x (-34) 30 (by kernel_rfl) (by decide) w
theorem rot39(x:B64)(w:World):Calls Tryz.prog 152 #[W64 x,.int .i64 (-39)] w fun e w'=>e= .returned (W64 (rl x 25))∧Kept [] w w':=a3g x (-39) 25 (by kernel_rfl) (by decide) w
theorem shr6(x:B64):(x.toNat:Int) / (64:Int)=(((x >>> 6).toNat:Nat):Int):=e5k x 6
theorem shr7(x:B64):(x.toNat:Int) / (128:Int)=(((x >>> 7).toNat:Nat):Int):=e5k x 7
theorem c5w(x y s7 s16:B64):IntKind.u64.wrap (IntKind.u64.wrap (IntKind.u64.wrap (bits .xor .u64 (bits .xor .u64 (rl y 45).toNat (rl y 3).toNat) ((y.toNat:Int) / (64:Int)) + (s7.toNat:Int)) + bits .xor .u64 (bits .xor .u64 (rl x 63).toNat (rl x 56).toNat) ((x.toNat:Int) / (128:Int))) + (s16.toNat:Int))=(((ls1 y + s7 + ls0 x + s16).toNat:Nat):Int):=by
 rw [shr6,shr7,b5h,b5h,b5h,b5h,c4o,c4o,c4o];rfl
theorem d7p(v7 e f g k m:B64):IntKind.u64.wrap (IntKind.u64.wrap (IntKind.u64.wrap (IntKind.u64.wrap ((v7.toNat:Int) + bits .xor .u64 (bits .xor .u64 (rl e 50).toNat (rl e 46).toNat) (rl e 23).toNat) + bits .xor .u64 (bits .and .u64 e.toNat f.toNat) (bits .and .u64 (bits .xor .u64 IntKind.u64.max e.toNat) g.toNat)) + (k.toNat:Int)) + (m.toNat:Int))=(((v7 + us1 e + chB e f g + k + m).toNat:Nat):Int):=by
 rw [show IntKind.u64.max=18446744073709551615 from by decide,bnot,d5m,d5m,b5h,b5h,b5h,c4o,c4o,c4o,c4o];rfl
theorem d2m(a b c:B64):IntKind.u64.wrap (bits .xor .u64 (bits .xor .u64 (rl a 36).toNat (rl a 30).toNat) (rl a 25).toNat + bits .xor .u64 (bits .xor .u64 (bits .and .u64 a.toNat b.toNat) (bits .and .u64 a.toNat c.toNat)) (bits .and .u64 b.toNat c.toNat))=(((us0 a + mjB a b c).toNat:Nat):Int):=by
 rw [d5m,d5m,d5m,b5h,b5h,b5h,b5h,c4o];rfl
theorem u8_64(a:UInt8):IntKind.u64.wrap (a.toNat:Int)=((BitVec.ofNat 64 a.toNat).toNat:Nat):=by
 have:=UInt8.toNat_lt a;rw [IntKind.wrap_u64,BitVec.toNat_ofNat];omega
theorem d8c(x:B64)(a:UInt8):bits .or .u64 (IntKind.u64.wrap ((x.toNat:Int) * 256)) (IntKind.u64.wrap (a.toNat:Int))=((x <<< 8 ||| BitVec.ofNat 64 a.toNat).toNat:Nat):=by
 have e1:IntKind.u64.wrap ((x.toNat:Int) * (256:Int))=(((x <<< 8).toNat:Nat):Int):=by rw [IntKind.wrap_u64];exact e4s x 8
 rw [u8_64,e1,bor]
end Go.Proofs.YtdbngnlpafcogaaGreat.Q
