/-
  CertBytes: the statement, where what it reads is of bulk at most 1048576: true, whatever the input; the input reads as it did.
-/
import Derived.Test.YtdbngnlpafcogaaGreatZcJ08
import Derived.Test.YtdbngnlpafcogaaGreatZcText
import Derived.JoinedCond
set_option maxRecDepth 100000
namespace Go.Proofs.YtdbngnlpafcogaaGreat.certBytesUpto
open Go.ChangeShapes Go.WideShapes Go.ChangeAt Go.RowKit Go.Mem
open Go.ChangeMaps (open_string shut_string)
set_option linter.unusedVariables false
theorem own:ownKnob Tryz.prog.godebug=none:=by kernel_rfl
theorem laidOut:laidOutB Tryz.prog=true:=by kernel_rfl
theorem d8o(H:Type)(enc:TypeId × Value→H)(W:World)(base:Nat)(args:Array Value)(ds gs:List (DataW H))(before:List MemPlace)
 (hval0:∀(j:Nat) t v,Tryz.f6.params[j]?=some t→args[j]?=some v→Value.okWide Tryz.prog W .any base t v)
 (hW:DataW.Whole enc Tryz.prog Tryz.f6.params.toList Rows.certBytesSpec.vars false W args.toList ds gs before) (hk:Rows.uptoSmall H (ds ++ gs)=true) :
 Calls Tryz.prog 6 args W fun e W'=>∃v,e= .returned v∧Rows.certBytesSpec.post enc Tryz.prog Tryz.f6 false true false false W args v W':=by
 have hval:∀(j:Nat) t v,Tryz.f6.params[j]?=some t→args[j]?=some v→Value.okWide Tryz.prog W .any base t v:=hval0;have hW':=hW;obtain⟨p,q,hA0,hV,rfl,hfz,hnd⟩:=hW;have hA:DataW.TrodAll enc Tryz.prog W 0 (fun _=>true) true Tryz.f6.params.toList args.toList ds p:=hA0;rw [Tryz.params6]at hA hval;obtain⟨v0,vs0,d0,ds0,p0,q0,hargs,rfl,rfl,h0,r0⟩:=trodAll_cons hA;obtain⟨v1,vs1,d1,ds1,p1,q1,rfl,rfl,rfl,h1,r1⟩:=trodAll_cons r0;obtain⟨rfl,rfl,rfl⟩:=trodAll_nil r1;obtain rfl:args= #[v0,v1]:=by cases args;simp_all
 obtain⟨rfl,rfl⟩:=trodVars_none hV;have k0:=h0;have lt0:∀x∈p0,x.block < W.heap.size:=by obtain⟨m,hm⟩:=k0;exact DataW.trod_lt m _ _ _ hm
 obtain⟨bd0,ns0,gs0,bw0,sw0,gw0,rfl,rb0,rs0,rg0,rl0,bl0⟩:=d3k Tryz.underlying56 rfl rfl rfl rfl rfl rfl (by kernel_rfl) (by kernel_rfl) (by kernel_rfl) (by kernel_rfl) Tryz.underlying23 Tryz.underlying5 (by kernel_rfl) Tryz.underlying53 Tryz.underlying3 (by kernel_rfl) Tryz.underlying54 Tryz.underlying32 (by kernel_rfl) Tryz.underlying5 (by kernel_rfl) h0 (okWide_struct Tryz.underlying56 (hval 0 56 v0 rfl rfl));have bk0:bd0.length + ns0.length + gs0.length≤1048576:=Nat.le_trans bl0 (Nat.le_trans (bulks.d2j (by simp)) (bulks.bound hk));have k1:=h1;have lt1:∀x∈p1,x.block < W.heap.size:=by obtain⟨m,hm⟩:=k1;exact DataW.trod_lt m _ _ _ hm
 obtain⟨bs1,rd1,sh1,bd1⟩:=b7z Tryz.underlying23 Tryz.underlying5 (by kernel_rfl) h1 (okWide_slice Tryz.underlying23 (hval 1 23 v1 rfl rfl));have bk1:bs1.length≤1048576:=bulks.d9o hk (by simp) sh1;clear hA0 hval0;refine(c0c bw0 sw0 gw0 bd0 ns0 gs0 v1 bs1 W rb0 rs0 rg0 rl0 bk0 rd1 bk1).mono fun e W' ⟨he,bel0⟩=>?_
 have bel:=bel0.below;subst he;exact⟨_,rfl,_,_,_,[],_,[],hW',trodAll_mk1 (shut_bool Tryz.underlying4 _),(trodAll_cons_mk (Below.trod laidOut (by kernel_rfl) (of_decide_eq_true (by kernel_rfl)) k0 bel lt0) (trodAll_cons_mk (Below.trod laidOut (by kernel_rfl) (of_decide_eq_true (by kernel_rfl)) k1 bel lt1) trodAll_mk0)),rfl,bel.frame _,fun h=>by cases h⟩
theorem lifted(os:Os)(started:os.Started)(H:Type)(enc:TypeId × Value→H)(F:Stop.Interp) :
 ReturnsInHanded {} Tryz.checked os 6 .any ((Rows.OpenSpec.upto Rows.certBytesSpec).pre6 enc Tryz.prog Tryz.f6 Rows.certBytesUptoRow.domain false) (((Rows.OpenSpec.upto Rows.certBytesSpec).at F).post enc Tryz.prog Tryz.f6 false true false false):=by
 refine returnsInHanded_of_cond (C:=Tryz.checked) (s:=Rows.OpenSpec.upto Rows.certBytesSpec) (k:=Rows.uptoSmall) rfl own started (by kernel_rfl) Tryz.func6
  (OpenSpec.witness (enc:=enc) (C:=Tryz.checked) (s:=Rows.OpenSpec.upto Rows.certBytesSpec) (k:=Rows.uptoSmall) rfl false ⟨#[],#[.agg #[.slice none 0 0,.slice none 0 0,.slice none 0 0],.slice none 0 0],[]⟩ 8 (by kernel_rfl) (by kernel_rfl) (by kernel_rfl)
    (x:=([.agg [.nil,.nil,.nil],.nil],[],[])) (by kernel_rfl) rfl (by kernel_rfl)) ?_
 intro W base args ds gs before hval hW _ hk _;exact d8o H enc W base args ds gs before hval hW hk
theorem proved:Rows.CertBytesUptoSaid:=
 OpenClaim.holds_of_cond 6 Tryz.f6 rfl rfl rfl rfl rfl rfl rfl ⟨rfl,rfl,rfl,rfl,rfl⟩ rfl rfl rfl rfl rfl (by kernel_rfl) Tryz.func6 (by kernel_rfl)
  (of_decide_eq_true (by kernel_rfl)) (by unfold Func.isWrapper;first | (rw [if_pos (by decide +kernel)];kernel_rfl) | (rw [if_neg (by decide +kernel)];exact⟨rfl,rfl⟩))
  (fun os started H enc _ F=>lifted os started H enc F)
end Go.Proofs.YtdbngnlpafcogaaGreat.certBytesUpto
