/-
  CertMakes: the statement, whatever its size: true, whatever the input; the input reads as it did.
-/
import Derived.Test.YtdbngnlpafcogaaZmJ07
import Derived.Test.YtdbngnlpafcogaaZmText
set_option maxRecDepth 100000
namespace Go.Proofs.Ytdbngnlpafcogaa.certMakes
open Go.ChangeShapes Go.WideShapes Go.ChangeAt Go.RowKit Go.Mem
open Go.ChangeMaps (open_string shut_string)
set_option linter.unusedVariables false
theorem own:ownKnob Try.prog.godebug=none:=by kernel_rfl
theorem laidOut:laidOutB Try.prog=true:=by kernel_rfl
theorem d8p(H:Type)(enc:TypeId × Value→H)(W:World)(base:Nat)(args:Array Value)(ds gs:List (DataW H))(before:List MemPlace)
 (hval0:∀(j:Nat) t v,Try.f8.params[j]?=some t→args[j]?=some v→Value.okWide Try.prog W .any base t v)
 (hW:DataW.Whole enc Try.prog Try.f8.params.toList Rows.certMakesSpec.vars false W args.toList ds gs before) (hsz0:(DataW.weightsEach Try.prog (Try.f8.params.toList ++ Rows.certMakesSpec.plain.varTypes Try.prog) (ds ++ gs)).all (·≤reachBytes)=true) :
 Calls Try.prog 8 args W fun e W'=>∃v,e= .returned v∧Rows.certMakesSpec.post enc Try.prog Try.f8 false true false false W args v W':=by
 have hval:∀(j:Nat) t v,Try.f8.params[j]?=some t→args[j]?=some v→Value.okWide Try.prog W .any base t v:=hval0
 have hW':=hW
 obtain⟨p,q,hA0,hV,rfl,hfz,hnd⟩:=hW
 have hA:DataW.TrodAll enc Try.prog W 0 (fun _=>true) true Try.f8.params.toList args.toList ds p:=hA0
 have hsz:(DataW.weightsEach Try.prog (Try.f8.params.toList ++ Rows.certMakesSpec.plain.varTypes Try.prog) (ds ++ gs)).all (·≤reachBytes)=true:=hsz0
 rw [Try.params8]at hA hval hsz
 obtain⟨v0,vs0,d0,ds0,p0,q0,hargs,rfl,rfl,h0,r0⟩:=trodAll_cons hA
 obtain⟨v1,vs1,d1,ds1,p1,q1,rfl,rfl,rfl,h1,r1⟩:=trodAll_cons r0
 obtain⟨v2,vs2,d2,ds2,p2,q2,rfl,rfl,rfl,h2,r2⟩:=trodAll_cons r1
 obtain⟨rfl,rfl,rfl⟩:=trodAll_nil r2
 obtain rfl:args= #[v0,v1,v2]:=by cases args;simp_all
 obtain⟨rfl,rfl⟩:=trodVars_none hV
 obtain⟨a0,rfl,rfl,rfl,w0⟩:=open_int Try.underlying3 (hval 0 3 v0 rfl rfl) h0
 have k1:=h1
 have lt1:∀x∈p1,x.block < W.heap.size:=by obtain⟨m,hm⟩:=k1;exact DataW.trod_lt m _ _ _ hm
 obtain⟨bs1,rd1,sh1,bd1⟩:=c9g Try.underlying23 Try.underlying5 (by kernel_rfl) h1 (okWide_slice Try.underlying23 (hval 1 23 v1 rfl rfl))
 have bz1:bs1.length≤140737488351232:=c4j hsz (j:=1) rfl rfl Try.underlying23 (by kernel_rfl) sh1
 have k2:=h2
 have lt2:∀x∈p2,x.block < W.heap.size:=by obtain⟨m,hm⟩:=k2;exact DataW.trod_lt m _ _ _ hm
 obtain⟨x2,rd2,sh2,bd2,rg2⟩:=d6i Try.underlying69 Try.underlying72 (by kernel_rfl) rfl rfl rfl Try.underlying3 Try.underlying4 Try.underlying4 (by kernel_rfl) (by kernel_rfl) (by kernel_rfl) h2 (okWide_slice Try.underlying69 (hval 2 69 v2 rfl rfl))
 clear hA0 hval0
 refine(d0c a0 v1 bs1 v2 x2 W w0 rd1 bz1 rd2 bd2 rg2).mono fun e W' ⟨he,bel0⟩=>?_
 have bel:=bel0.below
 subst he
 exact⟨_,rfl,_,_,_,[],_,[],hW',trodAll_mk1 (shut_bool Try.underlying4 _),(trodAll_cons_mk (shut_int Try.underlying3 w0) (trodAll_cons_mk (Below.trod laidOut (by kernel_rfl) (of_decide_eq_true (by kernel_rfl)) k1 bel lt1) (trodAll_cons_mk (Below.trod laidOut (by kernel_rfl) (of_decide_eq_true (by kernel_rfl)) k2 bel lt2) trodAll_mk0))),rfl,bel.frame _,fun h=>by cases h⟩
theorem lifted(os:Os)(started:os.Started)(H:Type)(enc:TypeId × Value→H) :
 ReturnsInHanded {} Try.checked os 8 .any (Rows.certMakesSpec.pre6 enc Try.prog Try.f8 Rows.certMakesRow.domain false) (Rows.certMakesSpec.post enc Try.prog Try.f8 false true false false):=by
 refine returnsInHanded_of_change_sized (C:=Try.checked) own started (by kernel_rfl) Try.func8
  (ChangeSpec.witness6 (enc:=enc) (C:=Try.checked) false ⟨#[],#[.int .i64 0,.slice none 0 0,.slice none 0 0],[]⟩ 8 (by kernel_rfl) (by kernel_rfl) (by kernel_rfl) (by kernel_rfl)) ?_
 intro W base args ds gs before hval hW _ hsz _
 exact d8p H enc W base args ds gs before hval hW hsz
theorem proved:Rows.CertMakesSaid:=
 OpenClaim.holds_of_wide 8 Try.f8 rfl rfl rfl rfl rfl rfl rfl ⟨rfl,rfl,rfl,rfl,rfl⟩ rfl rfl rfl rfl rfl (by kernel_rfl) Try.func8 (by kernel_rfl)
  (of_decide_eq_true (by kernel_rfl)) (by unfold Func.isWrapper;first | (rw [if_pos (by decide +kernel)];kernel_rfl) | (rw [if_neg (by decide +kernel)];exact⟨rfl,rfl⟩))
  (fun os started H enc _=>lifted os started H enc)
end Go.Proofs.Ytdbngnlpafcogaa.certMakes
