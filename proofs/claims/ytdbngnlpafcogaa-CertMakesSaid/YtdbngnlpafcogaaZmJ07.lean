/-
  The certificates' laws: a list of parts, as it comes in.
  The certificates' laws: certificates are made of a quorum's right shares (CertMakes).
-/
import Derived.Test.YtdbngnlpafcogaaZmJ06
import Derived.Test.YtdbngnlpafcogaaZmText
import Derived.Test.YtdbngnlpafcogaaZmCt19
set_option maxRecDepth 100000
namespace Go.Proofs.Ytdbngnlpafcogaa
open Go.ChangeShapes Go.WideShapes Go.ChangeAt Go.RowKit Go.Mem
theorem c2b:∀(l:List (Int × Bool × Bool)) (j:Nat) (u:Value),(l.flatMap a5v)[j]?=some u→∃(q r:Nat) (h:q < l.length),j=q * 3 + r∧(a5v l[q])[r]?=some u
 | [],_,_,h=>by simp at h
 | x :: l,j,u,h=>by
   have hl:(a5v x).length=3:=rfl
   rw [List.flatMap_cons]at h
   by_cases hj:j < 3
   ·rw [List.getElem?_append_left (by omega)]at h
    exact⟨0,j,by simp,by omega,h⟩
   ·rw [List.getElem?_append_right (by omega),hl]at h
    obtain⟨q,r,hq,he,hu⟩:=c2b l (j - 3) u h
    exact⟨q + 1,r,by simp;omega,by omega,by simpa using hu⟩
theorem c9i(l:List (Int × Bool × Bool)):(l.flatMap a5v).length=l.length * 3:=by
 induction l with
 | nil=>rfl
 | cons x l ih=>rw [List.flatMap_cons,List.length_append,ih];simp [a5v];omega
section
variable {H:Type} {enc:TypeId × Value→H} {P:Program} {w:World} {base:Nat} {spare:Nat→Bool} {held:Bool}
theorem d6i{t e:TypeId}{F0 F1 F2:Field}(ht:P.underlying t=some (.slice e))(he:P.underlying e=some (.struct #[F0,F1,F2]))(hc:P.cellsOf e=3)(q0:F0.offset=0)(q0':F1.offset=1)(q1:F2.offset=2)
 (h0:P.underlying F0.type=some (.int .i64)) (h1:P.underlying F1.type=some .bool) (h2:P.underlying F2.type=some .bool)
 (c0:P.cellsOf F0.type=1) (c1:P.cellsOf F1.type=1) (c2:P.cellsOf F2.type=1) {v:Value} {d:DataW H} {p:List MemPlace}
 (h:∃fuel,DataW.trod enc P w base spare held fuel t v.cells.toList=some (d,p)) (hv:∃A n c,v= .slice A n c) :
 ∃ops:List (Int × Bool × Bool),Rd w 3 v ops.length (ops.flatMap a5v)∧True∧ops.length≤9223372036854775807∧True:=by
 obtain⟨A,n,c,rfl⟩:=hv
 obtain⟨fuel,hf⟩:=h
 rcases DataW.trod_slice ht hf with⟨hcs,hx⟩ | ⟨a,len,cap,elems,rest,m,_,hcs,hx,_,hl,hm,hlen,hel,_,_⟩
 ·simp [Value.cells]at hcs
  obtain⟨rfl,rfl,rfl⟩:=hcs
  exact⟨[],Rd.nil _ _,trivial,by simp,trivial⟩
 ·simp [Value.cells]at hcs
  obtain⟨rfl,rfl,rfl⟩:=hcs
  have each:∀i,∃o:Int × Bool × Bool,i < n→∀(j:Nat) u,(a5v o)[j]?=some u→w.cell? ((a.add (i * 3)).add j)=some u:=by
   intro i
   by_cases hi:i < n
   ·have hb:=hel i hi
    have hil:i < elems.length:=by omega
    rw [hc,List.getElem?_eq_getElem hil,Option.bind_eq_some_iff]at hb
    obtain⟨cs,hcs,hy⟩:=hb
    obtain⟨_,hcl,hcc⟩:=World.cells?_some hcs
    obtain⟨xs,m2,_,hxx,_,hxl,hff⟩:=DataW.trod_struct he hy
    match xs,hxl with
    | [y0,y1,y2],_=>
    match cs,hcl with
    | [u0,u1,u2],_=>
    have g0:=hff 0 F0 rfl
    have g1:=hff 1 F1 rfl
    have g2:=hff 2 F2 rfl
    rw [c0,q0]at g0
    rw [c1,q0']at g1
    rw [c2,q1]at g2
    simp at g0 g1 g2
    obtain⟨z0,e0,_,_⟩:=DataW.trod_int h0 g0
    obtain⟨z1,e1,_⟩:=DataW.trod_bool h1 g1
    obtain⟨z2,e2,_⟩:=DataW.trod_bool h2 g2
    have k0:=hcc 0 (by omega)
    have k1:=hcc 1 (by omega)
    have k2:=hcc 2 (by omega)
    simp at k0 k1 k2 e0 e1 e2
    subst e0 e1 e2
    refine⟨⟨z0,z1,z2⟩,fun _ j u hu=>?_⟩
    match j,hu with
    | 0,hu=>simp [a5v]at hu;rw [←hu];exact k0
    | 1,hu=>simp [a5v]at hu;rw [←hu];exact k1
    | 2,hu=>simp [a5v]at hu;rw [←hu];exact k2
    | _ + 3,hu=>simp [a5v]at hu
   ·exact⟨⟨0,false,false⟩,fun h=>absurd h hi⟩
  obtain⟨f,hf2⟩:=Classical.axiomOfChoice each
  have hlen2:((List.range n).map f).length=n:=by simp
  refine⟨(List.range n).map f,⟨_,_,by rw [hlen2],by rw [c9i],by rw [hlen2];exact hl,fun hn=>?_⟩,trivial,?_,trivial⟩
  ·rw [hlen2]at hn
   have k0:=hf2 0 hn 0 _ rfl
   obtain⟨b,o,sp⟩:=a
   have hsp:sp=none:=by
    cases sp with
    | none=>rfl
    | some k=>
      simp only [Addr.add,Nat.zero_mul,if_true]at k0
      unfold World.cell? at k0
      split at k0 <;> simp at k0
   subst hsp
   refine⟨b,o,rfl,fun j u hu=>?_⟩
   obtain⟨q,r,hq,rfl,hh⟩:=c2b _ _ _ hu
   rw [hlen2]at hq
   have:=hf2 q hq r u (by simpa using hh)
   rw [a2x,a2x]at this
   rwa [show o + (q * 3 + r)=o + q * 3 + r from by omega]
  ·rw [hlen2]
   have:c≤9223372036854775807:=by simpa [maxLen]using hm
   omega
end
end Go.Proofs.Ytdbngnlpafcogaa
namespace Go.Proofs.Ytdbngnlpafcogaa
open Go.RowKit Go.Mem Go.Txt
theorem d0c(f:Int)(bw:Value)(body:List UInt8)(tv:Value)(ps:List (Int × Bool × Bool))(w:World)(_:(Lit.int .i64 f).wf=true)(rb:Rd w 1 bw body.length (bv body))(hbl:body.length≤140737488351232)(rt:Rd w 3 tv ps.length (ps.flatMap a5v))(_:ps.length≤9223372036854775807)(_:True) :
 Calls Try.prog 8 #[.int .i64 f,bw,tv] w fun e w'=>e= .returned (.bool true)∧Kept [] w w':=by
 refine c3w (SL:=fun i t=>a8m (a4f i) (a4w t body)) (KY:=b3n) (okm:=fun m sg=>okV (b3n m) sg (a4w 5 body)) (keys:=a3r) (body:=body) (ps:=ps) f bw tv w rb hbl rt (fun _ _=>c2t _ _) a3q ?_ ?_ ?_ c4k ?_ ?_ ?_
 ·intro n m sg hm
  unfold okR
  rw [b3v hm,a3q,decide_eq_true hm]
  rfl
 ·rintro r b kv u n m ⟨D,h⟩ hm
  have:=key_in h m (by rw [a3q];exact hm)
  rw [b3v hm]at this
  exact this
 ·intro m sg u v hs hv
  exact c1i (key:=b3n m) 5 (b8c m) hs v body u hv (by omega)
 ·intro k u hk
  refine(e0u k hk u).mono ?_
  rintro e w' ⟨r,b,kv,sv,rfl,h1,h2,h3,h4⟩
  exact⟨r,b,kv,sv,rfl,⟨_,h1⟩,h2,h3,h4⟩
 ·intro i u v hv
  exact b8y (seed:=a4f i) 5 (a4a i) v body u hv (by omega)
 ·intro i u v hv
  exact b8y (seed:=a4f i) 4 (a4a i) v body u hv (by omega)
end Go.Proofs.Ytdbngnlpafcogaa
