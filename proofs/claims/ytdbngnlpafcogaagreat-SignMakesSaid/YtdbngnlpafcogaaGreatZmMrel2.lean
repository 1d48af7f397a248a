/-
  A statement that draws its order: the last two operations are bound to all ahead of them.
-/
import Derived.Test.YtdbngnlpafcogaaGreatZmMrel
set_option maxRecDepth 100000
namespace Go.Txt
open Go.RowKit Go.Mem
section
variable {P:Program} {ops:Array Oper} {Q:Exit→Act→World→Prop}
def c4k(l:List Oper)(i:Nat):List Nat:=match l[i]? with
 | some o=>o.after.toList.filterMap fun e=>if Region.binds .any e && decide (e.on < l.length)then some e.on else none
 | none=>[]
def d3f(l:List Oper):Nat→List Nat→List Nat
 | 0,s=>s
 | f + 1,s=>d3f l f (s ++ s.flatMap (c4k l)).eraseDups
theorem b5s{l:List Oper}{i k:Nat}:k∈c4k l i↔∃o,l[i]?=some o∧a2f o k∧k < l.length:=by
 unfold c4k
 cases h:l[i]? with
 | none=>simp
 | some o=>
   simp only [List.mem_filterMap,Option.some.injEq,exists_eq_left']
   constructor
   ·rintro⟨e,he,hb⟩
    split at hb
    ·rename_i hb'
     cases hb
     simp only [Bool.and_eq_true,decide_eq_true_eq]at hb'
     exact⟨⟨e,by simpa using he,rfl,hb'.1⟩,hb'.2⟩
    ·cases hb
   ·rintro⟨⟨e,he,rfl,hb⟩,hk⟩
    exact⟨e,by simpa using he,by rw [if_pos (by simp [hb,hk])]⟩
def d0e(l:List Oper)(L:Nat→Bool):Prop:=∀(j:Nat) o,l[j]?=some o→L j=true→∀k,a2f o k→k < l.length→L k=true
theorem b5q{l:List Oper}{L:Nat→Bool}(hc:d0e l L):∀(f:Nat) (s:List Nat),(∀i∈s,L i=true)→∀k∈d3f l f s,L k=true
 | 0,_,h,k,hk=>h k hk
 | f + 1,s,h,k,hk=>by
   refine b5q hc f _ (fun i hi=>?_) k hk
   rw [List.mem_eraseDups,List.mem_append]at hi
   rcases hi with hi | hi
   ·exact h i hi
   ·obtain⟨j,hj,hi⟩:=List.mem_flatMap.1 hi
    obtain⟨o,ho,hb,hk⟩:=b5s.1 hi
    exact hc j o ho (h j hj) i hb hk
theorem c8b{id:Nat}{l:List Oper}{a0:Act}{w0:World}(hm:P.follows .mixedOrders=true)(vs:List Rel)(S:World→Prop)(hch:b1z l a0.tmps.size=true){l1 l2:Oper}(hlen:l.length=vs.length + 2)(hol:l[vs.length]?=some l1)(hol2:l[vs.length + 1]?=some l2)
 (hlast:((List.range vs.length).all fun j=>(d3f l vs.length (c4k l vs.length)).contains j)=true) (hlast2:a2f l2 vs.length)
 (hS0:S w0.drew) (hS:∀u u',S u→Kept [] u u'→S u') (hA:b5g (a5y P l vs S a0) l vs)
 (hF:∀(v:Nat→Value) w,S w→(∀(j:Nat) (r:Rel),vs[j]?=some r→r (v j) w)→l1.wp P (a0w l.toArray v (fun j=>decide (j < vs.length)) (List.range l.length) a0) w (fun a w=>l2.wp P a w (fun a w=>Q .normal a w) Q) Q):(Code.region id l.toArray true).wp P Q a0 w0:=by
 simp only [b1z,Bool.and_eq_true]at hch
 obtain⟨⟨⟨hdep,hgd⟩,hdst⟩,hsz⟩:=hch
 have hd:∀(i:Nat) (o:Oper),l[i]?=some o→∀(j:Nat),j≠i→∀(oj:Oper),l[j]?=some oj→∀t,oj.dst=some t→o.dst≠some t:=by
  intro i o ho j hj oj hoj t ht e
  have hil:i < l.length:=(List.getElem?_eq_some_iff.1 ho).1
  have hjl:j < l.length:=(List.getElem?_eq_some_iff.1 hoj).1
  have:=List.all_eq_true.1 (List.all_eq_true.1 hdst j (by simpa using hjl)) i (by simpa using hil)
  simp [ho,hoj,ht,e,hj]at this
 have hlt:∀(i:Nat) (o:Oper) d,l[i]?=some o→o.dst=some d→d < a0.tmps.size:=by
  intro i o d ho hdd
  have:=List.all_eq_true.1 hsz o (List.mem_of_getElem? ho)
  simpa [hdd]using this
 have hget:∀(i:Nat) (o:Oper) (d:Tmp) (v:Nat→Value) (L:Nat→Bool),l[i]?=some o→o.dst=some d→L i=true→(a0w l.toArray v L (List.range l.length) a0).tmps.getD d undef=v i:=by
  intro i o d v L ho hdd hL
  exact a8h (by simpa using ho) hdd hL (fun j hj oj hoj t ht=>hd i o ho j hj oj (by simpa using hoj) t ht) _ _ List.nodup_range (by simpa using(List.getElem?_eq_some_iff.1 ho).1) (hlt i o d ho hdd)
 have hoth:∀(t:Tmp) (v:Nat→Value) (L:Nat→Bool),(∀x∈l,x.dst≠some t)→(a0w l.toArray v L (List.range l.length) a0).tmps.getD t undef=a0.tmps.getD t undef:=by
  intro t v L ht
  exact a4s _ _ fun j _ o ho _=>ht o (List.mem_of_getElem? (by simpa using ho))
 have hset:∀(i:Nat) (o:Oper) (v:Nat→Value) (L:Nat→Bool),l[i]?=some o→L i=false→(a0w l.toArray v L (List.range l.length) a0).put o.dst (v i)=a0w l.toArray v (fun j=>if j=i then true else L j) (List.range l.length) a0:=by
  intro i o v L ho hL
  exact(a8k hL (by simpa using ho) (fun j hj oj hoj t ht=>hd i o ho j hj oj (by simpa using hoj) t ht) _ _ List.nodup_range (by simpa using(List.getElem?_eq_some_iff.1 ho).1)).symm
 let I:(Nat→Bool)→Act→World→Prop:=fun L a w=>(S w∧(∃v:Nat→Value,a=a0w l.toArray v L (List.range l.length) a0∧∀(j:Nat) (r:Rel),vs[j]?=some r→L j=true→r (v j) w)∧L vs.length=false∧L (vs.length + 1)=false∧d0e l L)∨
  ((∀j,j < vs.length + 1→L j=true)∧L (vs.length + 1)=false∧l2.wp P a w (fun a w=>Q .normal a w) Q)∨((∀j,j < l.length→L j=true)∧Q .normal a w)
 have hvl:∀(j:Nat) (r:Rel),vs[j]?=some r→j < vs.length:=fun j r h=>(List.getElem?_eq_some_iff.1 h).1
 refine wp_region_any hm ?_
 refine b1i I ?_ hdep ?_ ?_ _ _ _ _ (by simp) (by simp) ?_
 ·rintro L L' a w hL (⟨h1,⟨v,h2,hr⟩,h3,h4,hc⟩ | ⟨h1,h2,h3⟩ | ⟨h1,h2⟩)
  ·refine .inl ⟨h1,⟨v,h2.trans (a1t _ _ fun j hj=>⟨hL j (by simpa using hj),fun _=>rfl⟩),fun j r hj hl=>hr j r hj ((hL j (by have:=hvl j r hj;simp;omega)).trans hl)⟩,(hL _ (by simp;omega)).symm.trans h3,(hL _ (by simp;omega)).symm.trans h4,fun j o hj hl k hb hk=>?_⟩
   have hjl:j < l.length:=(List.getElem?_eq_some_iff.1 hj).1
   exact(hL k (by simpa using hk)).symm.trans (hc j o hj ((hL j (by simpa using hjl)).trans hl) k hb hk)
  ·exact .inr (.inl ⟨fun j hj=>(hL j (by simp;omega)).symm.trans (h1 j hj),(hL _ (by simp;omega)).symm.trans h2,h3⟩)
  ·exact .inr (.inr ⟨fun j hj=>(hL j (by simpa using hj)).symm.trans (h1 j hj),h2⟩)
 ·rintro L a w i o hI ho hLi hdeps
  have ho':l[i]?=some o:=by simpa using ho
  have hil:i < l.length:=(List.getElem?_eq_some_iff.1 ho').1
  have hg:o.guard=none:=by
   have:=List.all_eq_true.1 hgd o (List.mem_of_getElem? ho')
   simpa using this
  have hbound:∀j,a2f o j→L j=true:=by
   rintro j ⟨e,he,rfl,hb⟩
   exact hdeps e he hb
  rcases hI with⟨h1,⟨v,rfl,hr⟩,h3,h4,hcl⟩ | ⟨h1,h2,h3⟩ | ⟨h1,_⟩
  case inr.inr=>rw [h1 i hil]at hLi;cases hLi
  case inr.inl=>
   have hi:i=vs.length + 1:=by
    rcases Nat.lt_or_ge i (vs.length + 1)with h | h
    ·rw [h1 i h]at hLi;cases hLi
    ·omega
   subst hi
   rw [hol2]at ho';cases ho'
   unfold wpOp
   simp only [ho]
   rw [if_pos (by simp [Region.wanted,hg])]
   refine .inl ?_
   refine Oper.wp_mono (fun a' w' hq=>.inr (.inr ⟨fun j hj=>?_,hq⟩)) h3
   dsimp only
   by_cases hjn:j=vs.length + 1
   ·rw [if_pos hjn]
   ·rw [if_neg hjn];exact h1 j (by omega)
  unfold wpOp
  simp only [ho]
  rw [if_pos (by simp [Region.wanted,hg])]
  refine .inl ?_
  have hne:i≠vs.length + 1:=by
   rintro rfl
   rw [hol2]at ho';cases ho'
   rw [hbound _ hlast2]at h3;cases h3
  by_cases hin:i=vs.length
  ·subst hin
   rw [hol]at ho';cases ho'
   have hall:∀j,j < vs.length→L j=true:=by
    intro j hj
    have:=List.all_eq_true.1 hlast j (by simpa using hj)
    refine b5q hcl _ _ (fun k hk=>?_) j (by simpa using this)
    obtain⟨o,ho2,hb,_⟩:=b5s.1 hk
    rw [hol]at ho2;cases ho2
    exact hbound k hb
   have e1:a0w l.toArray v L (List.range l.length) a0=a0w l.toArray v (fun j=>decide (j < vs.length)) (List.range l.length) a0:=by
    refine a1t _ _ fun j hj=>⟨?_,fun _=>rfl⟩
    have hj':j < l.length:=by simpa using hj
    by_cases h:j < vs.length
    ·rw [hall j h];simp [h]
    ·by_cases h':j=vs.length
     ·subst h';rw [h3];simp
     ·obtain rfl:j=vs.length + 1:=by omega
      rw [h4];simp
   rw [e1]
   refine Oper.wp_mono (fun a' w' hq=>.inr (.inl ⟨fun j hj=>?_,?_,hq⟩)) (hF v w h1 fun j r hj=>hr j r hj (hall j (hvl j r hj)))
   ·dsimp only
    by_cases hjn:j=vs.length
    ·rw [if_pos hjn]
    ·rw [if_neg hjn];exact hall j (by omega)
   ·dsimp only
    rw [if_neg (by omega)];exact h4
  ·have hi:i < vs.length:=by omega
   have hv:vs[i]?=some vs[i]:=by simp [hi]
   obtain⟨_,hp⟩:=b5g.get l vs i o vs[i] hA ho' hv
   refine hp _ w _ _ h1 (fun j r d oj hK hoj hdj hb=>?_) (fun t ht=>hoth t _ L ht) (fun u w' hk hru=>.inl ⟨hS _ _ h1 hk,⟨fun j=>if j=i then u else v j,?_,fun j r hj hl=>?_⟩,?_,?_,?_⟩)
   ·rw [hget j oj d v L hoj hdj (hbound j hb)]
    exact hr j r hK (hbound j hb)
   ·have e1:a0w l.toArray v L (List.range l.length) a0=a0w l.toArray (fun j=>if j=i then u else v j) L (List.range l.length) a0:=by
     refine a1t _ _ fun j _=>⟨rfl,fun hl=>?_⟩
     have hji:j≠i:=fun e=>by rw [e,hLi]at hl;cases hl
     simp [hji]
    have:=hset i o (fun j=>if j=i then u else v j) L ho' hLi
    simp only [if_true]at this
    rw [e1];exact this
   ·dsimp only at hl ⊢
    by_cases hji:j=i
    ·subst hji
     rw [hv]at hj;cases hj
     rw [if_pos rfl];exact hru
    ·rw [if_neg hji]at hl ⊢
     obtain⟨oj,hoj⟩:∃oj,l[j]?=some oj:=⟨_,List.getElem?_eq_getElem (by have:=hvl j r hj;omega)⟩
     obtain⟨hst,_⟩:=b5g.get l vs j oj r hA hoj hj
     exact hst _ _ _ (hr j r hj hl) hk
   ·dsimp only;rw [if_neg (fun e=>hin e.symm)];exact h3
   ·dsimp only;rw [if_neg (fun e=>hne e.symm)];exact h4
   ·intro j oj hj hl k hb hk
    dsimp only at hl ⊢
    by_cases hki:k=i
    ·rw [if_pos hki]
    ·rw [if_neg hki]
     by_cases hji:j=i
     ·subst hji
      rw [ho']at hj;cases hj
      exact hbound k hb
     ·rw [if_neg hji]at hl
      exact hcl j oj hj hl k hb hk
 ·rintro L a w (⟨_,_,h3,_⟩ | ⟨_,h2,_⟩ | ⟨_,h2⟩) hall
  ·rw [hall vs.length (by simp;omega)]at h3;cases h3
  ·rw [hall (vs.length + 1) (by simp;omega)]at h2;cases h2
  ·exact h2
 ·have hf:∀(j:Nat),j < l.length→(Array.replicate l.toArray.size false).getD j true=false:=by
   intro j hj;simp [hj]
  refine .inl ⟨hS0,⟨fun _=>undef,?_,fun j r hj hl=>absurd ((hf j (by have:=hvl j r hj;omega)).symm.trans hl) (by simp)⟩,hf _ (by omega),hf _ (by omega),fun j o hj hl=>absurd ((hf j (List.getElem?_eq_some_iff.1 hj).1).symm.trans hl) (by simp)⟩
  rw [a1t (L':=fun _=>false) (v':=fun _=>undef) _ _ fun j hj=>⟨hf j (by simpa using hj),fun _=>rfl⟩,a6n]
end
end Go.Txt
