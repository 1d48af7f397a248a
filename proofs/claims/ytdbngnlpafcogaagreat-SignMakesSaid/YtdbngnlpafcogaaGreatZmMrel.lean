/-
  A statement that draws its order: each operation ahead of the last has a relation that holds of its value; the last is bound to all.
-/
import Derived.Test.YtdbngnlpafcogaaGreatZmFam
set_option maxRecDepth 100000
namespace Go.Txt
open Go.RowKit Go.Mem
section
variable {P:Program} {ops:Array Oper} {Q:Exit→Act→World→Prop}
abbrev Rel:=Value→World→Prop
def a5y(P:Program)(l:List Oper)(vs:List Rel)(S:World→Prop)(a0:Act)(o:Oper)(r:Rel):Prop:=
 (∀v u u',r v u→Kept [] u u'→r v u')∧∀a w (C:Act→World→Prop) (R:Exit→Act→World→Prop),S w→
   (∀(j:Nat) (r':Rel) d oj,vs[j]?=some r'→l[j]?=some oj→oj.dst=some d→a2f o j→r' (a.tmps.getD d undef) w)→
   (∀t,(∀x∈l,x.dst≠some t)→a.tmps.getD t undef=a0.tmps.getD t undef)→
   (∀v w',Kept [] w w'→r v w'→C (a.put o.dst v) w')→o.wp P a w C R
def b5g(p:Oper→Rel→Prop):List Oper→List Rel→Prop
 | _,[]=>True
 | o :: l,v :: vs=>p o v∧b5g p l vs
 | [],_ :: _=>False
theorem b5g.get{p:Oper→Rel→Prop}:∀(l:List Oper) (vs:List Rel) (i:Nat) (o:Oper) (v:Rel),b5g p l vs→l[i]?=some o→vs[i]?=some v→p o v
 | [],_,_,_,_,_,h,_=>by simp at h
 | o' :: l,[],_,_,_,_,_,h=>by simp at h
 | o' :: l,v' :: vs,0,o,v,h,ho,hv=>by
   obtain rfl:o'=o:=by simpa using ho
   obtain rfl:v'=v:=by simpa using hv
   exact h.1
 | o' :: l,v' :: vs,i + 1,o,v,h,ho,hv=>b5g.get l vs i o v h.2 (by simpa using ho) (by simpa using hv)
theorem a4l{id:Nat}{l:List Oper}{a0:Act}{w0:World}(hm:P.follows .mixedOrders=true)(vs:List Rel)(S:World→Prop)(hch:b1z l a0.tmps.size=true){ol:Oper}(hlen:l.length=vs.length + 1)(hol:l[vs.length]?=some ol)
 (hlast:((List.range vs.length).all fun j=>ol.after.toList.any fun e=>e.on == j && Region.binds .any e)=true)
 (hS0:S w0.drew) (hS:∀u u',S u→Kept [] u u'→S u') (hA:b5g (a5y P l vs S a0) l vs)
 (hF:∀(v:Nat→Value) w,S w→(∀(j:Nat) (r:Rel),vs[j]?=some r→r (v j) w)→ol.wp P (a0w l.toArray v (fun j=>decide (j < vs.length)) (List.range l.length) a0) w (fun a w=>Q .normal a w) Q):(Code.region id l.toArray true).wp P Q a0 w0:=by
 simp only [b1z,Bool.and_eq_true]at hch
 obtain⟨⟨⟨hdep,hgd⟩,hdst⟩,hsz⟩:=hch
 have hd:∀(i:Nat) (o:Oper),l[i]?=some o→∀(j:Nat),j≠i→∀(oj:Oper),l[j]?=some oj→∀t,oj.dst=some t→o.dst≠some t:=by
  intro i o ho j hj oj hoj t ht e
  have hil:i < l.length:=(List.getElem?_eq_some_iff.1 ho).1
  have hjl:j < l.length:=(List.getElem?_eq_some_iff.1 hoj).1
  have:=List.all_eq_true.1 (List.all_eq_true.1 hdst j (by simpa using hjl)) i (by simpa using hil)
  simp [ho,hoj,ht,e,hj]at this
 have hlt:∀(i:Nat) (o:Oper) d,l[i]?=some o→o.dst=some d→d < a0.tmps.size:=by
  intro i o d ho hdd
  have:=List.all_eq_true.1 hsz o (List.mem_of_getElem? ho)
  simpa [hdd]using this
 have hget:∀(i:Nat) (o:Oper) (d:Tmp) (v:Nat→Value) (L:Nat→Bool),l[i]?=some o→o.dst=some d→L i=true→(a0w l.toArray v L (List.range l.length) a0).tmps.getD d undef=v i:=by
  intro i o d v L ho hdd hL
  exact a8h (by simpa using ho) hdd hL (fun j hj oj hoj t ht=>hd i o ho j hj oj (by simpa using hoj) t ht) _ _ List.nodup_range (by simpa using(List.getElem?_eq_some_iff.1 ho).1) (hlt i o d ho hdd)
 have hoth:∀(t:Tmp) (v:Nat→Value) (L:Nat→Bool),(∀x∈l,x.dst≠some t)→(a0w l.toArray v L (List.range l.length) a0).tmps.getD t undef=a0.tmps.getD t undef:=by
  intro t v L ht
  exact a4s _ _ fun j _ o ho _=>ht o (List.mem_of_getElem? (by simpa using ho))
 have hset:∀(i:Nat) (o:Oper) (v:Nat→Value) (L:Nat→Bool),l[i]?=some o→L i=false→(a0w l.toArray v L (List.range l.length) a0).put o.dst (v i)=a0w l.toArray v (fun j=>if j=i then true else L j) (List.range l.length) a0:=by
  intro i o v L ho hL
  exact(a8k hL (by simpa using ho) (fun j hj oj hoj t ht=>hd i o ho j hj oj (by simpa using hoj) t ht) _ _ List.nodup_range (by simpa using(List.getElem?_eq_some_iff.1 ho).1)).symm
 let I:(Nat→Bool)→Act→World→Prop:=fun L a w=>(S w∧(∃v:Nat→Value,a=a0w l.toArray v L (List.range l.length) a0∧∀(j:Nat) (r:Rel),vs[j]?=some r→L j=true→r (v j) w)∧L vs.length=false)∨((∀j,j < l.length→L j=true)∧Q .normal a w)
 have hvl:∀(j:Nat) (r:Rel),vs[j]?=some r→j < vs.length:=fun j r h=>(List.getElem?_eq_some_iff.1 h).1
 refine wp_region_any hm ?_
 refine b1i I ?_ hdep ?_ ?_ _ _ _ _ (by simp) (by simp) ?_
 ·rintro L L' a w hL (⟨h1,⟨v,h2,hr⟩,h3⟩ | ⟨h1,h2⟩)
  ·refine .inl ⟨h1,⟨v,h2.trans (a1t _ _ fun j hj=>⟨hL j (by simpa using hj),fun _=>rfl⟩),fun j r hj hl=>hr j r hj ((hL j (by have:=hvl j r hj;simp;omega)).trans hl)⟩,(hL _ (by simp;omega)).symm.trans h3⟩
  ·exact .inr ⟨fun j hj=>(hL j (by simpa using hj)).symm.trans (h1 j hj),h2⟩
 ·rintro L a w i o hI ho hLi hdeps
  have ho':l[i]?=some o:=by simpa using ho
  have hil:i < l.length:=(List.getElem?_eq_some_iff.1 ho').1
  have hg:o.guard=none:=by
   have:=List.all_eq_true.1 hgd o (List.mem_of_getElem? ho')
   simpa using this
  have hbound:∀j,a2f o j→L j=true:=by
   rintro j ⟨e,he,rfl,hb⟩
   exact hdeps e he hb
  rcases hI with⟨h1,⟨v,rfl,hr⟩,h3⟩ | ⟨h1,_⟩
  case inr=>rw [h1 i hil]at hLi;cases hLi
  unfold wpOp
  simp only [ho]
  rw [if_pos (by simp [Region.wanted,hg])]
  refine .inl ?_
  by_cases hin:i=vs.length
  ·subst hin
   rw [hol]at ho';cases ho'
   have hall:∀j,j < vs.length→L j=true:=by
    intro j hj
    have:=List.all_eq_true.1 hlast j (by simpa using hj)
    simp only [List.any_eq_true,Bool.and_eq_true,beq_iff_eq]at this
    obtain⟨e,he,he1,he2⟩:=this
    exact hbound j ⟨e,by simpa using he,he1,he2⟩
   have e1:a0w l.toArray v L (List.range l.length) a0=a0w l.toArray v (fun j=>decide (j < vs.length)) (List.range l.length) a0:=by
    refine a1t _ _ fun j hj=>⟨?_,fun _=>rfl⟩
    have hj':j < l.length:=by simpa using hj
    by_cases h:j < vs.length
    ·rw [hall j h];simp [h]
    ·obtain rfl:j=vs.length:=by omega
     rw [h3];simp
   rw [e1]
   refine Oper.wp_mono (fun a' w' hq=>.inr ⟨fun j hj=>?_,hq⟩) (hF v w h1 fun j r hj=>hr j r hj (hall j (hvl j r hj)))
   dsimp only
   by_cases hjn:j=vs.length
   ·rw [if_pos hjn]
   ·rw [if_neg hjn];exact hall j (by omega)
  ·have hi:i < vs.length:=by omega
   have hv:vs[i]?=some vs[i]:=by simp [hi]
   obtain⟨_,hp⟩:=b5g.get l vs i o vs[i] hA ho' hv
   refine hp _ w _ _ h1 (fun j r d oj hK hoj hdj hb=>?_) (fun t ht=>hoth t _ L ht) (fun u w' hk hru=>.inl ⟨hS _ _ h1 hk,⟨fun j=>if j=i then u else v j,?_,fun j r hj hl=>?_⟩,?_⟩)
   ·rw [hget j oj d v L hoj hdj (hbound j hb)]
    exact hr j r hK (hbound j hb)
   ·have e1:a0w l.toArray v L (List.range l.length) a0=a0w l.toArray (fun j=>if j=i then u else v j) L (List.range l.length) a0:=by
     refine a1t _ _ fun j _=>⟨rfl,fun hl=>?_⟩
     have hji:j≠i:=fun e=>by rw [e,hLi]at hl;cases hl
     simp [hji]
    have:=hset i o (fun j=>if j=i then u else v j) L ho' hLi
    simp only [if_true]at this
    rw [e1];exact this
   ·dsimp only at hl ⊢
    by_cases hji:j=i
    ·subst hji
     rw [hv]at hj;cases hj
     rw [if_pos rfl];exact hru
    ·rw [if_neg hji]at hl ⊢
     obtain⟨oj,hoj⟩:∃oj,l[j]?=some oj:=⟨_,List.getElem?_eq_getElem (by have:=hvl j r hj;omega)⟩
     obtain⟨hst,_⟩:=b5g.get l vs j oj r hA hoj hj
     exact hst _ _ _ (hr j r hj hl) hk
   ·dsimp only;rw [if_neg (fun e=>hin e.symm)];exact h3
 ·rintro L a w (⟨_,_,h3⟩ | ⟨_,h2⟩) hall
  ·rw [hall vs.length (by simp;omega)]at h3;cases h3
  ·exact h2
 ·have hf:∀(j:Nat),j < l.length→(Array.replicate l.toArray.size false).getD j true=false:=by
   intro j hj;simp [hj]
  refine .inl ⟨hS0,⟨fun _=>undef,?_,fun j r hj hl=>absurd ((hf j (by have:=hvl j r hj;omega)).symm.trans hl) (by simp)⟩,hf _ (by omega)⟩
  rw [a1t (L':=fun _=>false) (v':=fun _=>undef) _ _ fun j hj=>⟨hf j (by simpa using hj),fun _=>rfl⟩,a6n]
def isV(u:Value):Rel:=fun v _=>v=u
def a4z(k0:Nat)(t:TypeId)(cs:Array Value):Rel:=fun v w=>∃g,v= .pointer (some ⟨g,0,none⟩)∧Blk w g t cs∧k0≤g
theorem a4z.get{k0:Nat}{t:TypeId}{cs:Array Value}{v:Value}{w:World}(h:a4z k0 t cs v w):∃g,v= .pointer (some ⟨g,0,none⟩)∧Blk w g t cs∧k0≤g:=h
theorem a7j{o:Oper}{a:Act}{w:World}{C:Act→World→Prop}{R:Exit→Act→World→Prop}{t bt:TypeId}{n p c g:Nat}{cs old:Array Value}(T:RowT P t n)(ho:o.op= .store t (.tmp p) (.tmp c))(hp:a.tmps.getD p undef= .pointer (some ⟨g,0,none⟩))(hc:a.tmps.getD c undef= .agg cs)
 (hb:Blk w g bt old) (hold:old.size=n) (hn:cs.size=n) (h1:cs.all (·.oneCell')=true) (h:∀w',Blk w' g bt cs→Kept [g] w w'→C (a.put o.dst undef) w'):o.wp P a w C R:=
 wp_store_row t (.tmp p) (.tmp c) ho g cs hp hc bt old hb (by rw [T.size,hn]) (by omega) h1 (h _ (hb.a3b cs) ((Kept.refl [g] w).setRow (.inl (by simp)) cs))
section
variable {l:List Oper} {vs:List Rel} {a0:Act} {w0:World} {o:Oper} {t:TypeId}
theorem a4m{z:Value}(ho:o.op= .alloc t)(hz:(P.info? t).map (·.zero)=some (some z)):a5y P l vs (fun u=>Kept [] w0 u) a0 o (a4z w0.heap.size t z.cells):=
 ⟨fun _ _ _ ⟨g,h1,h2,h3⟩ hk=>⟨g,h1,h2.kept hk (by simp),h3⟩,fun _ w _ _ hS _ _ h=>e0y ho hz (h _ _ ((Kept.refl [] w).alloc _) ⟨_,rfl,Blk.new _ _ _,hS.size⟩)⟩
theorem a2e{n g:Nat}{x:Tmp}{bt:TypeId}{cs:Array Value}(T:RowT P t n)(ho:o.op= .load t (.tmp x))(hx:a0.tmps.getD x undef= .pointer (some ⟨g,0,none⟩))(hf:∀y∈l,y.dst≠some x)(hb:Blk w0 g bt cs)(hn:cs.size=n):a5y P l vs (fun u=>Kept [] w0 u) a0 o (isV (.agg cs)):=
 ⟨fun _ _ _ h _=>h,fun _ _ _ _ hS _ hoth h=>a0g T (.tmp x) ho ((hoth x hf).trans hx) (hb.kept hS (by simp)) hn (h _ _ (Kept.refl _ _) rfl)⟩
theorem d3b{f:FuncId}{o:Oper}{a:Act}{w:World}{C:Act→World→Prop}{R:Exit→Act→World→Prop}{args:Array Operand}{ats:Array TypeId}(ho:o.op= .call {callee:=.value (.func f),args:=args,argTypes:=ats})
 (hen:∀(xs:Array Value) w,(callFunc f xs).run P w= .ok (.enter f xs) w) {xs:Array Value} (hvs:args.map a.eval=xs) {r:Rel} (hc:Calls P f xs w fun e w'=>∃v,e= .returned v∧r v w'∧Kept [] w w') (h:∀v w',Kept [] w w'→r v w'→C (a.put o.dst v) w'):o.wp P a w C R:=by
 unfold Oper.wp execOp
 simp only [ho,resolve,invoke,Sem.run_bind,Act.eval]
 rw [hvs]
 simp only [Deferred.ofValue,Sem.run_pure,Result.andThen_ok,Array.append_empty,Array.empty_append,hen,Oper.upon]
 refine hc.mono ?_
 rintro e w' ⟨v,rfl,hr,hk⟩
 exact h v w' hk hr
theorem a1w{f:FuncId}{args:Array Operand}{ats:Array TypeId}{r:Rel}(ho:o.op= .call {callee:=.value (.func f),args:=args,argTypes:=ats})
 (hen:∀(xs:Array Value) w,(callFunc f xs).run P w= .ok (.enter f xs) w) (hst:∀v u u',r v u→Kept [] u u'→r v u')
 (hc:∀(a:Act) w,Kept [] w0 w→(∀(j:Nat) (r':Rel) d oj,vs[j]?=some r'→l[j]?=some oj→oj.dst=some d→a2f o j→r' (a.tmps.getD d undef) w)→(∀t,(∀x∈l,x.dst≠some t)→a.tmps.getD t undef=a0.tmps.getD t undef)→
   Calls P f (args.map a.eval) w fun e w'=>∃v,e= .returned v∧r v w'∧Kept [] w w'):a5y P l vs (fun u=>Kept [] w0 u) a0 o r:=
 ⟨hst,fun a w _ _ hS hr hoth h=>d3b ho hen rfl (hc a w hS hr hoth) h⟩
theorem b5m{f:FuncId}{ats:Array TypeId}{v:Value}(ho:o.op= .call {callee:=.value (.func f),args:=#[],argTypes:=ats})
 (hen:∀(xs:Array Value) w,(callFunc f xs).run P w= .ok (.enter f xs) w) (hc:∀w,Calls P f #[] w fun e w'=>e= .returned v∧Kept [] w w'):a5y P l vs (fun u=>Kept [] w0 u) a0 o (isV v):=
 a1w ho hen (fun _ _ _ h _=>h) fun a w _ _ _=>by
  have:Array.map a.eval #[]= #[]:=by simp
  rw [this]
  exact(hc w).mono (by rintro e w' ⟨rfl,hk⟩;exact⟨_,rfl,rfl,hk⟩)
theorem a3w{f:FuncId}{ats:Array TypeId}{v u:Value}{x j:Nat}{oj:Oper}(ho:o.op= .call {callee:=.value (.func f),args:=#[.tmp x],argTypes:=ats})
 (hen:∀(xs:Array Value) w,(callFunc f xs).run P w= .ok (.enter f xs) w) (hj:vs[j]?=some (isV u)) (hl:l[j]?=some oj) (hd:oj.dst=some x) (hb:a2f o j) (hc:∀w,Calls P f #[u] w fun e w'=>e= .returned v∧Kept [] w w'):a5y P l vs (fun u=>Kept [] w0 u) a0 o (isV v):=
 a1w ho hen (fun _ _ _ h _=>h) fun a w _ hr _=>by
  have e:a.tmps.getD x undef=u:=hr j _ x oj hj hl hd hb
  have:Array.map a.eval #[.tmp x]= #[u]:=by simp only [List.map_toArray,List.map_cons,List.map_nil,Act.eval,e]
  rw [this]
  exact(hc w).mono (by rintro e w' ⟨rfl,hk⟩;exact⟨_,rfl,rfl,hk⟩)
theorem a8q{f:FuncId}{ats:Array TypeId}{v u u2:Value}{x j x2 j2:Nat}{oj oj2:Oper}(ho:o.op= .call {callee:=.value (.func f),args:=#[.tmp x,.tmp x2],argTypes:=ats})
 (hen:∀(xs:Array Value) w,(callFunc f xs).run P w= .ok (.enter f xs) w) (hj:vs[j]?=some (isV u)) (hl:l[j]?=some oj) (hd:oj.dst=some x) (hb:a2f o j) (hj2:vs[j2]?=some (isV u2)) (hl2:l[j2]?=some oj2) (hd2:oj2.dst=some x2) (hb2:a2f o j2)
 (hc:∀w,Calls P f #[u,u2] w fun e w'=>e= .returned v∧Kept [] w w'):a5y P l vs (fun u=>Kept [] w0 u) a0 o (isV v):=
 a1w ho hen (fun _ _ _ h _=>h) fun a w _ hr _=>by
  have e:a.tmps.getD x undef=u:=hr j _ x oj hj hl hd hb
  have e2:a.tmps.getD x2 undef=u2:=hr j2 _ x2 oj2 hj2 hl2 hd2 hb2
  have:Array.map a.eval #[.tmp x,.tmp x2]= #[u,u2]:=by simp only [List.map_toArray,List.map_cons,List.map_nil,Act.eval,e,e2]
  rw [this]
  exact(hc w).mono (by rintro e w' ⟨rfl,hk⟩;exact⟨_,rfl,rfl,hk⟩)
end
end
end Go.Txt
