/-
  The sign: a seed's public key.
  A statement that draws its order: each operation ahead of the last has a relation that holds of its value; the last is bound to all.
  append to a slice that is full: nothing that stood there is written.
  The sign: what floats in a statement with a literal of parts.
  The sign: Sign.
  The sign: Verify.
  The curve: the base point's order is a prime; so many of the base point are nothing just for its multiples.
  The sign: which signatures Verify says are right; that Sign's are.
  The sign: what is signed is right; what is not.
  Bytes cloned; a number's bytes.
  The ring: what is signed, Owned, Seal; parts joined; a part written with its length.
  The ring: Owned, Seal.
  Slice literals of one-cell elements.
  The ring: what a ring is in memory; Size, Open.
-/
import Derived.Test.YtdbngnlpafcogaaGreatZcJ01
import Derived.Test.YtdbngnlpafcogaaGreatZcLw1
import Derived.Test.YtdbngnlpafcogaaGreatZcFam
import Derived.Test.YtdbngnlpafcogaaGreatZcText
import Derived.Test.YtdbngnlpafcogaaGreatZcJ00
import Derived.Maps.Own
import Derived.Maps.OwnOps
import Derived.Maps.OwnSet
import Derived.Maps.Views
import Derived.StringKeys
set_option maxRecDepth 100000
namespace Go.Proofs.YtdbngnlpafcogaaGreat
open Go.RowKit Go.Mem Go.Txt
def b6l(bs:List UInt8):List UInt8:=a3n (Q.sha bs)
def c3r(l:List UInt8):List UInt8:=le (enc (Ed.Pt.mul (leV l) BB)) 32
theorem b2g(bs:List UInt8):(b6l bs).length=32:=b5j _ (by rw [Q.b3g];decide)
theorem b1y(l:List UInt8):(c3r l).length=32:=a0x _ _
theorem e5e{l:List UInt8}(hl:l.length=32):∃b r,BsC b∧MsC b l r∧HsC r (c3r l):=by
 obtain⟨b,cb,hb⟩:=base_e;obtain⟨r,cr,hr⟩:=mul_s hb hl;exact⟨b,r,cb,cr,e1z hr rfl⟩
set_option maxHeartbeats 1600000 in
theorem c9k(bs:List UInt8)(hl:bs.length=32)(w:World):Calls Tryz.prog 9 #[ab bs] w fun e w'=>e= .returned (ab (c3r (b6l bs)))∧Kept [] w w':=by
 have cse:=hjd (fun u=>b8a bs hl u);have hn:=hjd (b2g bs);obtain⟨b,r,cb,cr,ch⟩:=e5e (b2g bs);have he:=hjd (b1y (b6l bs));have hd:a3n (Q.sha bs)=b6l bs:=rfl;rw [hd]at cse;generalize c3r (b6l bs)=E at *;generalize b6l bs=n at *;generalize Q.sha bs=s at *;have cb:=hjd cb;have cr:=hjd cr;have ch:=hjd ch;have hl:=hjd hl;clear hd;go_enter Tryz.func9,Tryz.ntmps9;go_wp2_with (first
  | ((with_reducible refine a0f 1 ?_);(refine a0q (o:=⟨some 1,_,_,_,_,_⟩) (v:=ab bs) rfl (.tmp 0) rfl rfl ?_);intro g1 w1 m1;have M1:=hjd m1;clear m1)
  | ((with_reducible refine a0f 2 ?_);(refine a0h (o:=⟨some 2,_,_,_,_,_⟩) rfl rfl a8l ?_);intro g2 w2 m2;have M2:=hjd m2;clear m2)
  | ((with_reducible refine a0f 6 ?_);refine a0d (cs:=(bv bs).toArray) (o:=⟨some 6,_,_,_,_,_⟩) a2u.row rfl (.tmp 1) rfl rfl (M1.out.blk.kept M2.out.kept (by simp)) (by simpa using hl.out) ?_)
  | (go_at_call 30;(with_reducible refine(cse.out _).mono ?_);rintro e w7 ⟨g,rfl,r7,k7,l7⟩;have B2:=hjd (M2.out.blk.kept k7 (by simp));have L2:=hjd (Nat.le_trans M1.out.kept.size M2.out.le);have K7:=hjd ((M1.out.kept.a0g M2.out.kept).a0g k7);clear r7 k7 l7)
  | ((with_reducible refine a0f 3 ?_);(refine a0h (o:=⟨some 3,_,_,_,_,_⟩) rfl rfl a8l ?_);intro g3 w3 m3;refine a0a (cs:=(bv n).toArray) (o:=⟨none,Op.store 22 (.tmp 3) (.tmp 8),_,_,_,_⟩) a2u.row rfl (.tmp 3) (.tmp 8) rfl rfl rfl m3.blk (by rfl) (by simpa using hn.out) (a3o _) ?_;intro wb b3 k3;have kk:=m3.kept.a0r k3 m3.le;have B3:=hjd b3;have N23:=hjd (m3.ne B2.out.lt).symm;replace B2:=hjd (B2.out.kept kk (by simp));replace K7:=hjd (K7.out.a0g kk);clear m3 b3 k3 kk))
 clear cse M1 M2;refine Txt.a1k [1] (fun u=>Blk u g3 22 (bv n).toArray) _ (by kernel_rfl) (by kernel_rfl) rfl B3.out.drew (Txt.a0e ?_);go_wp2_with (go_at_call 31;(with_reducible refine(cb.out _).mono ?_);rintro e wc ⟨rfl,kc⟩);have KC:=hjd kc.a1r;have B3c:=hjd (B3.out.kept KC.out (by simp));clear kc;refine⟨rfl,B3c.out,Txt.a0e ?_⟩;go_wp2_with (first
  | refine a0d (o:=⟨some 11,_,_,_,_,_⟩) a2u.row rfl (.tmp 3) rfl rfl B3c.out (by simpa using hn.out) ?_
  | (go_at_call 32;(with_reducible refine(cr.out _).mono ?_);rintro e wd ⟨rfl,kd⟩))
 have B3d:=hjd (B3c.out.kept kd (by simp));refine⟨rfl,B3d.out,Txt.a0e ?_⟩;go_wp2_with (go_at_call 33;(with_reducible refine(ch.out _).mono ?_);rintro e we ⟨rfl,ke⟩);have B3e:=hjd (B3d.out.kept ke (by simp));have B2e:=hjd (((B2.out.kept KC.out (by simp)).kept kd (by simp)).kept ke (by simp));have n23:=hjd (show g3≠g2 from N23.out);refine⟨rfl,B3e.out,Txt.a0e ?_⟩;go_wp2_with ((refine a0a (cs:=(bv E).toArray) (o:=⟨none,Op.store 22 (.tmp 2) (.tmp 13),_,_,_,_⟩) a2u.row rfl (.tmp 2) (.tmp 13) rfl rfl rfl B2e.out (by rfl) (by simpa using he.out) (a3o _) ?_);intro wf bf kf);have B3f:=hjd (B3e.out.kept kf (by simpa using n23.out));refine⟨rfl,B3f.out,Txt.a0e ?_⟩;refine⟨rfl,B3f.out,Txt.a0w ⟨⟨by kernel_rfl,?_⟩,?_⟩⟩
 ·intro j hj o ho hw;have hj2:j=1:=by simpa using hj
  rcases hj2 with rfl;cases ho
  exact⟨11,rfl,fun u hu=>a1c a2u.row (.tmp 3) rfl rfl hu (by simpa using hn.out)⟩
 have K9:=hjd ((((K7.out.a0g KC.out).a0g kd).a0g ke).a0r kf L2.out);clear B3 B3c B3d B3e B3f B2e B2 kd ke kf KC K7;go_wp2_with fail;exact a1m a2u.row rfl rfl bf (by simpa using he.out) rfl ⟨rfl,K9.out⟩
end Go.Proofs.YtdbngnlpafcogaaGreat
namespace Go.Txt
open Go.RowKit Go.Mem
section
variable {P:Program} {ops:Array Oper} {Q:Exit→Act→World→Prop}
abbrev Rel:=Value→World→Prop
def a8p(P:Program)(l:List Oper)(vs:List Rel)(S:World→Prop)(a0:Act)(o:Oper)(r:Rel):Prop:=
 (∀v u u',r v u→Kept [] u u'→r v u')∧∀a w (C:Act→World→Prop) (R:Exit→Act→World→Prop),S w→
   (∀(j:Nat) (r':Rel) d oj,vs[j]?=some r'→l[j]?=some oj→oj.dst=some d→a1w o j→r' (a.tmps.getD d undef) w)→
   (∀t,(∀x∈l,x.dst≠some t)→a.tmps.getD t undef=a0.tmps.getD t undef)→
   (∀v w',Kept [] w w'→r v w'→C (a.put o.dst v) w')→o.wp P a w C R
def c3w(p:Oper→Rel→Prop):List Oper→List Rel→Prop
 | _,[]=>True
 | o :: l,v :: vs=>p o v∧c3w p l vs
 | [],_ :: _=>False
theorem c3w.get{p:Oper→Rel→Prop}:∀(l:List Oper) (vs:List Rel) (i:Nat) (o:Oper) (v:Rel),c3w p l vs→l[i]?=some o→vs[i]?=some v→p o v
 | [],_,_,_,_,_,h,_=>by simp at h
 | o' :: l,[],_,_,_,_,_,h=>by simp at h
 | o' :: l,v' :: vs,0,o,v,h,ho,hv=>by
   obtain rfl:o'=o:=by simpa using ho
   obtain rfl:v'=v:=by simpa using hv
   exact h.1
 | o' :: l,v' :: vs,i + 1,o,v,h,ho,hv=>c3w.get l vs i o v h.2 (by simpa using ho) (by simpa using hv)
theorem a6j{id:Nat}{l:List Oper}{a0:Act}{w0:World}(hm:P.follows .mixedOrders=true)(vs:List Rel)(S:World→Prop)(hch:b8f l a0.tmps.size=true){ol:Oper}(hlen:l.length=vs.length + 1)(hol:l[vs.length]?=some ol)
 (hlast:((List.range vs.length).all fun j=>ol.after.toList.any fun e=>e.on == j && Region.binds .any e)=true)
 (hS0:S w0.drew) (hS:∀u u',S u→Kept [] u u'→S u') (hA:c3w (a8p P l vs S a0) l vs)
 (hF:∀(v:Nat→Value) w,S w→(∀(j:Nat) (r:Rel),vs[j]?=some r→r (v j) w)→ol.wp P (a1f l.toArray v (fun j=>decide (j < vs.length)) (List.range l.length) a0) w (fun a w=>Q .normal a w) Q):(Code.region id l.toArray true).wp P Q a0 w0:=by
 simp only [b8f,Bool.and_eq_true]at hch;obtain⟨⟨⟨hdep,hgd⟩,hdst⟩,hsz⟩:=hch;have hd:∀(i:Nat) (o:Oper),l[i]?=some o→∀(j:Nat),j≠i→∀(oj:Oper),l[j]?=some oj→∀t,oj.dst=some t→o.dst≠some t:=by
  intro i o ho j hj oj hoj t ht e;have hil:i < l.length:=(List.getElem?_eq_some_iff.1 ho).1;have hjl:j < l.length:=(List.getElem?_eq_some_iff.1 hoj).1;have:=List.all_eq_true.1 (List.all_eq_true.1 hdst j (by simpa using hjl)) i (by simpa using hil);simp [ho,hoj,ht,e,hj]at this
 have hlt:∀(i:Nat) (o:Oper) d,l[i]?=some o→o.dst=some d→d < a0.tmps.size:=by
  intro i o d ho hdd;have:=List.all_eq_true.1 hsz o (List.mem_of_getElem? ho);simpa [hdd]using this
 have hget:∀(i:Nat) (o:Oper) (d:Tmp) (v:Nat→Value) (L:Nat→Bool),l[i]?=some o→o.dst=some d→L i=true→(a1f l.toArray v L (List.range l.length) a0).tmps.getD d undef=v i:=by
  intro i o d v L ho hdd hL;exact a9a (by simpa using ho) hdd hL (fun j hj oj hoj t ht=>hd i o ho j hj oj (by simpa using hoj) t ht) _ _ List.nodup_range (by simpa using(List.getElem?_eq_some_iff.1 ho).1) (hlt i o d ho hdd)
 have hoth:∀(t:Tmp) (v:Nat→Value) (L:Nat→Bool),(∀x∈l,x.dst≠some t)→(a1f l.toArray v L (List.range l.length) a0).tmps.getD t undef=a0.tmps.getD t undef:=by
  intro t v L ht;exact a5q _ _ fun j _ o ho _=>ht o (List.mem_of_getElem? (by simpa using ho))
 have hset:∀(i:Nat) (o:Oper) (v:Nat→Value) (L:Nat→Bool),l[i]?=some o→L i=false→(a1f l.toArray v L (List.range l.length) a0).put o.dst (v i)=a1f l.toArray v (fun j=>if j=i then true else L j) (List.range l.length) a0:=by
  intro i o v L ho hL;exact(a9o hL (by simpa using ho) (fun j hj oj hoj t ht=>hd i o ho j hj oj (by simpa using hoj) t ht) _ _ List.nodup_range (by simpa using(List.getElem?_eq_some_iff.1 ho).1)).symm
 let I:(Nat→Bool)→Act→World→Prop:=fun L a w=>(S w∧(∃v:Nat→Value,a=a1f l.toArray v L (List.range l.length) a0∧∀(j:Nat) (r:Rel),vs[j]?=some r→L j=true→r (v j) w)∧L vs.length=false)∨((∀j,j < l.length→L j=true)∧Q .normal a w)
 have hvl:∀(j:Nat) (r:Rel),vs[j]?=some r→j < vs.length:=fun j r h=>(List.getElem?_eq_some_iff.1 h).1
 refine wp_region_any hm ?_;refine a9d I ?_ hdep ?_ ?_ _ _ _ _ (by simp) (by simp) ?_
 ·rintro L L' a w hL (⟨h1,⟨v,h2,hr⟩,h3⟩ | ⟨h1,h2⟩)
  ·refine .inl ⟨h1,⟨v,h2.trans (a1t _ _ fun j hj=>⟨hL j (by simpa using hj),fun _=>rfl⟩),fun j r hj hl=>hr j r hj ((hL j (by have:=hvl j r hj;simp;omega)).trans hl)⟩,(hL _ (by simp;omega)).symm.trans h3⟩
  ·exact .inr ⟨fun j hj=>(hL j (by simpa using hj)).symm.trans (h1 j hj),h2⟩
 ·rintro L a w i o hI ho hLi hdeps;have ho':l[i]?=some o:=by simpa using ho
  have hil:i < l.length:=(List.getElem?_eq_some_iff.1 ho').1;have hg:o.guard=none:=by
   have:=List.all_eq_true.1 hgd o (List.mem_of_getElem? ho');simpa using this
  have hbound:∀j,a1w o j→L j=true:=by
   rintro j ⟨e,he,rfl,hb⟩;exact hdeps e he hb
  rcases hI with⟨h1,⟨v,rfl,hr⟩,h3⟩ | ⟨h1,_⟩
  case inr=>rw [h1 i hil]at hLi;cases hLi
  unfold wpOp;simp only [ho];rw [if_pos (by simp [Region.wanted,hg])];refine .inl ?_;by_cases hin:i=vs.length
  ·subst hin;rw [hol]at ho';cases ho'
   have hall:∀j,j < vs.length→L j=true:=by
    intro j hj;have:=List.all_eq_true.1 hlast j (by simpa using hj);simp only [List.any_eq_true,Bool.and_eq_true,beq_iff_eq]at this;obtain⟨e,he,he1,he2⟩:=this;exact hbound j ⟨e,by simpa using he,he1,he2⟩
   have e1:a1f l.toArray v L (List.range l.length) a0=a1f l.toArray v (fun j=>decide (j < vs.length)) (List.range l.length) a0:=by
    refine a1t _ _ fun j hj=>⟨?_,fun _=>rfl⟩
    have hj':j < l.length:=by simpa using hj
    by_cases h:j < vs.length
    ·rw [hall j h];simp [h]
    ·obtain rfl:j=vs.length:=by omega
     rw [h3];simp
   rw [e1];refine Oper.wp_mono (fun a' w' hq=>.inr ⟨fun j hj=>?_,hq⟩) (hF v w h1 fun j r hj=>hr j r hj (hall j (hvl j r hj)))
   dsimp only
   by_cases hjn:j=vs.length
   ·rw [if_pos hjn]
   ·rw [if_neg hjn];exact hall j (by omega)
  ·have hi:i < vs.length:=by omega
   have hv:vs[i]?=some vs[i]:=by simp [hi]
   obtain⟨_,hp⟩:=c3w.get l vs i o vs[i] hA ho' hv;refine hp _ w _ _ h1 (fun j r d oj hK hoj hdj hb=>?_) (fun t ht=>hoth t _ L ht) (fun u w' hk hru=>.inl ⟨hS _ _ h1 hk,⟨fun j=>if j=i then u else v j,?_,fun j r hj hl=>?_⟩,?_⟩)
   ·rw [hget j oj d v L hoj hdj (hbound j hb)];exact hr j r hK (hbound j hb)
   ·have e1:a1f l.toArray v L (List.range l.length) a0=a1f l.toArray (fun j=>if j=i then u else v j) L (List.range l.length) a0:=by
     refine a1t _ _ fun j _=>⟨rfl,fun hl=>?_⟩
     have hji:j≠i:=fun e=>by rw [e,hLi]at hl;cases hl
     simp [hji]
    have:=hset i o (fun j=>if j=i then u else v j) L ho' hLi;simp only [if_true]at this;rw [e1];exact this
   ·dsimp only at hl ⊢
    by_cases hji:j=i
    ·subst hji;rw [hv]at hj;cases hj
     rw [if_pos rfl];exact hru
    ·rw [if_neg hji]at hl ⊢;obtain⟨oj,hoj⟩:∃oj,l[j]?=some oj:=⟨_,List.getElem?_eq_getElem (by have:=hvl j r hj;omega)⟩;obtain⟨hst,_⟩:=c3w.get l vs j oj r hA hoj hj;exact hst _ _ _ (hr j r hj hl) hk
   ·dsimp only;rw [if_neg (fun e=>hin e.symm)];exact h3
 ·rintro L a w (⟨_,_,h3⟩ | ⟨_,h2⟩) hall
  ·rw [hall vs.length (by simp;omega)]at h3;cases h3
  ·exact h2
 ·have hf:∀(j:Nat),j < l.length→(Array.replicate l.toArray.size false).getD j true=false:=by
   intro j hj;simp [hj]
  refine .inl ⟨hS0,⟨fun _=>undef,?_,fun j r hj hl=>absurd ((hf j (by have:=hvl j r hj;omega)).symm.trans hl) (by simp)⟩,hf _ (by omega)⟩;rw [a1t (L':=fun _=>false) (v':=fun _=>undef) _ _ fun j hj=>⟨hf j (by simpa using hj),fun _=>rfl⟩,a7p]
def isV(u:Value):Rel:=fun v _=>v=u
def b0x(k0:Nat)(t:TypeId)(cs:Array Value):Rel:=fun v w=>∃g,v= .pointer (some ⟨g,0,none⟩)∧Blk w g t cs∧k0≤g
theorem b0x.get{k0:Nat}{t:TypeId}{cs:Array Value}{v:Value}{w:World}(h:b0x k0 t cs v w):∃g,v= .pointer (some ⟨g,0,none⟩)∧Blk w g t cs∧k0≤g:=h
theorem b5q{o:Oper}{a:Act}{w:World}{C:Act→World→Prop}{R:Exit→Act→World→Prop}{t bt:TypeId}{n p c g:Nat}{cs old:Array Value}(T:RowT P t n)(ho:o.op= .store t (.tmp p) (.tmp c))(hp:a.tmps.getD p undef= .pointer (some ⟨g,0,none⟩))(hc:a.tmps.getD c undef= .agg cs)
 (hb:Blk w g bt old) (hold:old.size=n) (hn:cs.size=n) (h1:cs.all (·.oneCell')=true) (h:∀w',Blk w' g bt cs→Kept [g] w w'→C (a.put o.dst undef) w'):o.wp P a w C R:=
 wp_store_row t (.tmp p) (.tmp c) ho g cs hp hc bt old hb (by rw [T.size,hn]) (by omega) h1 (h _ (hb.a5i cs) ((Kept.refl [g] w).setRow (.inl (by simp)) cs))
section
variable {l:List Oper} {vs:List Rel} {a0:Act} {w0:World} {o:Oper} {t:TypeId}
theorem b0j{z:Value}(ho:o.op= .alloc t)(hz:(P.info? t).map (·.zero)=some (some z)):a8p P l vs (fun u=>Kept [] w0 u) a0 o (b0x w0.heap.size t z.cells):=
 ⟨fun _ _ _ ⟨g,h1,h2,h3⟩ hk=>⟨g,h1,h2.kept hk (by simp),h3⟩,fun _ w _ _ hS _ _ h=>e3c ho hz (h _ _ ((Kept.refl [] w).alloc _) ⟨_,rfl,Blk.new _ _ _,hS.size⟩)⟩
theorem a3u{n g:Nat}{x:Tmp}{bt:TypeId}{cs:Array Value}(T:RowT P t n)(ho:o.op= .load t (.tmp x))(hx:a0.tmps.getD x undef= .pointer (some ⟨g,0,none⟩))(hf:∀y∈l,y.dst≠some x)(hb:Blk w0 g bt cs)(hn:cs.size=n):a8p P l vs (fun u=>Kept [] w0 u) a0 o (isV (.agg cs)):=
 ⟨fun _ _ _ h _=>h,fun _ _ _ _ hS _ hoth h=>a0o T (.tmp x) ho ((hoth x hf).trans hx) (hb.kept hS (by simp)) hn (h _ _ (Kept.refl _ _) rfl)⟩
theorem d3f{f:FuncId}{o:Oper}{a:Act}{w:World}{C:Act→World→Prop}{R:Exit→Act→World→Prop}{args:Array Operand}{ats:Array TypeId}(ho:o.op= .call {callee:=.value (.func f),args:=args,argTypes:=ats})
 (hen:∀(xs:Array Value) w,(callFunc f xs).run P w= .ok (.enter f xs) w) {xs:Array Value} (hvs:args.map a.eval=xs) {r:Rel} (hc:Calls P f xs w fun e w'=>∃v,e= .returned v∧r v w'∧Kept [] w w') (h:∀v w',Kept [] w w'→r v w'→C (a.put o.dst v) w'):o.wp P a w C R:=by
 unfold Oper.wp execOp;simp only [ho,resolve,invoke,Sem.run_bind,Act.eval];rw [hvs];simp only [Deferred.ofValue,Sem.run_pure,Result.andThen_ok,Array.append_empty,Array.empty_append,hen,Oper.upon];refine hc.mono ?_;rintro e w' ⟨v,rfl,hr,hk⟩;exact h v w' hk hr
theorem a3v{f:FuncId}{args:Array Operand}{ats:Array TypeId}{r:Rel}(ho:o.op= .call {callee:=.value (.func f),args:=args,argTypes:=ats})
 (hen:∀(xs:Array Value) w,(callFunc f xs).run P w= .ok (.enter f xs) w) (hst:∀v u u',r v u→Kept [] u u'→r v u')
 (hc:∀(a:Act) w,Kept [] w0 w→(∀(j:Nat) (r':Rel) d oj,vs[j]?=some r'→l[j]?=some oj→oj.dst=some d→a1w o j→r' (a.tmps.getD d undef) w)→(∀t,(∀x∈l,x.dst≠some t)→a.tmps.getD t undef=a0.tmps.getD t undef)→
   Calls P f (args.map a.eval) w fun e w'=>∃v,e= .returned v∧r v w'∧Kept [] w w'):a8p P l vs (fun u=>Kept [] w0 u) a0 o r:=
 ⟨hst,fun a w _ _ hS hr hoth h=>d3f ho hen rfl (hc a w hS hr hoth) h⟩
theorem b7q{f:FuncId}{ats:Array TypeId}{v:Value}(ho:o.op= .call {callee:=.value (.func f),args:=#[],argTypes:=ats})
 (hen:∀(xs:Array Value) w,(callFunc f xs).run P w= .ok (.enter f xs) w) (hc:∀w,Calls P f #[] w fun e w'=>e= .returned v∧Kept [] w w'):a8p P l vs (fun u=>Kept [] w0 u) a0 o (isV v):=
 a3v ho hen (fun _ _ _ h _=>h) fun a w _ _ _=>by
  have:Array.map a.eval #[]= #[]:=by simp
  rw [this];exact(hc w).mono (by rintro e w' ⟨rfl,hk⟩;exact⟨_,rfl,rfl,hk⟩)
theorem a4n{f:FuncId}{ats:Array TypeId}{v u:Value}{x j:Nat}{oj:Oper}(ho:o.op= .call {callee:=.value (.func f),args:=#[.tmp x],argTypes:=ats})
 (hen:∀(xs:Array Value) w,(callFunc f xs).run P w= .ok (.enter f xs) w) (hj:vs[j]?=some (isV u)) (hl:l[j]?=some oj) (hd:oj.dst=some x) (hb:a1w o j) (hc:∀w,Calls P f #[u] w fun e w'=>e= .returned v∧Kept [] w w'):a8p P l vs (fun u=>Kept [] w0 u) a0 o (isV v):=
 a3v ho hen (fun _ _ _ h _=>h) fun a w _ hr _=>by
  have e:a.tmps.getD x undef=u:=hr j _ x oj hj hl hd hb;have:Array.map a.eval #[.tmp x]= #[u]:=by simp only [List.map_toArray,List.map_cons,List.map_nil,Act.eval,e]
  rw [this];exact(hc w).mono (by rintro e w' ⟨rfl,hk⟩;exact⟨_,rfl,rfl,hk⟩)
theorem a9u{f:FuncId}{ats:Array TypeId}{v u u2:Value}{x j x2 j2:Nat}{oj oj2:Oper}(ho:o.op= .call {callee:=.value (.func f),args:=#[.tmp x,.tmp x2],argTypes:=ats})
 (hen:∀(xs:Array Value) w,(callFunc f xs).run P w= .ok (.enter f xs) w) (hj:vs[j]?=some (isV u)) (hl:l[j]?=some oj) (hd:oj.dst=some x) (hb:a1w o j) (hj2:vs[j2]?=some (isV u2)) (hl2:l[j2]?=some oj2) (hd2:oj2.dst=some x2) (hb2:a1w o j2)
 (hc:∀w,Calls P f #[u,u2] w fun e w'=>e= .returned v∧Kept [] w w'):a8p P l vs (fun u=>Kept [] w0 u) a0 o (isV v):=
 a3v ho hen (fun _ _ _ h _=>h) fun a w _ hr _=>by
  have e:a.tmps.getD x undef=u:=hr j _ x oj hj hl hd hb;have e2:a.tmps.getD x2 undef=u2:=hr j2 _ x2 oj2 hj2 hl2 hd2 hb2;have:Array.map a.eval #[.tmp x,.tmp x2]= #[u,u2]:=by simp only [List.map_toArray,List.map_cons,List.map_nil,Act.eval,e,e2]
  rw [this];exact(hc w).mono (by rintro e w' ⟨rfl,hk⟩;exact⟨_,rfl,rfl,hk⟩)
end
end
end Go.Txt
namespace Go.Mem
open Go.RowKit
section
variable {P:Program} {w w':World} {ops:Array Oper} {Q:Exit→Act→World→Prop} {rest:List Oper} {a:Act} {o:Oper}
theorem d9w{t e:TypeId}{size bytes:Nat}{z:Value}(T:SliceT P t e size bytes z)(ty:TypeId){v:Value}{n:Nat}{xs:List Value}(hown:Ow w e size v n xs)(hfull:∀A c,v= .slice A n c→c=n)
 {x:Value} {m:Nat} {news:List Value} (hr:Rd w size x m news) (h1:∀u∈news,u.oneCell'=true) (hbytes:(n + m) * bytes≤140737488355328) (h63:n + m≤9223372036854775807) :
 ∃v' w',(Builtin.append_ #[t,t] ty #[v,x]).run P w= .ok v' w'∧Ow w' e size v' (n + m) (xs ++ news)∧Kept [] w w'∧(v'.ownBlock=v.ownBlock∨v'.ownBlock=some w.heap.size):=by
 obtain⟨i,hi,hz,hsz,hby⟩:=T.get;obtain⟨A,c,rfl,hl,_,hx⟩:=hr;have hsrc:Src P size t (.slice A m c) m news w:=by
  by_cases hm:m=0
  ·subst hm;have hn:news= []:=List.eq_nil_of_length_eq_zero (by simpa using hl);subst hn
   cases A with
   | none=>exact Src.ofNil w T.under c
   | some ad=>exact Src.ofSlice w T.under ad 0 c [] (by simp) (by simp) (by simp)
  ·obtain⟨b,o,rfl,hcell⟩:=hx (by omega);exact Src.ofSlice w T.under ⟨b,o,none⟩ m c news hl (fun j u hu=>by rw [a2w];exact hcell j u hu) h1
 have hlen:(xs ++ news).length=(n + m) * size:=by rw [List.length_append,hown.1,hl,Nat.add_mul]
 have hgrow:∀(base:Option Addr) (cap:Nat),v= .slice base n cap→cap < n + m→(Builtin.firstCells i.size n (.slice base n cap)).run P w.drew= .ok xs.toArray w.drew→
  ∃v' w',(Builtin.append_ #[t,t] ty #[v,.slice A m c]).run P w= .ok v' w'∧Ow w' e size v' (n + m) (xs ++ news)∧Kept [] w w'∧(v'.ownBlock=v.ownBlock∨v'.ownBlock=some w.heap.size):=by
  intro base cap hv hcap hold;subst hv;have hrun:=run_append_grow_src (P:=P) w t t ty e i z T.under hi hz base n cap xs hold (.slice A m c) m news (by rw [hsz];exact hsrc) hcap (by omega) (by rw [hby];exact growslice_fits hcap hbytes);have hge:=grownCap_ge w (n + m) cap e;have hcm:grownCap w (n + m) cap e≤maxLen:=grownCap_le_maxLen w (n + m) cap e (by simp only [maxLen];exact h63);refine⟨_,_,hrun,⟨hlen,.inr ⟨w.heap.size,0,_,_,rfl,heap_alloc_new w.drew _,hge,by simpa [maxLen]using hcm,?_,?_⟩⟩,?_,.inr rfl⟩
  ·simp only [Array.size_append,List.size_toArray,size_zeroCells,T.zs,hlen,←Nat.add_mul];have:(n + m + (grownCap w (n + m) cap e - (n + m)))=grownCap w (n + m) cap e:=by omega
   rw [this];omega
  ·simp only [Array.toList_append,List.drop_zero];rw [←hlen];exact List.take_left
  ·exact(Kept.refl [] w).drew.alloc _
 rcases hown.2 with⟨hv,h0⟩ | ⟨g,o',cap,cur,hv,hg,hnc,hcm,hcs,ht⟩
 ·subst h0;have hx0:xs= []:=List.eq_nil_of_length_eq_zero (by simpa using hown.1);by_cases hm:m=0
  ·subst hm;have hn:news= []:=List.eq_nil_of_length_eq_zero (by simpa using hl);subst hn;subst hv;refine⟨.slice none 0 0,w,?_,by simpa using hown,Kept.refl _ _,.inl rfl⟩
   cases A <;> simp [Builtin.append_,run_underlying T.under,sizeOf,typeInfo,hi,Builtin.lenOf,Builtin.firstCells,loadCells,loadCellsFrom]
  ·exact hgrow none 0 hv (by omega) (by rw [hx0];exact run_firstCells_none w.drew _ _ _ _)
 ·by_cases hroom:n + m≤cap
  ·subst hv;have hfit:(n + m) * size≤cap * size:=Nat.mul_le_mul_right _ hroom;rw [Nat.add_mul]at hfit;have hrun:=run_append_room_src (P:=P) w t t ty e i T.under hi g o' n cap (.slice A m c) m news (by rw [hsz];exact hsrc) hroom
    (fun j hj=>by rw [hg.cell,hsz];simp;omega) (fun j _=>hg.frozen _)
   obtain⟨cs',b1,b2,b3⟩:=Blk.setCells news (o' + n * i.size) cur w hg
   refine⟨_,_,hrun,⟨hlen,.inr ⟨g,o',cap,cs',rfl,b1,hroom,hcm,by omega,?_⟩⟩,(by
    have hc:=hfull _ _ rfl;have hm:m=0:=by omega
    subst hm;have hn:news= []:=List.eq_nil_of_length_eq_zero (by simpa using hl);subst hn;exact Kept.refl [] w),.inl rfl⟩
   rw [hsz]at b3;apply List.ext_getElem?;intro j;have hxl:=hown.1;rw [List.getElem?_take,List.getElem?_append,List.getElem?_drop];have b4:cs'.toList[o' + j]?=cs'[o' + j]?:=by simp
   rw [b4,b3,Nat.add_mul];by_cases hj:j < n * size
   ·rw [if_pos (by omega),if_neg (by omega),if_pos (by omega),←ht,List.getElem?_take,if_pos hj,List.getElem?_drop];simp
   ·by_cases hj2:j < n * size + m * size
    ·rw [if_pos hj2,if_pos (by omega),if_neg (by omega)];congr 1;omega
    ·rw [if_neg hj2,if_neg (by omega),List.getElem?_eq_none (by omega)]
  ·refine hgrow _ cap hv (by omega) ?_;subst hv
   have:=run_firstCells_some (P:=P) w.drew i.size n ⟨g,o',none⟩ n cap xs (by rw [hsz];exact hown.1) (fun j u hu=>by
    rw [a2w]
    obtain⟨b2,o2,c2,hv2,_,hcell⟩:=(Rd.a6w hown).at_ (by
     rcases Nat.eq_zero_or_pos n with h | h
     ·subst h;have:=hown.1;simp at this;subst this;simp at hu
     ·exact h)
    cases hv2
    exact hcell j u hu)
   exact this
theorem d8f{t e:TypeId}{size bytes:Nat}{z:Value}(T:SliceT P t e size bytes z)(hgd:o.guard=none)(s x:Operand)
 (ho:o.op= .call {callee:=.builtin .append,args:=#[s,x],argTypes:=#[t,t]}) {v:Value} (hs:a.eval s=v) {n:Nat} {xs:List Value} (hown:Ow w e size v n xs) (hfull:∀A c,v= .slice A n c→c=n)
 {xv:Value} (hx:a.eval x=xv) {m:Nat} {news:List Value} (hr:Rd w size xv m news) (h1:∀u∈news,u.oneCell'=true) (hbytes:(n + m) * bytes≤140737488355328) (h63:n + m≤9223372036854775807)
 (h:∀v' w',Ow w' e size v' (n + m) (xs ++ news)→Kept [] w w'→(v'.ownBlock=v.ownBlock∨v'.ownBlock=some w.heap.size)→wpList P ops Q rest (a.put o.dst v') w'):wpList P ops Q (o :: rest) a w:=by
 refine wpList_plain hgd fun K hK=>?_
 obtain⟨v',w',hrun,h2,h3,h4⟩:=d9w T o.type hown hfull hr h1 hbytes h63;unfold Oper.wp execOp;simp only [ho,resolve,invoke,builtin,Sem.run_bind,Sem.run_pure,Result.andThen_ok,List.map_toArray,List.map_cons,List.map_nil,hs,hx,hrun];exact hK _ _ (h v' w' h2 h3 h4)
end
end Go.Mem
namespace Go.Proofs.YtdbngnlpafcogaaGreat
open Go.RowKit Go.Mem Go.Txt
theorem b3n{a:Act}{o:Oper}{x g:Nat}(ho:o.op= .slice 22 (.tmp x) none none none)(W:World)(hx:a.tmps.getD x undef= .pointer (some ⟨g,0,none⟩)):(execOp a.eval o).run Tryz.prog W= .ok (.value (.slice (some ⟨g,0,none⟩) 32 32)) W:=by
 unfold execOp;simp only [ho,Sem.run_bind,Act.eval,hx]
 kernel_rfl
theorem a3h{a:Act}{o:Oper}{x:Nat}{v:Value}(ho:o.op= .move (.tmp x))(W:World)(hx:a.tmps.getD x undef=v):(execOp a.eval o).run Tryz.prog W= .ok (.value v) W:=by
 unfold execOp;simp only [ho,Act.eval,hx];rfl
section
variable {l:List Oper} {vs:List Rel} {a0:Act} {w0:World} {o:Oper}
theorem a4g{x:Tmp}{p v:Value}(hx:a0.tmps.getD x undef=p)(hf:∀y∈l,y.dst≠some x)(he:∀(a:Act) W,a.tmps.getD x undef=p→(execOp a.eval o).run Tryz.prog W= .ok (.value v) W):a8p Tryz.prog l vs (fun u=>Kept [] w0 u) a0 o (isV v):=
 ⟨fun _ _ _ h _=>h,fun a w _ _ _ _ hoth h=>a4o (he a w ((hoth x hf).trans hx)) (h _ _ (Kept.refl _ _) rfl)⟩
def d6e(k0:Nat)(v1 v2:Value):Rel:=fun v w=>∃g,v= .slice (some ⟨g,0,none⟩) 2 2∧Blk w g 23 #[v1,v2]∧k0≤g
def b9y(ps:List (Value × List UInt8)):Rel:=fun v w=>Parts w v ps
theorem c6d{x y j k:Nat}{v1 v2:Value}{oj ok:Oper}(ho:o.op= .buildSlice 45 2 #[(0,.tmp x),(1,.tmp y)])(c0:v1.cells= #[v1])(c1:v2.cells= #[v2])
 (hj:vs[j]?=some (isV v1)) (hl:l[j]?=some oj) (hd:oj.dst=some x) (hb:a1w o j) (hj2:vs[k]?=some (isV v2)) (hl2:l[k]?=some ok) (hd2:ok.dst=some y) (hb2:a1w o k):a8p Tryz.prog l vs (fun u=>Kept [] w0 u) a0 o (d6e w0.heap.size v1 v2):=by
 refine⟨fun _ _ _ ⟨g,h1,h2,h3⟩ hk=>⟨g,h1,h2.kept hk (by simp),h3⟩,fun a w C R hS hr _ h=>?_⟩;have e:a.tmps.getD x undef=v1:=hr j _ x oj hj hl hd hb;have e2:a.tmps.getD y undef=v2:=hr k _ y ok hj2 hl2 hd2 hb2;obtain⟨i,hi,hz,hs,hb⟩:=info_parts a4j.2;have hv:(#[(0,Operand.tmp x),(1,.tmp y)].map fun(p:Nat × Operand)=>(p.1,a.eval p.2)).toList= [(0,v1),(1,v2)]:=by simp [Act.eval,←e,←e2]
 have hf:Instr.fill (fun i=>some (i * 1,1)) ((Array.range (2 * 1)).map ((Value.slice none 0 0).cells[· % (Value.slice none 0 0).cells.size]!)) [(0,v1),(1,v2)]=some #[v1,v2]:=by
  have hr:∀f:Nat→Value,(Array.range (2 * 1)).map f= #[f 0,f 1]:=fun f=>Array.toList_inj.1 (by rw [Array.toList_map,Array.toList_range];rfl)
  rw [hr];simp [Instr.fill,c0,c1]
 exact wp_buildSlice _ _ 2 _ ho #[v1,v2] i _ a4j.1 hi hz (by rw [hs];omega) (by rw [hs];omega) (by rw [hs];exact(congrArg (Instr.fill _ _) hv).trans hf) (h _ _ ((Kept.refl [] w).alloc _) ⟨_,rfl,Blk.new _ _ _,hS.size⟩)
end
theorem d6m(pv:Value)(g n:Nat)(ps qs:List (Value × List UInt8))(w:World)(hp:Parts w pv ps)(hq:n=qs.length)(ha:Ow w 23 1 (.slice (some ⟨g,0,none⟩) n n) n (qs.map (·.1)))(hi:∀x∈qs,Rd w 1 x.1 x.2.length (bv x.2))(hn:ps.length≤1000000000)(hm:n≤1000) :
 Calls Tryz.prog 35 #[pv,.slice (some ⟨g,0,none⟩) n n] w fun e w'=>∃v,e= .returned v∧Parts w' v (qs ++ ps)∧Kept [] w w':=by
 have A:=hjd ha;have P:=hjd hp;have hq:=hjd hq;obtain⟨pA,pc,rfl,_,_,_⟩:=hp.outer;clear hp ha;go_enter Tryz.func35,Tryz.ntmps35;go_wp2_with (first
  | (at_builtin;refine d8f (n:=n) (m:=ps.length) a4j rfl (.tmp 5) (.tmp 6) rfl rfl A.out (fun _ _ h=>by cases h;rfl) rfl P.out.outer (one_sl ps w P.out.inner) (by omega) (by omega) ?_;intro v' w1 o1 k1 f1;have O1:=hjd o1;have K1:=hjd k1;clear o1 k1 f1))
 go_ret;refine⟨_,rfl,⟨by rw [List.length_append,List.map_append,←hq.out];exact Rd.a6w O1.out,fun x hx=>?_⟩,K1.out⟩;rcases List.mem_append.1 hx with hx | hx
 ·exact(hi x hx).a0k K1.out
 ·exact(P.out.inner x hx).a0k K1.out
end Go.Proofs.YtdbngnlpafcogaaGreat
namespace Go.Proofs.YtdbngnlpafcogaaGreat
open Go.RowKit Go.Mem Go.Txt
theorem b5y{w w':World}{pv:Value}{ps:List (Value × List UInt8)}(qs:List (Value × List UInt8)){g n:Nat}{cs:Array Value}(hp:Parts w pv ps)(hi:∀x∈qs,Rd w 1 x.1 x.2.length (bv x.2))(m:Made w w' g 23 cs)(hc:cs=(qs.map (·.1)).toArray)(hq:n=qs.length)(hn:ps.length≤1000000000)(hm:qs.length≤1000) :
 Calls Tryz.prog 35 #[pv,.slice (some ⟨g,0,none⟩) n n] w' fun e w''=>∃v,e= .returned v∧Parts w'' v (qs ++ ps)∧Kept [] w' w'':=by
 subst hc;subst hq;exact d6m pv g _ ps qs w' (hp.a0k m.kept) rfl (Ow.close m.blk (Nat.le_refl _) (by omega) (by simp) (by simp [List.take_of_length_le])) (fun x hx=>(hi x hx).a0k m.kept) hn hm
theorem e5v(pv:Value)(ps:List (Value × List UInt8))(m:List UInt8)(w:World)(hp:Parts w pv ps)(hj:a0z ps=m)(hn:ps.length≤9223372036854775807)(hl:m.length≤140737488353000) :
 Calls Tryz.prog 34 #[pv] w fun e w'=>e= .returned (Z.w4 (c0x m))∧Kept [] w w':=by
 subst hj;exact c3x pv ps w hp hn hl
theorem c5d(m:List UInt8):c0x m < Z.LL:=Nat.mod_lt _ (by decide)
def rS(bs m:List UInt8):Nat:=c0x ((Q.sha bs).drop 32 ++ m)
def RS(bs m:List UInt8):List UInt8:=c3r (le (rS bs m) 32)
def hS(bs m:List UInt8):Nat:=c0x (RS bs m ++ (c3r (b6l bs) ++ m))
def sS(bs m:List UInt8):Nat:=(rS bs m + hS bs m * (Z.leV (b6l bs) % Z.LL) % Z.LL) % Z.LL
def a9c(bs m:List UInt8):List UInt8:=RS bs m ++ le (sS bs m) 32
theorem a6g(xs:Array Value)(w:World):(callFunc 36 xs).run Tryz.prog w= .ok (.enter 36 xs) w:=enters_of (c:=_) Tryz.func36 (by kernel_rfl) rfl xs w
theorem b6h(xs:Array Value)(w:World):(callFunc 35 xs).run Tryz.prog w= .ok (.enter 35 xs) w:=enters_of (c:=_) Tryz.func35 (by kernel_rfl) rfl xs w
theorem b2f(xs:Array Value)(w:World):(callFunc 34 xs).run Tryz.prog w= .ok (.enter 34 xs) w:=enters_of (c:=_) Tryz.func34 (by kernel_rfl) rfl xs w
theorem c0r(xs:Array Value)(w:World):(callFunc 39 xs).run Tryz.prog w= .ok (.enter 39 xs) w:=enters_of (c:=_) Tryz.func39 (by kernel_rfl) rfl xs w
theorem c2z(xs:Array Value)(w:World):(callFunc 38 xs).run Tryz.prog w= .ok (.enter 38 xs) w:=enters_of (c:=_) Tryz.func38 (by kernel_rfl) rfl xs w
theorem c3e(xs:Array Value)(w:World):(callFunc 37 xs).run Tryz.prog w= .ok (.enter 37 xs) w:=enters_of (c:=_) Tryz.func37 (by kernel_rfl) rfl xs w
theorem d4q:(Tryz.prog.info? 32).map (·.zero)=some (some (ab (a0m 64))):=Q.e0h
set_option maxHeartbeats 3200000 in
theorem d3b{bs n A t RB SB l1:List UInt8}{b p1 b2 p2:P4}{r h x y s:Nat}(hl:bs.length=32)(hn:n.length=32)(hA:A.length=32)(hR:RB.length=32)(hS:SB.length=32)(hl1:l1.length=32)(ht:t.length=32)
 (pv:Value) (ps:List (Value × List UInt8)) (w:World) (hp:Parts w pv ps) (hn2:ps.length≤1000000000)
 (cse:∀u,Calls Tryz.prog 30 #[ab bs] u fun e w'=>∃g,e= .returned (.tuple #[ab n,.slice (some ⟨g,32,none⟩) 32 32])∧Rd w' 1 (.slice (some ⟨g,32,none⟩) 32 32) 32 (bv t)∧Kept [] u w'∧u.heap.size≤g)
 (cb:BsC b) (cp1:MsC b n p1) (ch1:HsC p1 A)
 (cr:∀u v z,Parts u v ((z,t) :: ps)→Calls Tryz.prog 34 #[v] u fun e w'=>e= .returned (Z.w4 r)∧Kept [] u w')
 (chr:∀u,Calls Tryz.prog 36 #[Z.w4 r] u fun e w'=>e= .returned (ab l1)∧Kept [] u w')
 (cb2:BsC b2) (cp2:MsC b2 l1 p2) (ch2:HsC p2 RB)
 (ch:∀u v z1 z2,Parts u v ((z1,RB) :: (z2,A) :: ps)→Calls Tryz.prog 34 #[v] u fun e w'=>e= .returned (Z.w4 h)∧Kept [] u w')
 (cmod:∀u,Calls Tryz.prog 39 #[ab n] u fun e w'=>e= .returned (Z.w4 x)∧Kept [] u w')
 (cmul:∀u,Calls Tryz.prog 38 #[Z.w4 h,Z.w4 x] u fun e w'=>e= .returned (Z.w4 y)∧Kept [] u w')
 (cadd:∀u,Calls Tryz.prog 37 #[Z.w4 r,Z.w4 y] u fun e w'=>e= .returned (Z.w4 s)∧Kept [] u w')
 (chs:∀u,Calls Tryz.prog 36 #[Z.w4 s] u fun e w'=>e= .returned (ab SB)∧Kept [] u w') :
 Calls Tryz.prog 10 #[ab bs,pv] w fun e w'=>e= .returned (ab (RB ++ SB))∧Kept [] w w':=by
 replace hl:=hjd hl;replace hn:=hjd hn;replace hA:=hjd hA;replace hR:=hjd hR;replace hS:=hjd hS;replace hl1:=hjd hl1;replace ht:=hjd ht;replace hp:=hjd hp;replace hn2:=hjd hn2;replace cse:=hjd cse;replace cb:=hjd cb;replace cp1:=hjd cp1;replace ch1:=hjd ch1;replace cr:=hjd cr;replace chr:=hjd chr;replace cb2:=hjd cb2;replace cp2:=hjd cp2;replace ch2:=hjd ch2;replace ch:=hjd ch;replace cmod:=hjd cmod;replace cmul:=hjd cmul;replace cadd:=hjd cadd;replace chs:=hjd chs;obtain⟨PA,pc,e0,_,_,_⟩:=hp.out.outer;subst e0;go_enter Tryz.func10,Tryz.ntmps10;go_wp2_with (first
  | ((with_reducible refine a0f 2 ?_);(refine a0q (o:=⟨some 2,_,_,_,_,_⟩) (v:=ab bs) rfl (.tmp 0) rfl rfl ?_);intro g1 w1 m1;have M1:=hjd m1;clear m1)
  | ((with_reducible refine a0f 4 ?_);(refine a0h (o:=⟨some 4,_,_,_,_,_⟩) rfl rfl d4q ?_);intro g2 w2 m2;have M2:=hjd m2;clear m2)
  | ((with_reducible refine a0f 14 ?_);refine a0d (cs:=(bv bs).toArray) (o:=⟨some 14,_,_,_,_,_⟩) a2u.row rfl (.tmp 2) rfl rfl (M1.out.blk.kept M2.out.kept (by simp)) (by simpa using hl.out) ?_)
  | (go_at_call 30;(with_reducible refine(cse.out _).mono ?_);rintro e w7 ⟨g,rfl,r7,k7,l7⟩;have B4:=hjd (M2.out.blk.kept k7 (by simp));have L4:=hjd (Nat.le_trans M1.out.kept.size M2.out.le);have KK:=hjd ((M1.out.kept.a0g M2.out.kept).a0g k7);have R6:=hjd r7;clear r7 k7 l7)
  | ((with_reducible refine a0f 5 ?_);(refine a0h (o:=⟨some 5,_,_,_,_,_⟩) rfl rfl a8l ?_);intro g5 w5 m5;refine a0a (cs:=(bv n).toArray) (o:=⟨none,Op.store 22 (.tmp 5) (.tmp 16),_,_,_,_⟩) a2u.row rfl (.tmp 5) (.tmp 16) rfl rfl rfl m5.blk (by rfl) (by simpa using hn.out) (a3o _) ?_;intro wb b5 k5;have kk:=m5.kept.a0r k5 m5.le;have B5:=hjd b5;have N45:=hjd (m5.ne B4.out.lt);replace B4:=hjd (B4.out.kept kk (by simp));replace R6:=hjd (R6.out.a0k kk);replace KK:=hjd (KK.out.a0g kk);clear m5 b5 k5 kk))
 clear cse M1 M2;refine Txt.a6j (by kernel_rfl) [Txt.isV b.v,Txt.isV (ab n),Txt.isV p1.v,Txt.isV (ab A),Txt.b0x wb.heap.size 22 (ab (a0m 32)).cells] (fun u=>Kept [] wb u) (by kernel_rfl) rfl rfl (by kernel_rfl) ((Kept.refl [] wb).drew) (fun u u' h k=>h.a0g k) ⟨?_,?_,?_,?_,?_,trivial⟩ ?_
 ·exact Txt.b7q rfl a6t cb.out
 ·exact Txt.a3u a2u.row rfl rfl (by decide) B5.out (by simpa using hn.out)
 ·exact Txt.a9u (x:=18) (x2:=19) (j:=0) (j2:=1) rfl b6r rfl rfl rfl ⟨⟨0,.data⟩,by simp,rfl,rfl⟩ rfl rfl rfl ⟨⟨1,.data⟩,by simp,rfl,rfl⟩ cp1.out
 ·exact Txt.a4n (x:=20) (j:=2) rfl a9p rfl rfl rfl ⟨⟨2,.data⟩,by simp,rfl,rfl⟩ ch1.out
 ·exact Txt.b0j rfl a8l
 intro v wc kc hv;have v0:v 0=b.v:=hv 0 _ rfl;have v1:v 1=ab n:=hv 1 _ rfl;have v2:v 2=p1.v:=hv 2 _ rfl;have v3:v 3=ab A:=hv 3 _ rfl;have h4:Txt.b0x wb.heap.size 22 (ab (a0m 32)).cells (v 4) wc:=hv 4 _ rfl;clear hv;simp [Txt.a1f,List.range,List.range.loop,Act.put,v0,v1,v2,v3];generalize v 4=u4 at *;clear v0 v1 v2 v3;obtain⟨g7,rfl,b7,l7⟩:=h4.get;clear h4;refine Txt.b5q a2u.row rfl rfl rfl b7 (by rfl) (by simpa using hA.out) (a3o _) ?_;intro wd b7 k7;simp [Act.put];replace b7:=hjd b7;have kk:=kc.a0r k7 l7;have N7:=hjd (show g2≠g7 from fun e=>by have:=B4.out.lt;omega);replace B4:=hjd (B4.out.kept kk (by simp));replace B5:=hjd (B5.out.kept kk (by simp));replace R6:=hjd (R6.out.a0k kk);replace KK:=hjd (KK.out.a0g kk);clear kc k7 l7 kk;have PP:=hjd (hp.out.a0k KK.out);go_wp2_with (first
  | ((with_reducible refine a0f 24 ?_);(refine a1a (o:=⟨some 24,_,_,_,_,_⟩) (v0:=.slice (some ⟨g,32,none⟩) 32 32) (cells:=#[.slice (some ⟨g,32,none⟩) 32 32]) rfl a4j rfl rfl (by simp) rfl rfl ?_);intro g24 w24 m24;have cw:=hjd (b5y (n:=1) [(.slice (some ⟨g,32,none⟩) 32 32,t)] PP.out (by simpa [ht.out]using R6.out) m24 rfl rfl hn2.out (by simp));have K24:=hjd m24.kept;clear m24)
  | (go_at_call 35;(with_reducible refine cw.out.mono ?_);rintro e w25 ⟨v25,rfl,p25,k25⟩;have P25:=hjd p25;have K25:=hjd (K24.out.a0g k25);clear p25 k25 cw)
  | (go_at_call 34;(with_reducible refine(cr.out _ _ _ P25.out).mono ?_);rintro e w26 ⟨rfl,k26⟩;replace K25:=hjd (K25.out.a0g k26);clear k26 P25)
  | ((with_reducible refine a0f 8 ?_);(refine a0h (o:=⟨some 8,_,_,_,_,_⟩) rfl rfl Z.a8s ?_);intro g8 w8 m8;refine a0a (o:=⟨none,Op.store 78 (.tmp 8) (.tmp 26),_,_,_,_⟩) Z.a1y rfl (.tmp 8) (.tmp 26) rfl rfl rfl m8.blk rfl rfl (a2e _) ?_;intro wb8 b8 k8;have kk:=K25.out.a0g (m8.kept.a0r k8 m8.le);have B8:=hjd b8;replace B4:=hjd (B4.out.kept kk (by simp));replace B5:=hjd (B5.out.kept kk (by simp));replace b7:=hjd (b7.out.kept kk (by simp));replace KK:=hjd (KK.out.a0g kk);clear m8 b8 k8 kk K25 R6 PP))
 refine Txt.a6j (by kernel_rfl) [Txt.isV b2.v,Txt.isV (Z.w4 r),Txt.isV (ab l1),Txt.isV p2.v,Txt.isV (ab RB),Txt.b0x wb8.heap.size 22 (ab (a0m 32)).cells] (fun u=>Kept [] wb8 u) (by kernel_rfl) rfl rfl (by kernel_rfl) ((Kept.refl [] wb8).drew) (fun u u' h k=>h.a0g k) ⟨?_,?_,?_,?_,?_,?_,trivial⟩ ?_
 ·exact Txt.b7q rfl a6t cb2.out
 ·exact Txt.a3u Z.a1y rfl rfl (by decide) B8.out rfl
 ·exact Txt.a4n (x:=28) (j:=1) rfl a6g rfl rfl rfl ⟨⟨1,.data⟩,by simp,rfl,rfl⟩ chr.out
 ·exact Txt.a9u (x:=27) (x2:=29) (j:=0) (j2:=2) rfl b6r rfl rfl rfl ⟨⟨0,.data⟩,by simp,rfl,rfl⟩ rfl rfl rfl ⟨⟨2,.data⟩,by simp,rfl,rfl⟩ cp2.out
 ·exact Txt.a4n (x:=30) (j:=3) rfl a9p rfl rfl rfl ⟨⟨3,.data⟩,by simp,rfl,rfl⟩ ch2.out
 ·exact Txt.b0j rfl a8l
 intro v wc kc hv;have v0:v 0=b2.v:=hv 0 _ rfl;have v1:v 1=Z.w4 r:=hv 1 _ rfl;have v2:v 2=ab l1:=hv 2 _ rfl;have v3:v 3=p2.v:=hv 3 _ rfl;have v4:v 4=ab RB:=hv 4 _ rfl;have h5:Txt.b0x wb8.heap.size 22 (ab (a0m 32)).cells (v 5) wc:=hv 5 _ rfl;clear hv;simp [Txt.a1f,List.range,List.range.loop,Act.put,v0,v1,v2,v3,v4];generalize v 5=u5 at *;clear v0 v1 v2 v3 v4;obtain⟨g9,rfl,b9,l9⟩:=h5.get;clear h5;refine Txt.b5q a2u.row rfl rfl rfl b9 (by rfl) (by simpa using hR.out) (a3o _) ?_;intro wd b9 k9;simp [Act.put];replace b9:=hjd b9;have kk:=kc.a0r k9 l9;replace B4:=hjd (B4.out.kept kk (by simp));replace B5:=hjd (B5.out.kept kk (by simp));replace b7:=hjd (b7.out.kept kk (by simp));replace B8:=hjd (B8.out.kept kk (by simp));replace KK:=hjd (KK.out.a0g kk);clear kc k9 l9 kk;have PP:=hjd (hp.out.a0k KK.out);have D7:=hjd (show Rd wd 1 (.slice (some ⟨g7,0,none⟩) 32 32) A.length (bv A)from by rw [hA.out];exact Blk.rd b7.out (by simp [hA.out]) (Nat.le_refl _));have D9:=hjd (show Rd wd 1 (.slice (some ⟨g9,0,none⟩) 32 32) RB.length (bv RB)from by rw [hR.out];exact Blk.rd b9.out (by simp [hR.out]) (Nat.le_refl _));go_wp2_with fail
 refine Txt.a6j (by kernel_rfl) [Txt.isV (.slice PA ps.length pc),Txt.isV (.slice (some ⟨g9,0,none⟩) 32 32),Txt.isV (.slice (some ⟨g7,0,none⟩) 32 32),d6e wd.heap.size (.slice (some ⟨g9,0,none⟩) 32 32) (.slice (some ⟨g7,0,none⟩) 32 32),b9y ((.slice (some ⟨g9,0,none⟩) 32 32,RB) :: (.slice (some ⟨g7,0,none⟩) 32 32,A) :: ps),Txt.isV (Z.w4 h),Txt.b0x wd.heap.size 78 (Z.w4 0).cells] (fun u=>Kept [] wd u) (by kernel_rfl) rfl rfl (by kernel_rfl) ((Kept.refl [] wd).drew) (fun u u' h k=>h.a0g k) ⟨?_,?_,?_,?_,?_,?_,?_,trivial⟩ ?_
 ·exact a4g (x:=1) rfl (by decide) fun a W hx=>a3h rfl W hx
 ·exact a4g (x:=9) rfl (by decide) fun a W hx=>b3n rfl W hx
 ·exact a4g (x:=7) rfl (by decide) fun a W hx=>b3n rfl W hx
 ·exact c6d (x:=33) (y:=34) (j:=1) (k:=2) rfl rfl rfl rfl rfl rfl ⟨⟨1,.data⟩,by simp,rfl,rfl⟩ rfl rfl rfl ⟨⟨2,.data⟩,by simp,rfl,rfl⟩
 ·refine Txt.a3v rfl b6h (fun v u u' h k=>Parts.a0k h k) fun a u hS hr _=>?_
  have e1:a.tmps.getD 32 undef= .slice PA ps.length pc:=hr 0 _ 32 _ rfl rfl rfl ⟨⟨0,.data⟩,by simp,rfl,rfl⟩;have e2:d6e wd.heap.size (.slice (some ⟨g9,0,none⟩) 32 32) (.slice (some ⟨g7,0,none⟩) 32 32) (a.tmps.getD 35 undef) u:=hr 3 _ 35 _ rfl rfl rfl ⟨⟨3,.data⟩,by simp,rfl,rfl⟩;obtain⟨g,h1,h2,h3⟩:=e2;have:Array.map a.eval #[.tmp 32,.tmp 35]= #[.slice PA ps.length pc,.slice (some ⟨g,0,none⟩) 2 2]:=by simp only [List.map_toArray,List.map_cons,List.map_nil,Act.eval,e1,h1]
  rw [this];refine(b5y (n:=2) [(.slice (some ⟨g9,0,none⟩) 32 32,RB),(.slice (some ⟨g7,0,none⟩) 32 32,A)] PP.out (by simpa using⟨D9.out,D7.out⟩) ⟨h2,hS,h3⟩ rfl rfl hn2.out (by simp)).mono ?_;rintro e u' ⟨v,rfl,hv,hk⟩;exact⟨v,rfl,hv,hk⟩
 ·refine Txt.a3v rfl b2f (fun _ _ _ h _=>h) fun a u hS hr _=>?_
  have e1:b9y ((.slice (some ⟨g9,0,none⟩) 32 32,RB) :: (.slice (some ⟨g7,0,none⟩) 32 32,A) :: ps) (a.tmps.getD 36 undef) u:=hr 4 _ 36 _ rfl rfl rfl ⟨⟨4,.data⟩,by simp,rfl,rfl⟩;have:Array.map a.eval #[.tmp 36]= #[a.tmps.getD 36 undef]:=by simp only [List.map_toArray,List.map_cons,List.map_nil,Act.eval]
  rw [this];refine(ch.out _ _ _ _ e1).mono ?_;rintro e u' ⟨rfl,hk⟩;exact⟨_,rfl,rfl,hk⟩
 ·exact Txt.b0j rfl Z.a8s
 intro v wc kc hv;have v0:v 0= .slice PA ps.length pc:=hv 0 _ rfl;have v1:v 1= .slice (some ⟨g9,0,none⟩) 32 32:=hv 1 _ rfl;have v2:v 2= .slice (some ⟨g7,0,none⟩) 32 32:=hv 2 _ rfl;have v5:v 5=Z.w4 h:=hv 5 _ rfl;have h6:Txt.b0x wd.heap.size 78 (Z.w4 0).cells (v 6) wc:=hv 6 _ rfl;clear hv;simp [Txt.a1f,List.range,List.range.loop,Act.put,v0,v1,v2,v5];generalize v 3=u33 at *;generalize v 4=u34 at *;generalize v 6=u6 at *;clear v0 v1 v2 v5;obtain⟨g10,rfl,b10,l10⟩:=h6.get;clear h6;refine Txt.b5q Z.a1y rfl rfl rfl b10 rfl rfl (a2e _) ?_;intro we b10 k10;simp [Act.put];replace b10:=hjd b10;have kk:=kc.a0r k10 l10;replace B4:=hjd (B4.out.kept kk (by simp));replace B5:=hjd (B5.out.kept kk (by simp));replace b9:=hjd (b9.out.kept kk (by simp));replace B8:=hjd (B8.out.kept kk (by simp));replace KK:=hjd (KK.out.a0g kk);clear kc k10 l10 kk PP D7 D9 b7;go_wp2_with fail;refine Txt.a6j (by kernel_rfl) [Txt.isV (Z.w4 r),Txt.isV (Z.w4 h),Txt.isV (ab n),Txt.isV (Z.w4 x),Txt.isV (Z.w4 y),Txt.isV (Z.w4 s),Txt.isV (ab SB),Txt.b0x we.heap.size 22 (ab (a0m 32)).cells] (fun u=>Kept [] we u) (by kernel_rfl) rfl rfl (by kernel_rfl) ((Kept.refl [] we).drew) (fun u u' h k=>h.a0g k) ⟨?_,?_,?_,?_,?_,?_,?_,?_,trivial⟩ ?_
 ·exact Txt.a3u Z.a1y rfl rfl (by decide) B8.out rfl
 ·exact Txt.a3u Z.a1y rfl rfl (by decide) b10.out rfl
 ·exact Txt.a3u a2u.row rfl rfl (by decide) B5.out (by simpa using hn.out)
 ·exact Txt.a4n (x:=40) (j:=2) rfl c0r rfl rfl rfl ⟨⟨2,.data⟩,by simp,rfl,rfl⟩ cmod.out
 ·exact Txt.a9u (x:=39) (x2:=41) (j:=1) (j2:=3) rfl c2z rfl rfl rfl ⟨⟨1,.data⟩,by simp,rfl,rfl⟩ rfl rfl rfl ⟨⟨3,.data⟩,by simp,rfl,rfl⟩ cmul.out
 ·exact Txt.a9u (x:=38) (x2:=42) (j:=0) (j2:=4) rfl c3e rfl rfl rfl ⟨⟨0,.data⟩,by simp,rfl,rfl⟩ rfl rfl rfl ⟨⟨4,.data⟩,by simp,rfl,rfl⟩ cadd.out
 ·exact Txt.a4n (x:=43) (j:=5) rfl a6g rfl rfl rfl ⟨⟨5,.data⟩,by simp,rfl,rfl⟩ chs.out
 ·exact Txt.b0j rfl a8l
 intro v wc kc hv;have v0:v 0=Z.w4 r:=hv 0 _ rfl;have v1:v 1=Z.w4 h:=hv 1 _ rfl;have v2:v 2=ab n:=hv 2 _ rfl;have v3:v 3=Z.w4 x:=hv 3 _ rfl;have v4:v 4=Z.w4 y:=hv 4 _ rfl;have v5:v 5=Z.w4 s:=hv 5 _ rfl;have v6:v 6=ab SB:=hv 6 _ rfl;have h7:Txt.b0x we.heap.size 22 (ab (a0m 32)).cells (v 7) wc:=hv 7 _ rfl;clear hv;simp [Txt.a1f,List.range,List.range.loop,Act.put,v0,v1,v2,v3,v4,v5,v6];generalize v 7=u7 at *;clear v0 v1 v2 v3 v4 v5 v6;obtain⟨g11,rfl,b11,l11⟩:=h7.get;clear h7;refine Txt.b5q a2u.row rfl rfl rfl b11 (by rfl) (by simpa using hS.out) (a3o _) ?_;intro wf b11 k11;simp [Act.put];replace b11:=hjd b11;have kk:=kc.a0r k11 l11;replace B4:=hjd (B4.out.kept kk (by simp));replace b9:=hjd (b9.out.kept kk (by simp));replace KK:=hjd (KK.out.a0g kk);clear kc k11 l11 kk B5 B8 b10;go_wp2_with ((refine a0h (o:=⟨some 12,_,_,_,_,_⟩) rfl rfl d4q ?_);intro g12 wg m12);have hz:=hjd (show(bv RB).length=32 by simp [hR.out]);have hz2:=hjd (show(bv SB).length=32 by simp [hS.out]);have b12:=m12.blk;have D9:=hjd (show Rd wg 1 (.slice (some ⟨g9,0,none⟩) 32 32) 32 (bv RB)from Blk.rd (b9.out.kept m12.kept (by simp)) hz.out (Nat.le_refl _));have M12:=hjd m12;clear m12;refine Txt.a2g (by kernel_rfl) (by kernel_rfl) ?_;go_wp2_with (refine b6b a1x rfl (.tmp 45) (.tmp 46) rfl rfl b12.drew (Nat.le_of_eq rfl) rfl D9.out.drew (a2x _) ?_;intro wh b13 k13;clear b12);have e1:(a5y (ab (a0m 64)).cells.toList 0 (List.take 64 (bv RB))).toArray=(bv (a5y (a0m 64) 0 RB)).toArray:=by
  rw [List.take_of_length_le (by rw [hz.out];omega)];exact congrArg _ (b6n (a0m 64) _ 0)
 rw [e1]at b13;refine⟨rfl,by kernel_rfl,?_⟩;clear e1;have N11:=hjd (M12.out.ne b11.out.lt);have N4:=hjd (M12.out.ne B4.out.lt);have K13:=hjd k13.a1r;have B13:=hjd b13;replace b11:=hjd ((b11.out.kept M12.out.kept (by simp)).kept K13.out (by simpa using N11.out));replace B4:=hjd ((B4.out.kept M12.out.kept (by simp)).kept K13.out (by simpa using N4.out));have L12:=hjd (Nat.le_trans KK.out.size M12.out.le);replace KK:=hjd ((KK.out.a0g M12.out.kept).a0r K13.out L12.out);clear b13 k13 K13 M12 D9 b9;go_wp2_with fail;have hz3:=hjd (show(a5y (a0m 64) 0 RB).length=64 by rw [a8f _ _ _ (by simp [hR.out])];simp);have D11:=hjd (show Rd _ 1 (.slice (some ⟨g11,0,none⟩) 32 32) 32 (bv SB)from Blk.rd b11.out hz2.out (Nat.le_refl _));refine Txt.a2g (by kernel_rfl) (by kernel_rfl) ?_;go_wp2_with (refine b6b a1x rfl (.tmp 48) (.tmp 49) rfl rfl B13.out.drew (by simp [hz3.out]) rfl D11.out.drew (a2x _) ?_;intro wi b14 k14);have e2:(a5y (bv (a5y (a0m 64) 0 RB)).toArray.toList 32 (List.take 32 (bv SB))).toArray=(bv (RB ++ SB)).toArray:=by
  rw [List.take_of_length_le (by rw [hz2.out];omega)];show(a5y (bv (a5y (a0m 64) 0 RB)) 32 (bv SB)).toArray=_;rw [b6n,e5o];unfold a5y;have h1:(a0m 64).drop RB.length=a0m 32:=by rw [hR.out];rfl
  have h2:(RB ++ a0m 32).take 32=RB:=by rw [←hR.out];simp
  have h3:(RB ++ a0m 32).drop (32 + SB.length)= []:=by rw [hS.out];simp [hR.out]
  rw [h1,h2,h3,List.append_nil]
 rw [e2]at b14;refine⟨rfl,by kernel_rfl,?_⟩;clear e2;have K14:=hjd k14.a1r;have B14:=hjd b14;replace B4:=hjd (B4.out.kept K14.out (by simpa using N4.out));replace KK:=hjd (KK.out.a0r K14.out L12.out);have hzz:=hjd (show(RB ++ SB).length=64 by simp [hR.out,hS.out]);obtain⟨OUT,hO⟩:∃O,O=RB ++ SB:=⟨_,rfl⟩;rw [←hO]at B14 hzz;replace hO:=hjd hO;clear b14 k14 K14 b11 D11 hz hz2 hz3;go_wp2_with (first
  | refine a0d (cs:=(bv OUT).toArray) (o:=⟨some 51,_,_,_,_,_⟩) Q.b7e rfl (.tmp 12) rfl rfl B14.out (by simpa using hzz.out) ?_
  | ((refine a0a (cs:=(bv OUT).toArray) (o:=⟨none,Op.store 32 (.tmp 4) (.tmp 51),_,_,_,_⟩) Q.b7e rfl (.tmp 4) (.tmp 51) rfl rfl rfl B4.out (by rfl) (by simpa using hzz.out) (a3o _) ?_);intro wz bz kz))
 exact a1m Q.b7e rfl rfl bz (by simpa using hzz.out) rfl ⟨by rw [hO.out],KK.out.a0r kz L4.out⟩
theorem d8r(bs:List UInt8)(hl:bs.length=32)(pv:Value)(ps:List (Value × List UInt8))(m:List UInt8)(w:World)(hp:Parts w pv ps)(hj:a0z ps=m)(hn:ps.length≤1000000000)(hm:m.length≤140737488352000) :
 Calls Tryz.prog 10 #[ab bs,pv] w fun e w'=>e= .returned (ab (a9c bs m))∧Kept [] w w':=by
 obtain⟨b,p1,cb,cp1,ch1⟩:=e5e (b2g bs);obtain⟨b2,p2,cb2,cp2,ch2⟩:=e5e (a0x (rS bs m) 32);have hd:((Q.sha bs).drop 32).length=32:=by simp [Q.b3g]
 have hAl:=b1y (b6l bs);have hRl:(RS bs m).length=32:=b1y _;refine d3b hl (b2g bs) hAl hRl (a0x (sS bs m) 32) (a0x _ _) hd pv ps w hp hn (fun u=>b8a bs hl u) cb cp1 ch1 (r:=rS bs m) (h:=hS bs m) (x:=Z.leV (b6l bs) % Z.LL) (y:=hS bs m * (Z.leV (b6l bs) % Z.LL) % Z.LL) (s:=sS bs m) ?_ (fun u=>Z.b2u _ u) cb2 cp2 ch2 ?_ (fun u=>Z.c9q _ (b2g bs) u) (fun u=>Z.c4k _ _ (Nat.lt_trans (c5d _) Z.e7d) (Nat.lt_trans (Nat.mod_lt _ Z.c7d) Z.e7d) u) (fun u=>Z.e7f _ _ (c5d _) (Nat.mod_lt _ Z.c7d) u) (fun u=>Z.b2u _ u)
 ·intro u v z hz;exact e5v v _ _ u hz (by rw [←hj];rfl) (by simp;omega) (by simp [hd];omega)
 ·intro u v z1 z2 hz;exact e5v v _ _ u hz (by rw [←hj];rfl) (by simp;omega) (by simp [hAl,hRl];omega)
end Go.Proofs.YtdbngnlpafcogaaGreat
namespace Go.Proofs.YtdbngnlpafcogaaGreat
open Go.RowKit Go.Mem Go.Txt
theorem e4b{w:World}{g:Nat}{bt:TypeId}{s:List UInt8}(hb:Blk w g bt (bv s).toArray)(h:s.length=64):Rd w 1 (.slice (some ⟨g,0,none⟩) 32 64) 32 (bv (s.take 32)):=
 ⟨_,_,rfl,by simp [h],by decide,fun _=>⟨g,0,rfl,fun j u hu=>by
  rw [hb.cell,Nat.zero_add];rw [bv,List.map_take,List.getElem?_take]at hu;split at hu
  ·simpa [bv]using hu
  ·cases hu⟩⟩
theorem c3s{w:World}{g:Nat}{bt:TypeId}{s:List UInt8}(hb:Blk w g bt (bv s).toArray)(h:s.length=64):w.rangeAt g 32 (bv (s.drop 32)):=by
 refine Blk.range (bt:=bt) (pre:=bv (s.take 32)) (post:=[]) ?_ (by simp [h]);have e:bv (s.take 32) ++ (bv (s.drop 32) ++ [])=bv s:=by
  rw [List.append_nil,bv,bv,←List.map_append,List.take_append_drop]
 rw [e];exact hb
theorem b9d(g:Nat)(W:World):(Instr.arrayAt 22 (.slice (some ⟨g,32,none⟩) 32 32)).run Tryz.prog W= .ok (.pointer (some ⟨g,32,none⟩)) W:=by kernel_rfl
theorem b8j{a:Act}{o:Oper}{x g:Nat}(ho:o.op= .slice 32 (.tmp x) none (some (.const (.int .i64 32))) none)(W:World)(hx:a.tmps.getD x undef= .pointer (some ⟨g,0,none⟩)):(execOp a.eval o).run Tryz.prog W= .ok (.value (.slice (some ⟨g,0,none⟩) 32 64)) W:=by
 unfold execOp;simp only [ho,Sem.run_bind,Act.eval,hx]
 kernel_rfl
theorem d8d{a:Act}{o:Oper}{x g:Nat}(ho:o.op= .sliceToArrayPointer 22 (.tmp x))(W:World)(hx:a.tmps.getD x undef= .slice (some ⟨g,0,none⟩) 32 64):(execOp a.eval o).run Tryz.prog W= .ok (.value (.pointer (some ⟨g,0,none⟩))) W:=by
 unfold execOp;simp only [ho,Sem.run_bind,Act.eval,hx]
 kernel_rfl
section
variable {l:List Oper} {vs:List Rel} {a0:Act} {w0:World} {o:Oper}
theorem c5o{v:Value}(hc:∀(a:Act) w,Kept [] w0 w→(∀(j:Nat) (r':Rel) d oj,vs[j]?=some r'→l[j]?=some oj→oj.dst=some d→a1w o j→r' (a.tmps.getD d undef) w)→(∀t,(∀x∈l,x.dst≠some t)→a.tmps.getD t undef=a0.tmps.getD t undef)→
 (execOp a.eval o).run Tryz.prog w= .ok (.value v) w):a8p Tryz.prog l vs (fun u=>Kept [] w0 u) a0 o (isV v):=
 ⟨fun _ _ _ h _=>h,fun a w _ _ hS hr hoth h=>a4o (hc a w hS hr hoth) (h _ _ (Kept.refl _ _) rfl)⟩
theorem c9r{f:FuncId}{ats:Array TypeId}{v u u2 u3:Value}{x j x2 j2 x3 j3:Nat}{oj oj2 oj3:Oper}(ho:o.op= .call {callee:=.value (.func f),args:=#[.tmp x,.tmp x2,.tmp x3],argTypes:=ats})
 (hen:∀(xs:Array Value) w,(callFunc f xs).run Tryz.prog w= .ok (.enter f xs) w) (hj:vs[j]?=some (isV u)) (hl:l[j]?=some oj) (hd:oj.dst=some x) (hb:a1w o j) (hj2:vs[j2]?=some (isV u2)) (hl2:l[j2]?=some oj2) (hd2:oj2.dst=some x2) (hb2:a1w o j2) (hj3:vs[j3]?=some (isV u3)) (hl3:l[j3]?=some oj3) (hd3:oj3.dst=some x3) (hb3:a1w o j3)
 (hc:∀w,Calls Tryz.prog f #[u,u2,u3] w fun e w'=>e= .returned v∧Kept [] w w'):a8p Tryz.prog l vs (fun u=>Kept [] w0 u) a0 o (isV v):=
 a3v ho hen (fun _ _ _ h _=>h) fun a w _ hr _=>by
  have e:a.tmps.getD x undef=u:=hr j _ x oj hj hl hd hb;have e2:a.tmps.getD x2 undef=u2:=hr j2 _ x2 oj2 hj2 hl2 hd2 hb2;have e3:a.tmps.getD x3 undef=u3:=hr j3 _ x3 oj3 hj3 hl3 hd3 hb3;have:Array.map a.eval #[.tmp x,.tmp x2,.tmp x3]= #[u,u2,u3]:=by simp only [List.map_toArray,List.map_cons,List.map_nil,Act.eval,e,e2,e3]
  rw [this];exact(hc w).mono (by rintro e w' ⟨rfl,hk⟩;exact⟨_,rfl,rfl,hk⟩)
end
theorem c5c(xs:Array Value)(w:World):(callFunc 51 xs).run Tryz.prog w= .ok (.enter 51 xs) w:=enters_of (c:=_) Tryz.func51 (by kernel_rfl) rfl xs w
set_option maxHeartbeats 3200000 in
theorem ver_no{key SG:List UInt8}{p:P4}(hk:key.length=32)(pv:Value)(w:World)(cd:DsC key p 50) :
 Calls Tryz.prog 13 #[ab key,ab SG,pv] w fun e w'=>e= .returned (.bool false)∧Kept [] w w':=by
 replace hk:=hjd hk;replace cd:=hjd cd;go_enter Tryz.func13,Tryz.ntmps13;go_wp2_with (first
  | ((with_reducible refine a0f 3 ?_);(refine a0q (o:=⟨some 3,_,_,_,_,_⟩) (v:=ab key) rfl (.tmp 0) rfl rfl ?_);intro g3 w1 m1;have B3:=hjd m1.blk;have KK:=hjd m1.kept;clear m1)
  | ((with_reducible refine a0f 4 ?_);(refine a0q (o:=⟨some 4,_,_,_,_,_⟩) (v:=ab SG) rfl (.tmp 1) rfl rfl ?_);intro g4 w2 m2;have B4:=hjd m2.blk;replace B3:=hjd (B3.out.kept m2.kept (by simp));replace KK:=hjd (KK.out.a0g m2.kept);clear m2)
  | ((with_reducible refine a0f 14 ?_);refine a0d (cs:=(bv key).toArray) (o:=⟨some 14,_,_,_,_,_⟩) a2u.row rfl (.tmp 3) rfl rfl B3.out (by simpa using hk.out) ?_)
  | (go_at_call 48;(with_reducible refine(cd.out _).mono ?_);rintro e w3 ⟨rfl,k3⟩;replace B3:=hjd (B3.out.kept k3 (by simp));replace B4:=hjd (B4.out.kept k3 (by simp));replace KK:=hjd (KK.out.a0g k3);clear k3)
  | ((with_reducible refine a0f 7 ?_);(refine a0h (o:=⟨some 7,_,_,_,_,_⟩) rfl rfl a4e ?_);intro g7 w7 m7;refine a0a (o:=⟨none,Op.store 72 (.tmp 7) (.tmp 16),_,_,_,_⟩) a0l rfl (.tmp 7) (.tmp 16) rfl rfl rfl m7.blk pz.size (P4.size _) (P4.one _) ?_;intro wb7 b7 k7;have kk:=m7.kept.a0r k7 m7.le;have B7:=hjd b7;replace B3:=hjd (B3.out.kept kk (by simp));replace B4:=hjd (B4.out.kept kk (by simp));replace KK:=hjd (KK.out.a0g kk);clear m7 b7 k7 kk))
 go_ret;exact⟨rfl,KK.out⟩
set_option maxHeartbeats 3200000 in
theorem d5o{key SG TB:List UInt8}{p:P4}(hk:key.length=32)(hg:SG.length=64)(eT:SG.drop 32=TB)(pv:Value)(w:World)(cd:DsC key p 0)(cs:SaC p true) :
 Calls Tryz.prog 13 #[ab key,ab SG,pv] w fun e w'=>e= .returned (.bool false)∧Kept [] w w':=by
 replace hk:=hjd hk;replace hg:=hjd hg;replace eT:=hjd eT;replace cd:=hjd cd;replace cs:=hjd cs;go_enter Tryz.func13,Tryz.ntmps13;go_wp2_with (first
  | ((with_reducible refine a0f 3 ?_);(refine a0q (o:=⟨some 3,_,_,_,_,_⟩) (v:=ab key) rfl (.tmp 0) rfl rfl ?_);intro g3 w1 m1;have B3:=hjd m1.blk;have KK:=hjd m1.kept;clear m1)
  | ((with_reducible refine a0f 4 ?_);(refine a0q (o:=⟨some 4,_,_,_,_,_⟩) (v:=ab SG) rfl (.tmp 1) rfl rfl ?_);intro g4 w2 m2;have B4:=hjd m2.blk;replace B3:=hjd (B3.out.kept m2.kept (by simp));replace KK:=hjd (KK.out.a0g m2.kept);clear m2)
  | ((with_reducible refine a0f 14 ?_);refine a0d (cs:=(bv key).toArray) (o:=⟨some 14,_,_,_,_,_⟩) a2u.row rfl (.tmp 3) rfl rfl B3.out (by simpa using hk.out) ?_)
  | (go_at_call 48;(with_reducible refine(cd.out _).mono ?_);rintro e w3 ⟨rfl,k3⟩;replace B3:=hjd (B3.out.kept k3 (by simp));replace B4:=hjd (B4.out.kept k3 (by simp));replace KK:=hjd (KK.out.a0g k3);clear k3)
  | ((with_reducible refine a0f 7 ?_);(refine a0h (o:=⟨some 7,_,_,_,_,_⟩) rfl rfl a4e ?_);intro g7 w7 m7;refine a0a (o:=⟨none,Op.store 72 (.tmp 7) (.tmp 16),_,_,_,_⟩) a0l rfl (.tmp 7) (.tmp 16) rfl rfl rfl m7.blk pz.size (P4.size _) (P4.one _) ?_;intro wb7 b7 k7;have kk:=m7.kept.a0r k7 m7.le;have B7:=hjd b7;replace B3:=hjd (B3.out.kept kk (by simp));replace B4:=hjd (B4.out.kept kk (by simp));replace KK:=hjd (KK.out.a0g kk);clear m7 b7 k7 kk)
  | ((with_reducible refine a0f 21 ?_);refine a0d (o:=⟨some 21,_,_,_,_,_⟩) a0l rfl (.tmp 7) rfl rfl B7.out (P4.size _) ?_)
  | (go_at_call 49;(with_reducible refine(cs.out _).mono ?_);rintro e w8 ⟨rfl,k8⟩;replace B3:=hjd (B3.out.kept k8 (by simp));replace B4:=hjd (B4.out.kept k8 (by simp));replace B7:=hjd (B7.out.kept k8 (by simp));replace KK:=hjd (KK.out.a0g k8);have hat:=b9d g4;have htl:=hjd (c3s B4.out hg.out);rw [eT.out]at htl;clear k8))
 go_ret;exact⟨rfl,KK.out⟩
set_option maxHeartbeats 3200000 in
theorem e7n{key SG TB:List UInt8}{p:P4}{s:Nat}(hk:key.length=32)(hg:SG.length=64)(eT:SG.drop 32=TB)(hT:TB.length=32)(pv:Value)(w:World)(cd:DsC key p 0)(cs:SaC p false)
 (cnw:∀u,Calls Tryz.prog 50 #[ab TB] u fun e w'=>e= .returned (.tuple #[Z.w4 s,.bool false])∧Kept [] u w') :
 Calls Tryz.prog 13 #[ab key,ab SG,pv] w fun e w'=>e= .returned (.bool false)∧Kept [] w w':=by
 replace hk:=hjd hk;replace hg:=hjd hg;replace eT:=hjd eT;replace hT:=hjd hT;replace cd:=hjd cd;replace cs:=hjd cs;replace cnw:=hjd cnw;go_enter Tryz.func13,Tryz.ntmps13;go_wp2_with (first
  | ((with_reducible refine a0f 3 ?_);(refine a0q (o:=⟨some 3,_,_,_,_,_⟩) (v:=ab key) rfl (.tmp 0) rfl rfl ?_);intro g3 w1 m1;have B3:=hjd m1.blk;have KK:=hjd m1.kept;clear m1)
  | ((with_reducible refine a0f 4 ?_);(refine a0q (o:=⟨some 4,_,_,_,_,_⟩) (v:=ab SG) rfl (.tmp 1) rfl rfl ?_);intro g4 w2 m2;have B4:=hjd m2.blk;replace B3:=hjd (B3.out.kept m2.kept (by simp));replace KK:=hjd (KK.out.a0g m2.kept);clear m2)
  | ((with_reducible refine a0f 14 ?_);refine a0d (cs:=(bv key).toArray) (o:=⟨some 14,_,_,_,_,_⟩) a2u.row rfl (.tmp 3) rfl rfl B3.out (by simpa using hk.out) ?_)
  | (go_at_call 48;(with_reducible refine(cd.out _).mono ?_);rintro e w3 ⟨rfl,k3⟩;replace B3:=hjd (B3.out.kept k3 (by simp));replace B4:=hjd (B4.out.kept k3 (by simp));replace KK:=hjd (KK.out.a0g k3);clear k3)
  | ((with_reducible refine a0f 7 ?_);(refine a0h (o:=⟨some 7,_,_,_,_,_⟩) rfl rfl a4e ?_);intro g7 w7 m7;refine a0a (o:=⟨none,Op.store 72 (.tmp 7) (.tmp 16),_,_,_,_⟩) a0l rfl (.tmp 7) (.tmp 16) rfl rfl rfl m7.blk pz.size (P4.size _) (P4.one _) ?_;intro wb7 b7 k7;have kk:=m7.kept.a0r k7 m7.le;have B7:=hjd b7;replace B3:=hjd (B3.out.kept kk (by simp));replace B4:=hjd (B4.out.kept kk (by simp));replace KK:=hjd (KK.out.a0g kk);clear m7 b7 k7 kk)
  | ((with_reducible refine a0f 21 ?_);refine a0d (o:=⟨some 21,_,_,_,_,_⟩) a0l rfl (.tmp 7) rfl rfl B7.out (P4.size _) ?_)
  | (go_at_call 49;(with_reducible refine(cs.out _).mono ?_);rintro e w8 ⟨rfl,k8⟩;replace B3:=hjd (B3.out.kept k8 (by simp));replace B4:=hjd (B4.out.kept k8 (by simp));replace B7:=hjd (B7.out.kept k8 (by simp));replace KK:=hjd (KK.out.a0g k8);have hat:=b9d g4;have htl:=hjd (c3s B4.out hg.out);rw [eT.out]at htl;clear k8)
  | ((with_reducible refine a0f 27 ?_);refine a1i (o:=⟨some 27,_,_,_,_,_⟩) (cs:=bv TB) a2u.row rfl (.tmp 26) rfl rfl htl.out (by simpa using hT.out) ?_)
  | (go_at_call 50;(with_reducible refine(cnw.out _).mono ?_);rintro e w9 ⟨rfl,k9⟩;replace B3:=hjd (B3.out.kept k9 (by simp));replace B4:=hjd (B4.out.kept k9 (by simp));replace B7:=hjd (B7.out.kept k9 (by simp));replace KK:=hjd (KK.out.a0g k9);clear k9)
  | ((with_reducible refine a0f 9 ?_);(refine a0h (o:=⟨some 9,_,_,_,_,_⟩) rfl rfl Z.a8s ?_);intro g9 w10 m9;refine a0a (o:=⟨none,Op.store 78 (.tmp 9) (.tmp 29),_,_,_,_⟩) Z.a1y rfl (.tmp 9) (.tmp 29) rfl rfl rfl m9.blk rfl rfl (a2e _) ?_;intro wb9 b9 k9;have kk:=m9.kept.a0r k9 m9.le;have B9:=hjd b9;replace B3:=hjd (B3.out.kept kk (by simp));replace B4:=hjd (B4.out.kept kk (by simp));replace B7:=hjd (B7.out.kept kk (by simp));replace KK:=hjd (KK.out.a0g kk);clear m9 b9 k9 kk hat htl))
 go_ret;exact⟨rfl,KK.out⟩
set_option maxHeartbeats 3200000 in
theorem e0l{key SG RB TB SB KB l:List UInt8}{p q r:P4}{b:Bool}{s h:Nat}(hk:key.length=32)(hg:SG.length=64)(eR:SG.take 32=RB)(eT:SG.drop 32=TB)(hR:RB.length=32)(hT:TB.length=32)(hl:l.length=32)
 (pv:Value) (ps:List (Value × List UInt8)) (w:World) (hp:Parts w pv ps) (hn2:ps.length≤1000000000) (cd:DsC key p 0) (cs:SaC p false)
 (cnw:∀u,Calls Tryz.prog 50 #[ab TB] u fun e w'=>e= .returned (.tuple #[Z.w4 s,.bool true])∧Kept [] u w')
 (ch:∀u v z1 z2,Parts u v ((z1,RB) :: (z2,key) :: ps)→Calls Tryz.prog 34 #[v] u fun e w'=>e= .returned (Z.w4 h)∧Kept [] u w')
 (chs:∀u,Calls Tryz.prog 36 #[Z.w4 s] u fun e w'=>e= .returned (ab SB)∧Kept [] u w')
 (chk:∀u,Calls Tryz.prog 36 #[Z.w4 h] u fun e w'=>e= .returned (ab KB)∧Kept [] u w')
 (cng:NgC p q) (cbo:BosC SB q KB r) (chr:HsC r l) (hb:(l == RB)=b) :
 Calls Tryz.prog 13 #[ab key,ab SG,pv] w fun e w'=>e= .returned (.bool b)∧Kept [] w w':=by
 have q51:=d5w hb hl hR;replace hk:=hjd hk;replace hg:=hjd hg;replace eR:=hjd eR;replace eT:=hjd eT;replace hR:=hjd hR;replace hT:=hjd hT;replace hl:=hjd hl;replace hp:=hjd hp;replace hn2:=hjd hn2;replace cd:=hjd cd;replace cs:=hjd cs;replace cnw:=hjd cnw;replace ch:=hjd ch;replace chs:=hjd chs;replace chk:=hjd chk;replace cng:=hjd cng;replace cbo:=hjd cbo;replace chr:=hjd chr;replace hb:=hjd hb;obtain⟨PA,pc,e0,_,_,_⟩:=hp.out.outer;subst e0;go_enter Tryz.func13,Tryz.ntmps13;go_wp2_with (first
  | ((with_reducible refine a0f 3 ?_);(refine a0q (o:=⟨some 3,_,_,_,_,_⟩) (v:=ab key) rfl (.tmp 0) rfl rfl ?_);intro g3 w1 m1;have B3:=hjd m1.blk;have KK:=hjd m1.kept;clear m1)
  | ((with_reducible refine a0f 4 ?_);(refine a0q (o:=⟨some 4,_,_,_,_,_⟩) (v:=ab SG) rfl (.tmp 1) rfl rfl ?_);intro g4 w2 m2;have B4:=hjd m2.blk;replace B3:=hjd (B3.out.kept m2.kept (by simp));replace KK:=hjd (KK.out.a0g m2.kept);clear m2)
  | ((with_reducible refine a0f 14 ?_);refine a0d (cs:=(bv key).toArray) (o:=⟨some 14,_,_,_,_,_⟩) a2u.row rfl (.tmp 3) rfl rfl B3.out (by simpa using hk.out) ?_)
  | (go_at_call 48;(with_reducible refine(cd.out _).mono ?_);rintro e w3 ⟨rfl,k3⟩;replace B3:=hjd (B3.out.kept k3 (by simp));replace B4:=hjd (B4.out.kept k3 (by simp));replace KK:=hjd (KK.out.a0g k3);clear k3)
  | ((with_reducible refine a0f 7 ?_);(refine a0h (o:=⟨some 7,_,_,_,_,_⟩) rfl rfl a4e ?_);intro g7 w7 m7;refine a0a (o:=⟨none,Op.store 72 (.tmp 7) (.tmp 16),_,_,_,_⟩) a0l rfl (.tmp 7) (.tmp 16) rfl rfl rfl m7.blk pz.size (P4.size _) (P4.one _) ?_;intro wb7 b7 k7;have kk:=m7.kept.a0r k7 m7.le;have B7:=hjd b7;replace B3:=hjd (B3.out.kept kk (by simp));replace B4:=hjd (B4.out.kept kk (by simp));replace KK:=hjd (KK.out.a0g kk);clear m7 b7 k7 kk)
  | ((with_reducible refine a0f 21 ?_);refine a0d (o:=⟨some 21,_,_,_,_,_⟩) a0l rfl (.tmp 7) rfl rfl B7.out (P4.size _) ?_)
  | (go_at_call 49;(with_reducible refine(cs.out _).mono ?_);rintro e w8 ⟨rfl,k8⟩;replace B3:=hjd (B3.out.kept k8 (by simp));replace B4:=hjd (B4.out.kept k8 (by simp));replace B7:=hjd (B7.out.kept k8 (by simp));replace KK:=hjd (KK.out.a0g k8);have hat:=b9d g4;have htl:=hjd (c3s B4.out hg.out);rw [eT.out]at htl;clear k8)
  | ((with_reducible refine a0f 27 ?_);refine a1i (o:=⟨some 27,_,_,_,_,_⟩) (cs:=bv TB) a2u.row rfl (.tmp 26) rfl rfl htl.out (by simpa using hT.out) ?_)
  | (go_at_call 50;(with_reducible refine(cnw.out _).mono ?_);rintro e w9 ⟨rfl,k9⟩;replace B3:=hjd (B3.out.kept k9 (by simp));replace B4:=hjd (B4.out.kept k9 (by simp));replace B7:=hjd (B7.out.kept k9 (by simp));replace KK:=hjd (KK.out.a0g k9);clear k9)
  | ((with_reducible refine a0f 9 ?_);(refine a0h (o:=⟨some 9,_,_,_,_,_⟩) rfl rfl Z.a8s ?_);intro g9 w10 m9;refine a0a (o:=⟨none,Op.store 78 (.tmp 9) (.tmp 29),_,_,_,_⟩) Z.a1y rfl (.tmp 9) (.tmp 29) rfl rfl rfl m9.blk rfl rfl (a2e _) ?_;intro wb9 b9 k9;have kk:=m9.kept.a0r k9 m9.le;have B9:=hjd b9;replace B3:=hjd (B3.out.kept kk (by simp));replace B4:=hjd (B4.out.kept kk (by simp));replace B7:=hjd (B7.out.kept kk (by simp));replace KK:=hjd (KK.out.a0g kk);clear m9 b9 k9 kk hat htl))
 have PP:=hjd (hp.out.a0k KK.out);have D3:=hjd (show Rd wb9 1 (.slice (some ⟨g3,0,none⟩) 32 32) key.length (bv key)from by rw [hk.out];exact Blk.rd B3.out (by simp [hk.out]) (Nat.le_refl _));have D4:=hjd (show Rd wb9 1 (.slice (some ⟨g4,0,none⟩) 32 64) RB.length (bv RB)from by rw [hR.out,←eR.out];exact e4b B4.out hg.out);refine Txt.a6j (by kernel_rfl) [Txt.isV (.slice PA ps.length pc),Txt.isV (.slice (some ⟨g4,0,none⟩) 32 64),Txt.isV (.slice (some ⟨g3,0,none⟩) 32 32),d6e wb9.heap.size (.slice (some ⟨g4,0,none⟩) 32 64) (.slice (some ⟨g3,0,none⟩) 32 32),b9y ((.slice (some ⟨g4,0,none⟩) 32 64,RB) :: (.slice (some ⟨g3,0,none⟩) 32 32,key) :: ps),Txt.isV (Z.w4 h),Txt.b0x wb9.heap.size 78 (Z.w4 0).cells] (fun u=>Kept [] wb9 u) (by kernel_rfl) rfl rfl (by kernel_rfl) ((Kept.refl [] wb9).drew) (fun u u' h k=>h.a0g k) ⟨?_,?_,?_,?_,?_,?_,?_,trivial⟩ ?_
 ·exact a4g (x:=2) rfl (by decide) fun a W hx=>a3h rfl W hx
 ·exact a4g (x:=4) rfl (by decide) fun a W hx=>b8j rfl W hx
 ·exact a4g (x:=3) rfl (by decide) fun a W hx=>b3n rfl W hx
 ·exact c6d (x:=34) (y:=35) (j:=1) (k:=2) rfl rfl rfl rfl rfl rfl ⟨⟨1,.data⟩,by simp,rfl,rfl⟩ rfl rfl rfl ⟨⟨2,.data⟩,by simp,rfl,rfl⟩
 ·refine Txt.a3v rfl b6h (fun v u u' h k=>Parts.a0k h k) fun a u hS hr _=>?_
  have e1:a.tmps.getD 33 undef= .slice PA ps.length pc:=hr 0 _ 33 _ rfl rfl rfl ⟨⟨0,.data⟩,by simp,rfl,rfl⟩;have e2:d6e wb9.heap.size (.slice (some ⟨g4,0,none⟩) 32 64) (.slice (some ⟨g3,0,none⟩) 32 32) (a.tmps.getD 36 undef) u:=hr 3 _ 36 _ rfl rfl rfl ⟨⟨3,.data⟩,by simp,rfl,rfl⟩;obtain⟨g,h1,h2,h3⟩:=e2;have:Array.map a.eval #[.tmp 33,.tmp 36]= #[.slice PA ps.length pc,.slice (some ⟨g,0,none⟩) 2 2]:=by simp only [List.map_toArray,List.map_cons,List.map_nil,Act.eval,e1,h1]
  rw [this];refine(b5y (n:=2) [(.slice (some ⟨g4,0,none⟩) 32 64,RB),(.slice (some ⟨g3,0,none⟩) 32 32,key)] PP.out (by simpa using⟨D4.out,D3.out⟩) ⟨h2,hS,h3⟩ rfl rfl hn2.out (by simp)).mono ?_;rintro e u' ⟨v,rfl,hv,hk⟩;exact⟨v,rfl,hv,hk⟩
 ·refine Txt.a3v rfl b2f (fun _ _ _ h _=>h) fun a u hS hr _=>?_
  have e1:b9y ((.slice (some ⟨g4,0,none⟩) 32 64,RB) :: (.slice (some ⟨g3,0,none⟩) 32 32,key) :: ps) (a.tmps.getD 37 undef) u:=hr 4 _ 37 _ rfl rfl rfl ⟨⟨4,.data⟩,by simp,rfl,rfl⟩;have:Array.map a.eval #[.tmp 37]= #[a.tmps.getD 37 undef]:=by simp only [List.map_toArray,List.map_cons,List.map_nil,Act.eval]
  rw [this];refine(ch.out _ _ _ _ e1).mono ?_;rintro e u' ⟨rfl,hk⟩;exact⟨_,rfl,rfl,hk⟩
 ·exact Txt.b0j rfl Z.a8s
 intro v wc kc hv;have v0:v 0= .slice PA ps.length pc:=hv 0 _ rfl;have v1:v 1= .slice (some ⟨g4,0,none⟩) 32 64:=hv 1 _ rfl;have v2:v 2= .slice (some ⟨g3,0,none⟩) 32 32:=hv 2 _ rfl;have v5:v 5=Z.w4 h:=hv 5 _ rfl;have h6:Txt.b0x wb9.heap.size 78 (Z.w4 0).cells (v 6) wc:=hv 6 _ rfl;clear hv;simp [Txt.a1f,List.range,List.range.loop,Act.put,v0,v1,v2,v5];generalize v 3=u33 at *;generalize v 4=u34 at *;generalize v 6=u6 at *;clear v0 v1 v2 v5;obtain⟨g11,rfl,b11,l11⟩:=h6.get;clear h6;refine Txt.b5q Z.a1y rfl rfl rfl b11 rfl rfl (a2e _) ?_;intro we b11 k11;simp [Act.put];have B11:=hjd b11;have kk:=kc.a0r k11 l11;replace B4:=hjd (B4.out.kept kk (by simp));replace B7:=hjd (B7.out.kept kk (by simp));replace B9:=hjd (B9.out.kept kk (by simp));replace KK:=hjd (KK.out.a0g kk);clear kc k11 l11 kk PP D3 D4 B3 b11;go_wp2_with fail;refine Txt.a6j (by kernel_rfl) [Txt.isV (Z.w4 s),Txt.isV (ab SB),Txt.isV p.v,Txt.isV q.v,Txt.isV (Z.w4 h),Txt.isV (ab KB),Txt.isV r.v,Txt.isV (ab l),Txt.b0x we.heap.size 22 (ab (a0m 32)).cells] (fun u=>Kept [] we u) (by kernel_rfl) rfl rfl (by kernel_rfl) ((Kept.refl [] we).drew) (fun u u' h k=>h.a0g k) ⟨?_,?_,?_,?_,?_,?_,?_,?_,?_,trivial⟩ ?_
 ·exact Txt.a3u Z.a1y rfl rfl (by decide) B9.out rfl
 ·exact Txt.a4n (x:=39) (j:=0) rfl a6g rfl rfl rfl ⟨⟨0,.data⟩,by simp,rfl,rfl⟩ chs.out
 ·exact Txt.a3u a0l rfl rfl (by decide) B7.out (P4.size _)
 ·exact Txt.a4n (x:=41) (j:=2) rfl c5e rfl rfl rfl ⟨⟨2,.data⟩,by simp,rfl,rfl⟩ cng.out
 ·exact Txt.a3u Z.a1y rfl rfl (by decide) B11.out rfl
 ·exact Txt.a4n (x:=43) (j:=4) rfl a6g rfl rfl rfl ⟨⟨4,.data⟩,by simp,rfl,rfl⟩ chk.out
 ·exact c9r (x:=40) (x2:=42) (x3:=44) (j:=1) (j2:=3) (j3:=5) rfl c5c rfl rfl rfl ⟨⟨1,.data⟩,by simp,rfl,rfl⟩ rfl rfl rfl ⟨⟨3,.data⟩,by simp,rfl,rfl⟩ rfl rfl rfl ⟨⟨5,.data⟩,by simp,rfl,rfl⟩ cbo.out
 ·exact Txt.a4n (x:=45) (j:=6) rfl a9p rfl rfl rfl ⟨⟨6,.data⟩,by simp,rfl,rfl⟩ chr.out
 ·exact Txt.b0j rfl a8l
 intro v wc kc hv;have v0:v 0=Z.w4 s:=hv 0 _ rfl;have v1:v 1=ab SB:=hv 1 _ rfl;have v2:v 2=p.v:=hv 2 _ rfl;have v3:v 3=q.v:=hv 3 _ rfl;have v4:v 4=Z.w4 h:=hv 4 _ rfl;have v5:v 5=ab KB:=hv 5 _ rfl;have v6:v 6=r.v:=hv 6 _ rfl;have v7:v 7=ab l:=hv 7 _ rfl;have h8:Txt.b0x we.heap.size 22 (ab (a0m 32)).cells (v 8) wc:=hv 8 _ rfl;clear hv;simp [Txt.a1f,List.range,List.range.loop,Act.put,v0,v1,v2,v3,v4,v5,v6,v7];generalize v 8=u8 at *;clear v0 v1 v2 v3 v4 v5 v6 v7;obtain⟨g12,rfl,b12,l12⟩:=h8.get;clear h8;refine Txt.b5q a2u.row rfl rfl rfl b12 (by rfl) (by simpa using hl.out) (a3o _) ?_;intro wf b12 k12;simp [Act.put];have B12:=hjd b12;have kk:=kc.a0r k12 l12;replace B4:=hjd (B4.out.kept kk (by simp));replace KK:=hjd (KK.out.a0g kk);clear kc k12 l12 kk B7 B9 B11 b12;go_wp2_with fail;refine Txt.a6j (by kernel_rfl) [Txt.isV (ab l),Txt.isV (.slice (some ⟨g4,0,none⟩) 32 64),Txt.isV (.pointer (some ⟨g4,0,none⟩)),Txt.isV (ab RB),Txt.isV (.bool b)] (fun u=>Kept [] wf u) (by kernel_rfl) rfl rfl (by kernel_rfl) ((Kept.refl [] wf).drew) (fun u u' h k=>h.a0g k) ⟨?_,?_,?_,?_,?_,trivial⟩ ?_
 ·exact Txt.a3u a2u.row rfl rfl (by decide) B12.out (by simpa using hl.out)
 ·exact a4g (x:=4) rfl (by decide) fun a W hx=>b8j rfl W hx
 ·exact c5o fun a u hS hr _=>d8d rfl u (hr 1 _ 48 _ rfl rfl rfl ⟨⟨1,.data⟩,by simp,rfl,rfl⟩)
 ·exact c5o fun a u hS hr _=>a5n a2u.row (.tmp 49) rfl (hr 2 _ 49 _ rfl rfl rfl ⟨⟨2,.data⟩,by simp,rfl,rfl⟩) (eR.out▸d4y (B4.out.kept hS (by simp)) 32) (by simpa using hR.out)
 ·exact c5o fun a u hS hr _=>c6m (.tmp 47) (.tmp 50) rfl (hr 0 _ 47 _ rfl rfl rfl ⟨⟨0,.data⟩,by simp,rfl,rfl⟩) (hr 3 _ 50 _ rfl rfl rfl ⟨⟨3,.data⟩,by simp,rfl,rfl⟩) hb.out hl.out hR.out
 intro v wc kc hv;have v0:v 0=ab l:=hv 0 _ rfl;have v1:v 1= .slice (some ⟨g4,0,none⟩) 32 64:=hv 1 _ rfl;have v2:v 2= .pointer (some ⟨g4,0,none⟩):=hv 2 _ rfl;have v3:v 3=ab RB:=hv 3 _ rfl;have v4:v 4= .bool b:=hv 4 _ rfl;clear hv;simp [Txt.a1f,List.range,List.range.loop,Act.put,v0,v1,v2,v3,v4];refine a4o (v:=.bool b) rfl ?_;simp [Act.put];replace KK:=hjd (KK.out.a0g kc);clear kc;go_wp2_with fail;go_ret;exact⟨rfl,KK.out⟩
end Go.Proofs.YtdbngnlpafcogaaGreat
namespace Go.Proofs.YtdbngnlpafcogaaGreat
open Go.RowKit Go.Mem Go.Txt Go.Nt
theorem pr_l1:Pr 1224481:=a8i 1107 (by decide) (by decide) (by decide +kernel)
theorem pr_l2:Pr 531581:=a8i 730 (by decide) (by decide) (by decide +kernel)
theorem pr_l3:Pr 1257559732178653:=c3l 51 2 2 pr_l1 pr_l2 (by decide) (by decide +kernel) (by decide +kernel) (by decide +kernel) (by decide) (by decide)
theorem pr_l4:Pr 4434155615661930479:=b8s 62 2 pr_l3 (by decide +kernel) (by decide +kernel) (by decide) (by decide)
theorem pr_l5:Pr 172054593956031949258510691:=b8s 88 2 pr_l4 (by decide +kernel) (by decide +kernel) (by decide) (by decide)
theorem pr_l6:Pr 19757330305831588566944191468367130476339:=b8s 134 2 pr_l5 (by decide +kernel) (by decide +kernel) (by decide) (by decide)
theorem pr_l7:Pr 276602624281642239937218680557139826668747:=b8s 138 2 pr_l6 (by decide +kernel) (by decide +kernel) (by decide) (by decide)
theorem pr_LL:Pr 7237005577332262213973186563042994240857116359379907606001950938285454250989:=b8s 253 2 pr_l7 (by decide +kernel) (by decide +kernel) (by decide) (by decide)
theorem BB_ne:Ed.Pt.mul 1 BB≠Ed.Pt.zero:=by
 rw [Ed.Pt.d1j];intro e;have h:BB.y.v=Ed.Pt.zero.y.v:=by rw [e]
 exact absurd h (by decide +kernel)
end Go.Proofs.YtdbngnlpafcogaaGreat
namespace Go.Proofs.YtdbngnlpafcogaaGreat
open Go.RowKit Go.Mem Go.Txt
theorem zleV:∀l:List UInt8,Z.leV l=leV l
 | []=>rfl
 | a :: l=>by rw [Z.leV,leV,zleV l]
theorem zle(x n:Nat):Z.le x n=le x n:=rfl
theorem zLL:Z.LL=LL:=rfl
theorem ord_B{n:Nat}(h:Ed.Pt.mul n BB=Ed.Pt.zero):LL ∣ n:=by
 refine Classical.byContradiction fun hn=>?_
 have hm:n % LL≠0:=fun e=>hn (Nat.dvd_of_mod_eq_zero e)
 have hf:=Nt.Pr.b3w (p:=LL) pr_LL hm;have h1:Ed.Pt.mul (n * n ^ (LL - 1 - 1)) BB=Ed.Pt.zero:=by rw [Ed.Pt.a7d,h,Ed.Pt.mul_zero]
 have h2:2 < LL:=by decide +kernel
 have e2:n * n ^ (LL - 1 - 1)=n ^ (LL - 1):=by
  rw [Nat.mul_comm,←Nat.pow_succ];exact congrArg (n ^ ·) (by omega)
 rw [e2,Ed.Pt.mul_mod BB b6o,hf]at h1;exact BB_ne h1
theorem e5m{m n:Nat}(h:Ed.Pt.mul m BB=Ed.Pt.mul n BB):m % LL=n % LL:=by
 have hp:0 < LL:=by decide +kernel
 have hm:=Nat.mod_lt m hp;have hn:=Nat.mod_lt n hp;rw [Ed.Pt.mul_mod BB b6o m,Ed.Pt.mul_mod BB b6o n]at h;generalize m % LL=a at *;generalize n % LL=b at *;have h2:Ed.Pt.mul (a + (LL - b)) BB=Ed.Pt.zero:=by rw [Ed.Pt.mul_add,h,←Ed.Pt.mul_add,show b + (LL - b)=LL from by omega,b6o]
 obtain⟨k,hk⟩:=ord_B h2;have h3:k=1:=by
  rcases Nat.lt_trichotomy k 1 with e | e | e
  ·obtain rfl:k=0:=by omega
   rw [Nat.mul_zero]at hk;omega
  ·exact e
  ·have:=Nat.mul_le_mul_left LL (show 2≤k from e);omega
 rw [h3,Nat.mul_one]at hk;omega
theorem e4k{x:List UInt8}(nx:x.length=32)(h:∀P,enc P≠leV x):DsC x pz 50:=by
 have hk:b3a (leV x)=false:=by
  cases hc:b3a (leV x)with
  | false=>rfl
  | true=>
    obtain⟨P,_,e⟩:=c2a (d9n nx) hc;exact absurd e (h P)
 have:=dec_n hk;unfold DeC at this
 rwa [d0p nx]at this
theorem b3o{P Q:Ed.Pt}(h:le (enc P) 32=le (enc Q) 32):P=Q:=by
 have:=congrArg leV h;rw [a6z,a6z,Nat.mod_eq_of_lt (c6c (c1k _)),Nat.mod_eq_of_lt (c6c (c1k _))]at this;exact c5p this
structure OkS (key SG m:List UInt8) (P:Ed.Pt):Prop where
 kb:le (enc P) 32=key
 big:Ed.Pt.mul 8 P≠Ed.Pt.zero
 lt:leV (SG.drop 32) < LL
 eq:le (enc (Ed.Pt.mul (leV (SG.drop 32)) BB + Ed.Pt.mul (c0x (SG.take 32 ++ (key ++ m))) P.neg)) 32=SG.take 32
open Classical in
noncomputable def okV (key SG m:List UInt8):Bool:=decide (∃P,OkS key SG m P)
open Classical in
theorem c7x{key SG m:List UInt8}{P:Ed.Pt}(h:OkS key SG m P):okV key SG m=true:=decide_eq_true ⟨P,h⟩
open Classical in
theorem b5p{key SG m:List UInt8}(h:∀P,¬OkS key SG m P):okV key SG m=false:=decide_eq_false fun⟨P,hp⟩=>h P hp
open Classical in
theorem d2c{key SG m:List UInt8}{P:Ed.Pt}(hk:le (enc P) 32=key):okV key SG m=true↔OkS key SG m P:=by
 refine⟨fun h=>?_,c7x⟩;obtain⟨Q,hq⟩:=of_decide_eq_true h;rw [b3o (hk.trans hq.kb.symm)];exact hq
theorem e2b(m:List UInt8):leV (le (c0x m) 32)=c0x m:=by
 rw [a6z,Nat.mod_eq_of_lt (Nat.lt_trans (c5d m) (show Z.LL < 2 ^ (8 * 32) by decide +kernel))]
theorem d0i(key SG:List UInt8)(hk:key.length=32)(hg:SG.length=64)(pv:Value)(ps:List (Value × List UInt8))(m:List UInt8)(w:World)(hp:Parts w pv ps)(hj:a0z ps=m)(hn:ps.length≤1000000000)(hm:m.length≤140737488352000) :
 Calls Tryz.prog 13 #[ab key,ab SG,pv] w fun e w'=>e= .returned (.bool (okV key SG m))∧Kept [] w w':=by
 have hR:(SG.take 32).length=32:=by simp [hg]
 have hT:(SG.drop 32).length=32:=by simp [hg]
 by_cases hex:∃P,le (enc P) 32=key
 ·obtain⟨P,hP⟩:=hex;obtain⟨p,cd,hp2⟩:=dec_s hP.symm (P:=P) rfl;have cs:=e7w hp2;by_cases h8:Ed.Pt.mul 8 P=Ed.Pt.zero
  ·rw [decide_eq_true (d4f.2 h8)]at cs;have e:okV key SG m=false:=b5p fun Q h=>h.big (by rw [b3o (h.kb.trans hP.symm)];exact h8)
   rw [e];exact d5o hk hg rfl pv w cd cs
  ·rw [decide_eq_false (fun e=>h8 (d4f.1 e))]at cs;have cnw:=fun u=>Z.a7e (SG.drop 32) hT u
   have hz:Z.okB (Z.leV (SG.drop 32))=decide (leV (SG.drop 32) < LL):=by rw [zleV];rfl
   by_cases hs:leV (SG.drop 32) < LL
   ·rw [hz,decide_eq_true hs,show Z.nw (Z.leV (SG.drop 32))=leV (SG.drop 32)from by rw [zleV];exact if_pos hs]at cnw;obtain⟨q,cq,hq⟩:=neg_e hp2;obtain⟨r,cr,hr⟩:=both_s hq (l:=SG.drop 32) (m:=le (c0x (SG.take 32 ++ (key ++ m))) 32) hT (a0x _ _);rw [e2b]at hr;have hb:(le (enc (Ed.Pt.mul (leV (SG.drop 32)) BB + Ed.Pt.mul (c0x (SG.take 32 ++ (key ++ m))) P.neg)) 32 == SG.take 32)=okV key SG m:=by
     rw [Bool.eq_iff_iff,d2c hP,beq_iff_eq];exact⟨fun h=>⟨hP,h8,hs,h⟩,fun h=>h.eq⟩
    refine e0l hk hg rfl rfl hR hT (a0x _ _) pv ps w hp hn cd cs cnw (h:=c0x (SG.take 32 ++ (key ++ m))) ?_ (SB:=SG.drop 32) ?_ (KB:=le (c0x (SG.take 32 ++ (key ++ m))) 32) (fun u=>Z.b2u _ u) cq cr (e1z hr rfl) hb
    ·intro u v z1 z2 hz;exact e5v v _ _ u hz (by rw [←hj];rfl) (by simp;omega) (by simp [hk,hg];omega)
    ·intro u;have:=Z.b2u (leV (SG.drop 32)) u
     rwa [zle,d0p hT]at this
   ·rw [hz,decide_eq_false hs]at cnw;have e:okV key SG m=false:=b5p fun Q h=>hs h.lt
    rw [e];exact e7n hk hg rfl hT pv w cd cs cnw
 ·have e:okV key SG m=false:=b5p fun Q h=>hex ⟨Q,h.kb⟩
  rw [e];exact ver_no hk pv w (e4k hk fun P hP=>hex ⟨P,by rw [hP,d0p hk]⟩)
end Go.Proofs.YtdbngnlpafcogaaGreat
namespace Go.Proofs.YtdbngnlpafcogaaGreat
open Go.RowKit Go.Mem Go.Txt
theorem c9u{r x y L:Nat}(hL:0 < L)(h:(r + x) % L=(r + y) % L):x % L=y % L:=by
 have hc:r≤L * r:=Nat.le_mul_of_pos_left r hL;have e:∀z,z % L=((r + z) % L + (L * r - r) % L) % L:=fun z=>by
  rw [←Nat.add_mod,show r + z + (L * r - r)=z + L * r from by omega,Nat.add_mul_mod_self_left]
 rw [e x,e y,h]
def c6s(bs:List UInt8):Nat:=leV (b6l bs)
theorem d8w(a:UInt8):(d0s a).toNat % 8=0:=by
 have h:=UInt8.toNat_lt a;unfold d0s;rw [UInt8.toNat_ofNat_of_lt' (by show a.toNat - a.toNat % 8 < 256;omega)];omega
theorem d8i(a:UInt8):64≤(c4y a).toNat∧(c4y a).toNat < 128:=by
 have h:=UInt8.toNat_lt a;unfold c4y;rw [UInt8.toNat_ofNat_of_lt' (by show a.toNat % 64 + 64 < 256;omega)];omega
theorem e4w(s:List UInt8)(h:32≤s.length):leV (a3n s) % 8=0∧0 < leV (a3n s)∧leV (a3n s) < 2 ^ 255:=by
 have hl:=b5j s h;obtain⟨z,hz,h8⟩:∃z,a3n s=d0s (s.getD 0 0) :: z∧True:=by
  unfold a3n
  cases hs:s.take 32 with
  | nil=>
    have:=congrArg List.length hs;rw [List.length_take]at this;simp at this;subst this;simp at h
  | cons a l=>exact⟨_,rfl,trivial⟩
 have e1:leV (a3n s)=(d0s (s.getD 0 0)).toNat + 256 * leV z:=by rw [hz,leV]
 have m8:=d8w (s.getD 0 0);have hsn:a3n s=(a3n s).take 31 ++ [c4y (s.getD 31 0)]:=by
  conv=>lhs;rw [←List.take_append_drop 31 (a3n s)]
  congr 1;rw [List.drop_eq_getElem_cons (by rw [hl];decide),List.drop_eq_nil_of_le (by rw [hl];decide)];congr 1;unfold a3n;simp
 have h31:((a3n s).take 31).length=31:=by simp [hl]
 have e2:leV (a3n s)=leV ((a3n s).take 31) + (c4y (s.getD 31 0)).toNat * 256 ^ 31:=by
  conv=>lhs;rw [hsn,b0h,h31]
 have hlt:=b4g ((a3n s).take 31);rw [h31]at hlt;have ht:=d8i (s.getD 31 0);have h255:(2:Nat) ^ 255=128 * 256 ^ 31:=by decide +kernel
 have hp:0 < (256:Nat) ^ 31:=Nat.pow_pos (by decide);rw [h255];generalize (256:Nat) ^ 31=Q at *;generalize (c4y (s.getD 31 0)).toNat=T at *;generalize leV ((a3n s).take 31)=V at *;have g1:=Nat.mul_le_mul_right Q ht.1;have g2:=Nat.mul_le_mul_right Q (show T + 1≤128 by omega);rw [Nat.add_mul]at g2;refine⟨by omega,by omega,by omega⟩
theorem numV_v(bs:List UInt8):c6s bs % 8=0∧0 < c6s bs∧c6s bs < 2 ^ 255:=e4w _ (by rw [Q.b3g];decide)
noncomputable def ptS (bs:List UInt8):Ed.Pt:=Ed.Pt.mul (c6s bs) BB
theorem e5y(bs:List UInt8):Ed.Pt.mul 8 (ptS bs)≠Ed.Pt.zero:=by
 intro e;unfold ptS at e;rw [←Ed.Pt.a7d]at e;have hd:=ord_B e;obtain⟨h8,h0,hlt⟩:=numV_v bs;have hnd:¬LL ∣ 8:=by decide +kernel
 have ha:LL ∣ c6s bs:=(Nt.Pr.c8z pr_LL hd).elim id (fun h=>absurd h hnd);have hc:Nat.Coprime LL 8:=by show Nat.gcd LL 8=1;decide +kernel
 have:=Nat.le_of_dvd h0 (Nat.Coprime.mul_dvd_of_dvd_of_dvd hc ha (Nat.dvd_of_mod_eq_zero h8));have hb:2 ^ 255 < LL * 8:=by decide +kernel
 omega
theorem d4g(bs m:List UInt8):RS bs m=le (enc (Ed.Pt.mul (rS bs m) BB)) 32:=by unfold RS c3r;rw [show leV (le (rS bs m) 32)=rS bs m from e2b _]
theorem sS_lt(bs m:List UInt8):sS bs m < LL:=Nat.mod_lt _ (by decide +kernel)
theorem sS_T(bs m:List UInt8):leV (le (sS bs m) 32)=sS bs m:=by
 rw [a6z,Nat.mod_eq_of_lt (Nat.lt_trans (sS_lt bs m) (show LL < 2 ^ (8 * 32) by decide +kernel))]
theorem d6c(bs m:List UInt8):(RS bs m).length=32:=b1y _
theorem c6q(bs m t:List UInt8):(RS bs m ++ t).take 32=RS bs m:=by rw [←d6c bs m];simp
theorem c0p(bs m t:List UInt8):(RS bs m ++ t).drop 32=t:=by rw [←d6c bs m];simp
theorem d3j(bs m:List UInt8):(a9c bs m).length=64:=by
 have:=d6c bs m;have:=a0x (sS bs m) 32;unfold a9c;rw [List.length_append];show(RS bs m).length + (le (sS bs m) 32).length=64;omega
theorem e2t(bs m:List UInt8):Ed.Pt.mul (sS bs m) BB=Ed.Pt.mul (rS bs m) BB + Ed.Pt.mul (hS bs m) (ptS bs):=by
 have e:sS bs m=(rS bs m + c6s bs * hS bs m) % LL:=by
  unfold sS c6s;rw [zleV,zLL,Nat.add_mod_mod,←Nat.add_mod_mod (rS bs m),Nat.mul_mod_mod,Nat.add_mod_mod,Nat.mul_comm]
 rw [e,←Ed.Pt.mul_mod BB b6o,Ed.Pt.mul_add,Ed.Pt.a7d];rfl
theorem e1q(bs:List UInt8):le (enc (ptS bs)) 32=c3r (b6l bs):=rfl
theorem e4e(bs m:List UInt8):okV (c3r (b6l bs)) (a9c bs m) m=true:=by
 refine c7x (P:=ptS bs) ⟨e1q bs,e5y bs,?_,?_⟩
 ·unfold a9c;rw [c0p,sS_T];exact sS_lt bs m
 ·unfold a9c;rw [c0p,c6q,sS_T,e2t,Ed.Pt.mul_neg,show c0x (RS bs m ++ (c3r (b6l bs) ++ m))=hS bs m from rfl,Ed.Pt.assoc,Ed.Pt.add_neg,Ed.Pt.add_zero,d4g]
theorem e4m{bs m m2:List UInt8}(h:c0x (RS bs m ++ (c3r (b6l bs) ++ m2)) * (c6s bs % LL) % LL≠hS bs m * (c6s bs % LL) % LL):okV (c3r (b6l bs)) (a9c bs m) m2=false:=by
 refine Bool.eq_false_iff.2 fun ht=>h ?_
 have:=((d2c (e1q bs)).1 ht).eq;unfold a9c at this;rw [c0p,c6q,sS_T,d4g,e2t,←d4g,Ed.Pt.mul_neg]at this;generalize c0x (RS bs m ++ (c3r (b6l bs) ++ m2))=k at *;have e:=b3o (this.trans (d4g bs m));have e2:Ed.Pt.mul (rS bs m) BB + Ed.Pt.mul (hS bs m) (ptS bs)=Ed.Pt.mul (rS bs m) BB + Ed.Pt.mul k (ptS bs):=by
  have:=congrArg (fun z=>z + Ed.Pt.mul k (ptS bs)) e
  rwa [Ed.Pt.assoc,Ed.Pt.comm _ (Ed.Pt.mul k (ptS bs)),Ed.Pt.add_neg,Ed.Pt.add_zero]at this
 unfold ptS at e2;rw [←Ed.Pt.a7d,←Ed.Pt.a7d,←Ed.Pt.mul_add,←Ed.Pt.mul_add]at e2;have e3:=e5m e2;have hp:0 < LL:=by decide +kernel
 have e4:=c9u hp e3;rw [Nat.mul_mod_mod,Nat.mul_mod_mod,Nat.mul_comm k,Nat.mul_comm (hS bs m),e4]
end Go.Proofs.YtdbngnlpafcogaaGreat
namespace Go.Proofs.YtdbngnlpafcogaaGreat
open Go.RowKit Go.Mem
theorem b1k(v:Value)(xs:List UInt8)(w:World)(hr:Rd w 1 v xs.length (bv xs))(hx:xs.length≤140737488355328) :
 Calls Tryz.prog 127 #[v] w fun e w'=>∃v',e= .returned v'∧New w w' v' xs:=by
 obtain⟨A,c,hv,hl,hc,hcell⟩:=hr
 cases A with
 | none=>
   have h0:xs= []:=by
    rcases Nat.eq_zero_or_pos xs.length with h | h
    ·exact List.eq_nil_of_length_eq_zero h
    ·obtain⟨b,o,h,_⟩:=hcell h;cases h
   subst h0;subst hv;go_enter Tryz.func127,Tryz.ntmps127
   go_wp2
   go_ret;exact⟨_,rfl,Ow.nil _ _ _,Kept.refl _ _,.inl rfl⟩
 | some ad=>
   have hrd:Rd w 1 (.slice (some ad) xs.length c) xs.length (bv xs):=⟨_,_,rfl,hl,hc,hcell⟩;have H:=hjd hrd;clear hrd hl hcell;subst hv;go_enter Tryz.func127,Tryz.ntmps127;go_wp2_with (at_builtin;refine a1q a1x rfl (.tmp 5) (.tmp 6) rfl rfl (xs:=[]) (n:=0) (Ow.c8t (b4a (by simp) rfl rfl (by omega))) rfl (H.out.alloc _) (a2x _) ?_ ?_ ?_);case refine_1=>omega
   case refine_2=>omega
   intro v' w' hown hk hb
   go_wp2
   go_ret;have hk0:Kept [] w w':=Kept.fresh ((Kept.refl [] w).alloc _) hk (by simp [Value.ownBlock]);refine⟨_,rfl,by simpa using hown,hk0,?_⟩;rcases hb with hb | hb
   ·exact .inr ⟨_,hb,Nat.le_refl _⟩
   ·exact .inr ⟨_,hb,by simp⟩
theorem b3k(b:Value)(bs:List UInt8)(v:Nat)(w:World)(hr:Rd w 1 b bs.length (bv bs))(hb:bs.length≤140737488355320)(_:v < 18446744073709551616) :
 Calls Tryz.prog 63 #[b,.int .u64 v] w fun e w'=>∃v',e= .returned v'∧New w w' v' (bs ++ be8 v):=by
 have hr2:=hjd hr;obtain⟨A,c,rfl,_,_,_⟩:=hr;go_enter Tryz.func63,Tryz.ntmps63;go_wp2_with (go_at_call 127;refine(b1k _ bs w hr2.out (by omega)).mono ?_;rintro e w1 ⟨ov,rfl,hn⟩);go_loopg [5,6] 8 (fun g ov i wk=>∃j:Nat,g + j=8∧i= .int .i64 (56 - 8 * (j:Int))∧New w wk ov (bs ++ (be8 v).take j));case atStart=>exact⟨0,rfl,rfl,by simpa using hn⟩
 case round=>
  obtain⟨j,hj,rfl,hn⟩:=hrel;by_cases hlt:j < 8
  ·have h0:(0:Int)≤56 - 8 * (j:Int):=by omega
   have hl:(bs ++ (be8 v).take j).length=bs.length + j:=by rw [List.length_append,List.length_take,a2h];omega
   obtain⟨OA,oc,hov,_⟩:=hn.ow.shape;rw [hl]at hov;subst hov;have hn2:=hjd hn;have hl2:=hjd hl;clear hn hl;go_wp2_with (at_builtin;refine a1q a1x rfl (.tmp 13) (.tmp 19) rfl rfl (hn2.out.ow.alloc _) rfl (m:=1) (news:=bv [UInt8.ofNat (v / 256 ^ (7 - j))]) (Rd.c6x rfl (by simp [c0n v j hlt]) rfl (by omega)) (a2x _) ?_ ?_ ?_);case refine_1=>rw [hl2.out];omega
   case refine_2=>rw [hl2.out];omega
   intro v' w2 hown hk2 hb2;have hown2:Ow w2 5 1 v' (bs ++ (be8 v).take (j + 1)).length (bv (bs ++ (be8 v).take (j + 1))):=by
    have e:bs ++ (be8 v).take (j + 1)=(bs ++ (be8 v).take j) ++ [UInt8.ofNat (v / 256 ^ (7 - j))]:=by rw [b9h v j hlt,List.append_assoc]
    rw [e,List.length_append];simpa [bv]using hown
   have hn3:New w w2 v' (bs ++ (be8 v).take (j + 1)):=hn2.out.step hown2 (((Kept.refl _ wr).alloc _).trans' hk2) (hn2.out.old) (by
    rcases hb2 with h | h
    ·exact .inl h
    ·exact .inr ⟨_,h,by have:=hn2.out.kept.size;simp;omega⟩)
   clear hown hk2 hb2 hown2;go_wp2_with fail;go_roundg (8 - (j + 1));case measure=>omega
   case rel=>exact⟨j + 1,by omega,by go_num,hn3⟩
  ·obtain rfl:j=8:=by omega
   have hn2:=hjd hn;clear hn;go_wp2_with fail;go_ret;exact⟨_,rfl,by have:=hn2.out;rwa [List.take_of_length_le (by rw [a2h];omega)]at this⟩
end Go.Proofs.YtdbngnlpafcogaaGreat
namespace Go.Proofs.YtdbngnlpafcogaaGreat
open Go.RowKit Go.Mem Go.Txt
def form(x:List UInt8):List UInt8:=be8 x.length ++ x
theorem b8n(b x:Value)(bs xs:List UInt8)(w:World)(hr:Rd w 1 b bs.length (bv bs))(hx:Rd w 1 x xs.length (bv xs))(hb:bs.length + xs.length≤140737488355320) :
 Calls Tryz.prog 80 #[b,x] w fun e w'=>∃v',e= .returned v'∧New w w' v' (bs ++ form xs):=by
 have hr2:=hjd hr;have hx2:=hjd hx;obtain⟨A,c,rfl,_,_,_⟩:=hx;have hl:(bs ++ be8 xs.length).length=bs.length + 8:=by rw [List.length_append,a2h]
 have hl2:=hjd hl;clear hr hl;go_enter Tryz.func80,Tryz.ntmps80;go_wp2_with (first
  | (go_at_call 63;refine(b3k _ bs xs.length w hr2.out (by omega) (by omega)).mono ?_;rintro e w1 ⟨ov,rfl,hn⟩;obtain⟨OA,oc,hov,_⟩:=hn.ow.shape;rw [hl2.out]at hov;subst hov;have hn2:=hjd hn;clear hn)
  | (at_builtin;refine a1q a1x rfl (.tmp 9) (.tmp 10) rfl rfl hn2.out.ow rfl (hx2.out.a0k hn2.out.kept) (a2x _) ?_ ?_ ?_))
 case refine_1=>rw [hl2.out];omega
 case refine_2=>rw [hl2.out];omega
 intro v' w2 hown hk2 hb2
 have hn3:New w w2 v' (bs ++ form xs):=hn2.out.step (by
  have e:bs ++ form xs=(bs ++ be8 xs.length) ++ xs:=by simp [form]
  rw [e,List.length_append];simpa [bv]using hown) hk2 hn2.out.old (by
  rcases hb2 with h | h
  ·exact .inl h
  ·exact .inr ⟨_,h,hn2.out.kept.size⟩)
 clear hown hk2 hb2;go_wp2_with fail;go_ret;exact⟨_,rfl,hn3⟩
theorem a5u(pv:Value)(ps:List (Value × List UInt8))(w:World)(hp:Parts w pv ps)(hn:ps.length≤9223372036854775807)(hl:(a0z ps).length≤140737488355328) :
 Calls Tryz.prog 64 #[pv] w fun e w'=>∃v',e= .returned v'∧New w w' v' (a0z ps):=by
 go_enter Tryz.func64,Tryz.ntmps64;go_wp2_with (go_at_call 128;refine(b3e pv ps _ hp hn hl).mono ?_;rintro e w1 ⟨v,rfl,h⟩);go_ret;exact⟨_,rfl,h⟩
def a5o(tag:UInt8)(body:List UInt8):List UInt8:=[119,105,116,97,110,tag] ++ form body
@[go_sem] theorem e6m (w:World) (C:Array Value) (m n c:Nat) (hm:m=w.heap.size):(convert 23 23 (.slice (some ⟨m,0,none⟩) n c)).run Tryz.prog (w.alloc (.cells C 5))= .ok (.slice (some ⟨m,0,none⟩) n c) (w.alloc (.cells C 5 (C.size,C.size + 1))):=
 d7v Tryz.underlying23 Tryz.underlying5 w C m n c hm
theorem lit_rd{w:World}(xs:List UInt8)(n g c:Nat)(cs:Array Value)(hg:g=w.heap.size)(hn:xs.length=n)(hc:n≤c)(h:cs.toList.take n=bv xs):Rd (w.alloc (.cells cs 5)).drew 1 (.slice (some ⟨g,0,none⟩) n c) n (bv xs):=by
 subst hg;refine⟨_,_,rfl,by simp [hn],hc,fun _=>⟨_,0,rfl,fun j u hu=>?_⟩⟩;have hb:Blk (w.alloc (.cells cs 5)).drew w.heap.size 5 cs:=(Blk.new w _ cs).drew;rw [hb.cell,Nat.zero_add];rw [←h,List.getElem?_take]at hu;split at hu
 ·simpa using hu
 ·cases hu
set_option maxHeartbeats 1600000 in
theorem e1e(tag:UInt8)(v:Value)(body:List UInt8)(w:World)(hx:Rd w 1 v body.length (bv body))(hb:body.length≤140737488351900) :
 Calls Tryz.prog 147 #[.int .u8 (tag.toNat:Int),v] w fun e w'=>∃v',e= .returned v'∧New w w' v' (a5o tag body):=by
 have hx2:=hjd hx;have hb2:=hjd hb;obtain⟨A,c,rfl,_,_,_⟩:=hx;clear hb;go_enter Tryz.func147,Tryz.ntmps147
 go_wp2_with (go_at_call 80
              have hcap:=grownCap_ge w 6 5 5;unfold grownCap at hcap;have kk:=((((Kept.refl [] w).alloc (.cells #[.int .u8 119,.int .u8 105,.int .u8 116,.int .u8 97,.int .u8 110] 5 (5,6))).alloc (.cells #[.int .u8 tag.toNat] 5)));generalize hw2:(w.alloc (.cells #[.int .u8 119,.int .u8 105,.int .u8 116,.int .u8 97,.int .u8 110] 5 (5,6))).alloc (.cells #[.int .u8 tag.toNat] 5)=w2 at *;have hsz:w.heap.size + 1 + 1=w2.heap.size:=by rw [←hw2];simp
              refine(b8n _ _ [119,105,116,97,110,tag] body _ (lit_rd (w:=w2) [119,105,116,97,110,tag] 6 _ _ _ hsz rfl hcap (by simp [bv,a1z])) (hx2.out.a0k (kk.alloc _).drew) (by have:=hb2.out;simp;omega)).mono ?_;rintro e w' ⟨v',rfl,hn⟩;have H:=hjd (New.next (show New w _ (.slice none 0 0) []from⟨Ow.nil _ _ _,(kk.alloc _).drew,.inl rfl⟩) hn);clear hn kk hcap hsz hw2)
 go_ret;exact⟨_,rfl,H.out⟩
end Go.Proofs.YtdbngnlpafcogaaGreat
namespace Go.Proofs.YtdbngnlpafcogaaGreat
open Go.RowKit Go.Mem Go.Txt
theorem b5n(xs:Array Value)(w:World):(callFunc 147 xs).run Tryz.prog w= .ok (.enter 147 xs) w:=enters_of (c:=_) Tryz.func147 (by kernel_rfl) rfl xs w
theorem b9x(xs:Array Value)(w:World):(callFunc 13 xs).run Tryz.prog w= .ok (.enter 13 xs) w:=enters_of (c:=_) Tryz.func13 (by kernel_rfl) rfl xs w
theorem c4e(xs:Array Value)(w:World):(callFunc 10 xs).run Tryz.prog w= .ok (.enter 10 xs) w:=enters_of (c:=_) Tryz.func10 (by kernel_rfl) rfl xs w
def a1o(bs:List UInt8):Rel:=fun v w=>Rd w 1 v bs.length (bv bs)
theorem a1o.a0k{bs:List UInt8}{v:Value}{w w':World}(h:a1o bs v w)(k:Kept [] w w'):a1o bs v w':=Rd.a0k h k
def d8g(m:List UInt8):Rel:=fun v w=>∃p,Parts w v [(p,m)]
theorem d8g.a0k{m:List UInt8}{v:Value}{w w':World}(h:d8g m v w)(k:Kept [] w w'):d8g m v w':=let⟨p,hp⟩:=h;⟨p,Parts.a0k hp k⟩
theorem New.rd{w w':World}{v:Value}{l:List UInt8}(h:New w w' v l):a1o l v w':=Rd.a6w h.ow
section
variable {l:List Oper} {vs:List Rel} {a0:Act} {w0:World} {o:Oper}
theorem c2i{x i:Nat}{m:List UInt8}{oi:Oper}(ho:o.op= .buildSlice 45 1 #[(0,.tmp x)])
 (hi:vs[i]?=some (a1o m)) (hl:l[i]?=some oi) (hd:oi.dst=some x) (hb:a1w o i):a8p Tryz.prog l vs (fun u=>Kept [] w0 u) a0 o (d8g m):=by
 refine⟨fun _ _ _ h hk=>d8g.a0k h hk,fun a w C R hS hr _ h=>?_⟩;have e:a1o m (a.tmps.getD x undef) w:=hr i _ x oi hi hl hd hb;generalize hv1:a.tmps.getD x undef=v1 at e;obtain⟨A,c,e1,_⟩:=id e;have c0:v1.cells= #[v1]:=by rw [e1];rfl
 obtain⟨q,hq,hz,hs,hb⟩:=info_parts a4j.2;have hv:(#[(0,Operand.tmp x)].map fun(p:Nat × Operand)=>(p.1,a.eval p.2)).toList= [(0,v1)]:=by simp [Act.eval,←hv1]
 have hf:Instr.fill (fun i=>some (i * 1,1)) ((Array.range (1 * 1)).map ((Value.slice none 0 0).cells[· % (Value.slice none 0 0).cells.size]!)) [(0,v1)]=some #[v1]:=by
  have hr:∀f:Nat→Value,(Array.range (1 * 1)).map f= #[f 0]:=fun f=>Array.toList_inj.1 (by rw [Array.toList_map,Array.toList_range];rfl)
  rw [hr];simp [Instr.fill,c0]
 have kk:Kept [] w (w.alloc (.cells #[v1] 23)):=(Kept.refl [] w).alloc _;exact wp_buildSlice _ _ 1 _ ho #[v1] q _ a4j.1 hq hz (by rw [hs];omega) (by rw [hs];omega) (by rw [hs];exact(congrArg (Instr.fill _ _) hv).trans hf) (h _ _ kk ⟨v1,e1n (Blk.new w _ _) (Rd.a0k e kk)⟩)
end
theorem c8u(tag:UInt8)(body:List UInt8):(a5o tag body).length=body.length + 14:=by
 unfold a5o form;rw [List.length_append,List.length_append,a2h];simp;omega
theorem e3x(tag:UInt8)(v:Value)(body:List UInt8)(u:World)(h:a1o body v u)(hb:body.length≤140737488351900):Calls Tryz.prog 147 #[.int .u8 (tag.toNat:Int),v] u fun e w'=>∃v',e= .returned v'∧a1o (a5o tag body) v' w'∧Kept [] u w':=by
 refine(e1e tag v body u h hb).mono ?_;rintro e w' ⟨v',rfl,hn⟩;exact⟨v',rfl,hn.rd,hn.kept⟩
theorem c8d(p:Value)(m:List UInt8):a0z [(p,m)]=m:=by simp [a0z,bytesOf]
set_option maxHeartbeats 3200000 in
theorem d0n{key SG W:List UInt8}{ok:Bool}(tag:UInt8)(hk:key.length=32)(hg:SG.length=64)(v:Value)(body:List UInt8)(w:World)(hb:a1o body v w)
 (cw:∀u,a1o body v u→Calls Tryz.prog 147 #[.int .u8 (tag.toNat:Int),v] u fun e w'=>∃v',e= .returned v'∧a1o W v' w'∧Kept [] u w')
 (cv:∀u pv,d8g W pv u→Calls Tryz.prog 13 #[ab key,ab SG,pv] u fun e w'=>e= .returned (.bool ok)∧Kept [] u w') :
 Calls Tryz.prog 126 #[ab key,.int .u8 (tag.toNat:Int),v,ab SG] w fun e w'=>e= .returned (.bool ok)∧Kept [] w w':=by
 obtain⟨BA,bc,rfl,_⟩:=id hb;replace hk:=hjd hk;replace hg:=hjd hg;replace hb:=hjd hb;replace cw:=hjd cw;replace cv:=hjd cv;go_enter Tryz.func126,Tryz.ntmps126;go_wp2_with (first
  | ((with_reducible refine a0f 4 ?_);(refine a0q (o:=⟨some 4,_,_,_,_,_⟩) (v:=ab key) rfl (.tmp 0) rfl rfl ?_);intro g4 w4 m4;have B4:=hjd (show Blk w4 g4 22 (bv key).toArray from m4.blk);have KK:=hjd m4.kept;clear m4)
  | ((with_reducible refine a0f 7 ?_);(refine a0q (o:=⟨some 7,_,_,_,_,_⟩) (v:=ab SG) rfl (.tmp 3) rfl rfl ?_);intro g7 w7 m7;have B7:=hjd (show Blk w7 g7 32 (bv SG).toArray from m7.blk);replace B4:=hjd (B4.out.kept m7.kept (by simp));replace KK:=hjd (KK.out.a0g m7.kept);clear m7))
 refine Txt.a6j (by kernel_rfl) [Txt.isV (ab key),Txt.isV (ab SG),Txt.isV (.int .u8 (tag.toNat:Int)),Txt.isV (.slice BA body.length bc),a1o W,d8g W,Txt.isV (.bool ok)] (fun u=>Kept [] w7 u) (by kernel_rfl) rfl rfl (by kernel_rfl) ((Kept.refl [] w7).drew) (fun u u2 h k=>h.a0g k) ⟨?_,?_,?_,?_,?_,?_,?_,trivial⟩ ?_
 ·exact Txt.a3u a2u.row rfl rfl (by decide) B4.out (by simpa using hk.out)
 ·exact Txt.a3u Q.b7e rfl rfl (by decide) B7.out (by simpa using hg.out)
 ·exact a4g (x:=1) rfl (by decide) fun a W hx=>a3h rfl W hx
 ·exact a4g (x:=2) rfl (by decide) fun a W hx=>a3h rfl W hx
 ·refine Txt.a3v rfl b5n (fun v u u2 h k=>a1o.a0k h k) fun a u hS hr _=>?_
  have e0:a.tmps.getD 11 undef=(.int .u8 (tag.toNat:Int)):=hr 2 _ 11 _ rfl rfl rfl ⟨⟨2,.data⟩,by simp,rfl,rfl⟩;have e1:a.tmps.getD 12 undef=(.slice BA body.length bc):=hr 3 _ 12 _ rfl rfl rfl ⟨⟨3,.data⟩,by simp,rfl,rfl⟩;have hm:Array.map a.eval #[.tmp 11,.tmp 12]= #[(.int .u8 (tag.toNat:Int)),(.slice BA body.length bc)]:=by simp only [List.map_toArray,List.map_cons,List.map_nil,Act.eval,e0,e1]
  rw [hm];refine(cw.out u (hb.out.a0k (KK.out.a0g hS))).mono ?_;rintro e u2 ⟨v,rfl,hv,hk⟩;exact⟨v,rfl,hv,hk⟩
 ·exact c2i (x:=13) (i:=4) rfl rfl rfl rfl ⟨⟨4,.data⟩,by simp,rfl,rfl⟩
 ·refine Txt.a3v rfl b9x (fun _ _ _ h _=>h) fun a u hS hr _=>?_
  have e0:a.tmps.getD 9 undef=(ab key):=hr 0 _ 9 _ rfl rfl rfl ⟨⟨0,.data⟩,by simp,rfl,rfl⟩;have e1:a.tmps.getD 10 undef=(ab SG):=hr 1 _ 10 _ rfl rfl rfl ⟨⟨1,.data⟩,by simp,rfl,rfl⟩;have e2:=hr 5 _ 14 _ rfl rfl rfl ⟨⟨5,.data⟩,by simp,rfl,rfl⟩;have hm:Array.map a.eval #[.tmp 9,.tmp 10,.tmp 14]= #[(ab key),(ab SG),a.tmps.getD 14 undef]:=by simp only [List.map_toArray,List.map_cons,List.map_nil,Act.eval,e0,e1]
  rw [hm];refine(cv.out u _ e2).mono ?_;rintro e u2 ⟨rfl,hk⟩;exact⟨_,rfl,rfl,hk⟩
 intro v wc kc hv;have v0:v 0=(ab key):=hv 0 _ rfl;have v1:v 1=(ab SG):=hv 1 _ rfl;have v2:v 2=(.int .u8 (tag.toNat:Int)):=hv 2 _ rfl;have v3:v 3=(.slice BA body.length bc):=hv 3 _ rfl;have v6:v 6=(.bool ok):=hv 6 _ rfl;clear hv;simp [Txt.a1f,List.range,List.range.loop,Act.put,v0,v1,v2,v3,v6];generalize v 4=u4 at *;generalize v 5=u5 at *;clear v0 v1 v2 v3 v6;refine a4o (v:=.bool ok) rfl ?_;simp [Act.put];replace KK:=hjd (KK.out.a0g kc);clear kc;go_wp2_with fail;go_ret;exact⟨rfl,KK.out⟩
theorem d6q{key SG:List UInt8}(tag:UInt8)(hk:key.length=32)(hg:SG.length=64)(v:Value)(body:List UInt8)(w:World)(hb:a1o body v w)(hl:body.length≤140737488351900) :
 Calls Tryz.prog 126 #[ab key,.int .u8 (tag.toNat:Int),v,ab SG] w fun e w'=>e= .returned (.bool (okV key SG (a5o tag body)))∧Kept [] w w':=by
 refine d0n tag hk hg v body w hb (fun u h=>e3x tag v body u h hl) ?_;rintro u pv ⟨p,hp⟩;exact d0i key SG hk hg pv _ _ u hp (c8d _ _) (by simp) (by rw [c8u];omega)
set_option maxHeartbeats 3200000 in
theorem d3x{seed S W:List UInt8}(tag:UInt8)(hk:seed.length=32)(hS:S.length=64)(v:Value)(body:List UInt8)(w:World)(hb:a1o body v w)
 (cw:∀u,a1o body v u→Calls Tryz.prog 147 #[.int .u8 (tag.toNat:Int),v] u fun e w'=>∃v',e= .returned v'∧a1o W v' w'∧Kept [] u w')
 (cs:∀u pv,d8g W pv u→Calls Tryz.prog 10 #[ab seed,pv] u fun e w'=>e= .returned (ab S)∧Kept [] u w') :
 Calls Tryz.prog 78 #[ab seed,.int .u8 (tag.toNat:Int),v] w fun e w'=>e= .returned (ab S)∧Kept [] w w':=by
 obtain⟨BA,bc,rfl,_⟩:=id hb;replace hk:=hjd hk;replace hS:=hjd hS;replace hb:=hjd hb;replace cw:=hjd cw;replace cs:=hjd cs;go_enter Tryz.func78,Tryz.ntmps78;go_wp2_with (first
  | ((with_reducible refine a0f 3 ?_);(refine a0q (o:=⟨some 3,_,_,_,_,_⟩) (v:=ab seed) rfl (.tmp 0) rfl rfl ?_);intro g3 w3 m3;have B3:=hjd (show Blk w3 g3 22 (bv seed).toArray from m3.blk);have KK:=hjd m3.kept;clear m3)
  | ((with_reducible refine a0f 6 ?_);(refine a0h (o:=⟨some 6,_,_,_,_,_⟩) rfl rfl d4q ?_);intro g6 w6 m6;have B6:=hjd m6.blk;have L6:=hjd (Nat.le_trans KK.out.size m6.le);replace B3:=hjd (B3.out.kept m6.kept (by simp));replace KK:=hjd (KK.out.a0g m6.kept);clear m6))
 refine Txt.a6j (by kernel_rfl) [Txt.isV (ab seed),Txt.isV (.int .u8 (tag.toNat:Int)),Txt.isV (.slice BA body.length bc),a1o W,d8g W,Txt.isV (ab S)] (fun u=>Kept [] w6 u) (by kernel_rfl) rfl rfl (by kernel_rfl) ((Kept.refl [] w6).drew) (fun u u2 h k=>h.a0g k) ⟨?_,?_,?_,?_,?_,?_,trivial⟩ ?_
 ·exact Txt.a3u a2u.row rfl rfl (by decide) B3.out (by simpa using hk.out)
 ·exact a4g (x:=1) rfl (by decide) fun a W hx=>a3h rfl W hx
 ·exact a4g (x:=2) rfl (by decide) fun a W hx=>a3h rfl W hx
 ·refine Txt.a3v rfl b5n (fun v u u2 h k=>a1o.a0k h k) fun a u hS hr _=>?_
  have e0:a.tmps.getD 8 undef=(.int .u8 (tag.toNat:Int)):=hr 1 _ 8 _ rfl rfl rfl ⟨⟨1,.data⟩,by simp,rfl,rfl⟩;have e1:a.tmps.getD 9 undef=(.slice BA body.length bc):=hr 2 _ 9 _ rfl rfl rfl ⟨⟨2,.data⟩,by simp,rfl,rfl⟩;have hm:Array.map a.eval #[.tmp 8,.tmp 9]= #[(.int .u8 (tag.toNat:Int)),(.slice BA body.length bc)]:=by simp only [List.map_toArray,List.map_cons,List.map_nil,Act.eval,e0,e1]
  rw [hm];refine(cw.out u (hb.out.a0k (KK.out.a0g hS))).mono ?_;rintro e u2 ⟨v,rfl,hv,hk⟩;exact⟨v,rfl,hv,hk⟩
 ·exact c2i (x:=10) (i:=3) rfl rfl rfl rfl ⟨⟨3,.data⟩,by simp,rfl,rfl⟩
 ·refine Txt.a3v rfl c4e (fun _ _ _ h _=>h) fun a u hS hr _=>?_
  have e0:a.tmps.getD 7 undef=(ab seed):=hr 0 _ 7 _ rfl rfl rfl ⟨⟨0,.data⟩,by simp,rfl,rfl⟩;have e1:=hr 4 _ 11 _ rfl rfl rfl ⟨⟨4,.data⟩,by simp,rfl,rfl⟩;have hm:Array.map a.eval #[.tmp 7,.tmp 11]= #[(ab seed),a.tmps.getD 11 undef]:=by simp only [List.map_toArray,List.map_cons,List.map_nil,Act.eval,e0]
  rw [hm];refine(cs.out u _ e1).mono ?_;rintro e u2 ⟨rfl,hk⟩;exact⟨_,rfl,rfl,hk⟩
 intro v wc kc hv;have v0:v 0=(ab seed):=hv 0 _ rfl;have v1:v 1=(.int .u8 (tag.toNat:Int)):=hv 1 _ rfl;have v2:v 2=(.slice BA body.length bc):=hv 2 _ rfl;have v5:v 5=(ab S):=hv 5 _ rfl;clear hv;simp [Txt.a1f,List.range,List.range.loop,Act.put,v0,v1,v2,v5];generalize v 3=u3 at *;generalize v 4=u4 at *;clear v0 v1 v2 v5;refine Txt.b5q Q.b7e rfl rfl rfl (B6.out.kept kc (by simp)) (by rfl) (by simpa using hS.out) (a3o _) ?_;intro wd b9 k9;simp [Act.put];replace KK:=hjd ((KK.out.a0g kc).a0r k9 L6.out);clear B3 B6 kc;go_wp2_with fail;exact a1m Q.b7e rfl rfl b9 (by simpa using hS.out) rfl ⟨rfl,KK.out⟩
theorem d8y{seed:List UInt8}(tag:UInt8)(hk:seed.length=32)(v:Value)(body:List UInt8)(w:World)(hb:a1o body v w)(hl:body.length≤140737488351900) :
 Calls Tryz.prog 78 #[ab seed,.int .u8 (tag.toNat:Int),v] w fun e w'=>e= .returned (ab (a9c seed (a5o tag body)))∧Kept [] w w':=by
 refine d3x tag hk (d3j _ _) v body w hb (fun u h=>e3x tag v body u h hl) ?_;rintro u pv ⟨p,hp⟩;exact d8r seed hk pv _ _ u hp (c8d _ _) (by simp) (by rw [c8u];omega)
end Go.Proofs.YtdbngnlpafcogaaGreat
namespace Go.Mem
open Go.RowKit Go.Txt
section
variable {P:Program} {w:World} {a:Act} {ops:Array Oper} {rest:List Oper} {o:Oper} {Q:Exit→Act→World→Prop} {t e:TypeId} {bytes:Nat} {z:Value}
theorem a5m(hgd:Region.wanted o (yielded ops a.tmps)=true)(T:SliceT P t e 1 bytes z){x0 x1 x2:Operand}(ho:o.op= .buildSlice t 3 #[(0,x0),(1,x1),(2,x2)]){v0 v1 v2:Value}(h0:a.eval x0=v0)(h1:a.eval x1=v1)(h2:a.eval x2=v2)
 (c0:v0.cells= #[v0]) (c1:v1.cells= #[v1]) (c2:v2.cells= #[v2])
 (h:∀g w',Made w w' g e #[v0,v1,v2]→wpList P ops Q rest (a.put o.dst (.slice (some ⟨g,0,none⟩) 3 3)) w'):wpList P ops Q (o :: rest) a w:=by
 obtain⟨i,hi,hz,hs,hb⟩:=info_parts T.2;have e2:(#[(0,x0),(1,x1),(2,x2)].map fun(p:Nat × Operand)=>(p.1,a.eval p.2)).toList= [(0,v0),(1,v1),(2,v2)]:=by simp [h0,h1,h2]
 have hf:Instr.fill (fun i=>some (i * 1,1)) ((Array.range (3 * 1)).map (z.cells[· % z.cells.size]!)) [(0,v0),(1,v1),(2,v2)]=some #[v0,v1,v2]:=by
  have hr:∀f:Nat→Value,(Array.range (3 * 1)).map f= #[f 0,f 1,f 2]:=fun f=>Array.toList_inj.1 (by rw [Array.toList_map,Array.toList_range];rfl)
  rw [hr];simp [Instr.fill,c0,c1,c2]
 refine a1u hgd fun _ hK=>wp_buildSlice t e 3 _ ho #[v0,v1,v2] i z T.1 hi hz (by rw [hs];omega) (by rw [hs];omega) (by rw [hs];exact(congrArg (Instr.fill _ _) e2).trans hf) (hK _ _ (h _ _ ⟨Blk.new _ _ _,(Kept.refl [] w).alloc _,Nat.le_refl _⟩))
theorem a3c(hgd:Region.wanted o (yielded ops a.tmps)=true)(T:SliceT P t e 1 bytes z){x0 x1:Operand}(ho:o.op= .buildSlice t 2 #[(0,x0),(1,x1)]){v0 v1:Value}(h0:a.eval x0=v0)(h1:a.eval x1=v1)
 (c0:v0.cells= #[v0]) (c1:v1.cells= #[v1])
 (h:∀g w',Made w w' g e #[v0,v1]→wpList P ops Q rest (a.put o.dst (.slice (some ⟨g,0,none⟩) 2 2)) w'):wpList P ops Q (o :: rest) a w:=by
 obtain⟨i,hi,hz,hs,hb⟩:=info_parts T.2;have e2:(#[(0,x0),(1,x1)].map fun(p:Nat × Operand)=>(p.1,a.eval p.2)).toList= [(0,v0),(1,v1)]:=by simp [h0,h1]
 have hf:Instr.fill (fun i=>some (i * 1,1)) ((Array.range (2 * 1)).map (z.cells[· % z.cells.size]!)) [(0,v0),(1,v1)]=some #[v0,v1]:=by
  have hr:∀f:Nat→Value,(Array.range (2 * 1)).map f= #[f 0,f 1]:=fun f=>Array.toList_inj.1 (by rw [Array.toList_map,Array.toList_range];rfl)
  rw [hr];simp [Instr.fill,c0,c1]
 refine a1u hgd fun _ hK=>wp_buildSlice t e 2 _ ho #[v0,v1] i z T.1 hi hz (by rw [hs];omega) (by rw [hs];omega) (by rw [hs];exact(congrArg (Instr.fill _ _) e2).trans hf) (hK _ _ (h _ _ ⟨Blk.new _ _ _,(Kept.refl [] w).alloc _,Nat.le_refl _⟩))
end
end Go.Mem
namespace Go.Proofs.YtdbngnlpafcogaaGreat
open Go.RowKit Go.Mem Go.Txt
abbrev DU:=DataW Unit
abbrev oM(w:World)(b n:Nat)(D:DU):Prop:=w.ownsMap Tryz.prog 9 (plainElem Tryz.prog 3) b n D
theorem sk:Maps.Keyed Tryz.prog 9:=Maps.string_keyed Tryz.underlying9
def atM(D:DU)(s:List UInt8):DU:=D.atKey (.string s) (.lit (.int .i64 0))
def KeyP(keys:List (List UInt8))(s:List UInt8)(c:Int):Prop:=
 ∀(i:Nat) (tag:UInt8) (sig body:List UInt8),s=UInt8.ofNat i :: tag :: (sig ++ body)→i < keys.length→sig.length=64→(c=1↔okV (keys.getD i []) sig (a5o tag body)=true)
def c5i(keys:List (List UInt8))(D:DU):Prop:=∀s,atM D s= .lit (.int .i64 0)∨∃c:Int,(c=1∨c=2)∧atM D s= .lit (.int .i64 c)∧KeyP keys s c
structure Rg (w:World) (r:Nat) (kv:Value) (keys:List (List UInt8)) (b:Nat) (D:DU):Prop where
 blk:Blk w r 220 #[kv,.map (some b)]
 rows:Rd w 32 kv keys.length (keys.flatMap bv)
 len:∀k∈keys,k.length=32
 few:keys.length≤7
 map:∃n,oM w b n D
 seen:c5i keys D
 isMap:Maps.IsMap D
theorem Blk.c8n{w:World}{g b n:Nat}{t:TypeId}{cs:Array Value}{D:DU}(h:Blk w g t cs)(m:oM w b n D):g≠b:=by
 rintro rfl;obtain⟨es,clock,hb,_⟩:=m;unfold Blk at h;rw [h]at hb
 cases hb
theorem Rd.c8n{w:World}{b n s m:Nat}{v:Value}{xs:List Value}{D:DU}(h:Rd w s v m xs)(mm:oM w b n D)(h0:0 < xs.length)(hm:0 < m):∀k,v.ownBlock=some k→k≠b:=by
 rintro k hk rfl;obtain⟨b2,o,c,rfl,_,hx⟩:=h.at_ hm;obtain rfl:b2=k:=by simpa [Value.ownBlock]using hk
 obtain⟨es,clock,hb,_⟩:=mm;have:=hx 0 xs[0] (by simp [h0]);simp [World.cell?,hb]at this
theorem oM.kept{w w':World}{b n:Nat}{D:DU}{S:List Nat}(m:oM w b n D)(k:Kept S w w')(hb:b∉S):oM w' b n D:=by
 have hlt:=World.ownsMap.lt m;obtain⟨es,clock,h,F,hs,hD⟩:=m;exact⟨es,clock,(k.block b hlt hb).trans h,F,hs,hD⟩
theorem c6y{keys:List (List UInt8)}(h:∀k∈keys,k.length=32):(keys.flatMap bv).length=keys.length * 32:=by
 induction keys with
 | nil=>rfl
 | cons a l ih=>
   rw [List.flatMap_cons,List.length_append,ih (fun k hk=>h k (List.mem_cons_of_mem _ hk)),List.length_cons];have:=h a (by simp);simp [this];omega
theorem Rg.kept{w w':World}{r b:Nat}{kv:Value}{keys:List (List UInt8)}{D:DU}(h:Rg w r kv keys b D)(k:Kept [] w w'):Rg w' r kv keys b D:=
 ⟨h.blk.kept k (by simp),h.rows.a0k k,h.len,h.few,let⟨n,hn⟩:=h.map;⟨n,hn.kept k (by simp)⟩,h.seen,h.isMap⟩
theorem Rg.e3t{w w':World}{r b n:Nat}{kv:Value}{keys:List (List UInt8)}{D D':DU}(h:Rg w r kv keys b D)(k:Kept [b] w w')(m:oM w' b n D')(s:c5i keys D')(hm:Maps.IsMap D'):Rg w' r kv keys b D':=by
 obtain⟨n0,m0⟩:=h.map;refine⟨h.blk.kept k (by simpa using Blk.c8n h.blk m0),h.rows.kept k fun hn g hg=>?_,h.len,h.few,⟨n,m⟩,s,hm⟩;simpa using Rd.c8n h.rows m0 (by rw [c6y h.len];omega) hn g hg
theorem oM.tight{w:World}{b n:Nat}{D:DU}(m:oM w b n D):oM w b (Maps.size D) D:=by
 obtain⟨es,clock,hb,F,_,hD⟩:=m;refine⟨es,clock,hb,F,?_,hD⟩;subst hD;simp [Maps.size,length_sorted]
theorem key_inj{i i':Nat}{tag tag':UInt8}{sig sig' body body':List UInt8}(h:UInt8.ofNat i :: tag :: (sig ++ body)=UInt8.ofNat i' :: tag' :: (sig' ++ body'))(hi:i < 256)(hi':i' < 256)(hs:sig.length=64)(hs':sig'.length=64):i=i'∧tag=tag'∧sig=sig'∧body=body':=by
 injection h with h1 h2
 injection h2 with h2 h3
 have h4:=List.append_inj h3 (by rw [hs,hs']);have h5:=congrArg UInt8.toNat h1;rw [UInt8.toNat_ofNat_of_lt' hi,UInt8.toNat_ofNat_of_lt' hi']at h5;exact⟨h5,h2,h4.1,h4.2⟩
theorem c5i.put{keys:List (List UInt8)}{D:DU}(h:c5i keys D)(hm:Maps.IsMap D)(hf:keys.length≤7){i:Nat}{tag:UInt8}{sig body:List UInt8}(hi:i < keys.length)(hs:sig.length=64){c:Int}(hc:c=1∨c=2)(hok:c=1↔okV (keys.getD i []) sig (a5o tag body)=true) :
 c5i keys (D.put (.string (UInt8.ofNat i :: tag :: (sig ++ body))) (.lit (.int .i64 c))):=by
 intro s;by_cases e:s=UInt8.ofNat i :: tag :: (sig ++ body)
 ·subst e;refine .inr ⟨c,hc,Maps.atKey_put_same hm (show WideAt.IsKeyLit (.string _)from trivial) _ _,?_⟩;intro i' tag' sig' body' e hi' hs';obtain⟨rfl,rfl,rfl,rfl⟩:=key_inj e (by omega) (by omega) hs hs';exact hok
 ·have:=Maps.atKey_put_other (D:=D) (k:=.string (UInt8.ofNat i :: tag :: (sig ++ body))) (k':=.string s) (fun h=>e (by injection h)) (.lit (.int .i64 c)) (.lit (.int .i64 0));unfold atM;rw [this];exact h s
set_option maxHeartbeats 3200000 in
theorem a6h{w:World}{r b:Nat}{kv:Value}{keys:List (List UInt8)}{D:DU}(h:Rg w r kv keys b D) :
 Calls Tryz.prog 148 #[.pointer (some ⟨r,0,none⟩)] w fun e w'=>e= .returned (.int .i64 (keys.length:Int))∧w'=w:=by
 obtain⟨KA,kc,e0,_⟩:=h.rows;subst e0;have q0:w.cell? ⟨r,0,none⟩=some (.slice KA keys.length kc):=by rw [h.blk.cell];rfl
 have H:=hjd h;clear h;go_enter Tryz.func148,Tryz.ntmps148;go_wp2_with fail;go_ret;exact⟨rfl,rfl⟩
end Go.Proofs.YtdbngnlpafcogaaGreat
