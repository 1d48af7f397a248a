/-
  A region that draws its order, as in Text5, whose last operation waits for all others: what the others need may be gone behind it.
-/
import Derived.Test.YtdbngnlpafcogaaGreatZmFam
set_option maxRecDepth 100000
namespace Go.Txt
section
variable {P:Program} {F:List Nat} {S:World→Prop} {G:Act→World→Prop} {Q:Exit→Act→World→Prop}
theorem d7h{ops ops':Array Oper}{i:Nat}{o:Oper}(h1:ops[i]?=some o)(h2:ops'[i]?=some o)(hg:o.guard=none){K:Act→World→Prop}{a:Act}{w:World}(h:wpOp P ops T0 i K a w):wpOp P ops' Q i K a w:=by
 have hw:∀y,Region.wanted o y=true:=fun y=>by simp [Region.wanted,hg]
 unfold wpOp at h ⊢
 simp only [h1,hw,if_true]at h
 simp only [h2,hw,if_true]
 rcases h with h2 | ⟨_,hl⟩
 case inr=>exact(a2h hT0 hl).elim
 refine .inl ?_
 unfold Oper.wp at h2 ⊢
 generalize (execOp a.eval o).run P w=r at *
 cases r with
 | ok n w'=>
   cases n <;> simp only [Oper.upon]at h2 ⊢ <;> first
    | exact h2
    | exact Calls.mono h2 fun e w'' he=>by
       cases e with
       | returned u=>exact he
       | panicked c=>exact he.elim
       | outgrown=>exact(a2h hT0 he).elim
 | halt x w'=>
   cases x <;> simp only [Oper.upon]at h2 ⊢
   case panic u=>exact h2.elim
theorem a7x{m:Array Bool}{j:Nat}(h:j < m.size)(d:Bool):(m.push false).getD j d=m.getD j d:=by
 simp [Array.getD,h,Nat.lt_succ_of_lt h,Array.getElem_push_lt h]
theorem b5a{m:Array Bool}{j:Nat}(h:j=m.size)(d:Bool):(m.push false).getD j d=false:=by
 subst h;simp [Array.getD]
theorem d7q{m:Array Bool}{j:Nat}(h:j < m.size):m.getD j true=m.getD j false:=by simp [Array.getD,h]
theorem c7a{ops:Array Oper}(hdep:d4d ops=true){listed:Array Bool}(hs:listed.size=ops.size)(hr:Region.ready .any ops listed= []):∀j,j < ops.size→listed.getD j true=true:=by
 intro j
 induction j using Nat.strongRecOn with
 | _ j ih=>
   intro hj
   cases hl:listed.getD j true with
   | true=>rfl
   | false=>
     exfalso
     have hjs:j < listed.size:=by omega
     have:j∈Region.ready .any ops listed:=by
      rw [mem_ready]
      refine⟨hl,ops[j],by simp [hj],fun e he hb=>?_⟩
      have hlt:=a4c hdep j ops[j] (by simp [hj]) e he hb
      have:=ih e.on hlt (by omega)
      have hes:e.on < listed.size:=by omega
      simpa [Array.getD,hes]using this
     rw [hr]at this
     cases this
theorem d8j{l:List Oper}{ol:Oper}(hdep:d4d (l ++ [ol]).toArray=true)(hgd:∀o∈l ++ [ol],o.guard=none)(hlate:∀i,i < l.length→b8j (l ++ [ol]).toArray i ol)
 (hG:∀a w,G a w→ol.wp P a w (fun a w=>Q .normal a w) Q) :
 ∀(fuel:Nat) (m:Array Bool) (a:Act) (w:World),m.size=l.length→a4i (l ++ [ol]).toArray (m.push false)→anyS P l.toArray S G fuel m a w→wpAny P .any (l ++ [ol]).toArray Q (fuel + 1) (m.push false) a w:=by
 have hol:(l ++ [ol]).toArray[l.length]?=some ol:=by simp
 have hge:∀(i:Nat),i < l.length→(l ++ [ol]).toArray[i]?=l.toArray[i]?:=fun i hi=>by simp [List.getElem?_append_left hi]
 have hlast:∀(fuel:Nat) (m:Array Bool) (a:Act) (w:World),m.size=l.length→(∀j,j < l.length→(m.push false).getD j true=true)→G a w→wpOp P (l ++ [ol]).toArray Q l.length (wpAny P .any (l ++ [ol]).toArray Q fuel ((m.push false).setIfInBounds l.length true)) a w:=by
  intro fuel m a w hm hall hg
  have hw:∀y,Region.wanted ol y=true:=fun y=>by simp [Region.wanted,hgd ol (by simp)]
  have hr:Region.ready .any (l ++ [ol]).toArray ((m.push false).setIfInBounds l.length true)= []:=by
   rw [List.eq_nil_iff_forall_not_mem]
   intro j hj
   obtain⟨h1,o,ho,_⟩:=mem_ready.1 hj
   have hjl:j < l.length + 1:=by have:=(Array.getElem?_eq_some_iff.1 ho).1;simpa using this
   by_cases hjn:j=l.length
   ·subst hjn
    simp [Array.getD,hm]at h1
   ·have h2:=hall j (by omega)
    rw [getD_set_ne true (Ne.symm hjn)]at h1
    rw [h1]at h2
    cases h2
  unfold wpOp
  simp only [hol,hw,if_true]
  refine .inl (Oper.wp_mono (fun a' w' h'=>?_) (hG a w hg))
  cases fuel with
  | zero=>exact⟨hr,h'⟩
  | succ fuel=>exact⟨fun _=>h',fun i hi=>by rw [hr]at hi;cases hi⟩
 have hnr:∀(m:Array Bool),m.size=l.length→(∀j,j < l.length→(m.push false).getD j true=true)→Region.ready .any l.toArray m= []:=by
  intro m hm hall
  rw [List.eq_nil_iff_forall_not_mem]
  intro j hj
  obtain⟨h1,o,ho,_⟩:=mem_ready.1 hj
  have hjl:j < l.length:=by have:=(Array.getElem?_eq_some_iff.1 ho).1;simpa using this
  have h2:=hall j hjl
  have hjm:j < m.size:=by omega
  rw [a7x hjm,h1]at h2
  cases h2
 have hsome:∀(m:Array Bool),m.size=l.length→Region.ready .any (l ++ [ol]).toArray (m.push false)≠[]:=by
  intro m hm hr
  have:=c7a hdep (by simp [hm]) hr l.length (by simp)
  rw [b5a hm.symm]at this
  cases this
 have hready:∀(m:Array Bool) i,m.size=l.length→i < l.length→i∈Region.ready .any (l ++ [ol]).toArray (m.push false)→i∈Region.ready .any l.toArray m:=by
  intro m i hm hi h
  obtain⟨h1,o,ho,h2⟩:=mem_ready.1 h
  rw [mem_ready]
  have him:i < m.size:=by omega
  refine⟨?_,o,by rw [←hge i hi];exact ho,fun e he hb=>?_⟩
  ·rwa [a7x him]at h1
  ·have h3:=h2 e he hb
   have h4:=a4c hdep i o ho e he hb
   have hem:e.on < m.size:=by omega
   rwa [a7x hem]at h3
 have hlt:∀(m:Array Bool),m.size=l.length→a4i (l ++ [ol]).toArray (m.push false)→l.length∈Region.ready .any (l ++ [ol]).toArray (m.push false)→∀j,j < l.length→(m.push false).getD j true=true:=by
  intro m hm hc hi j hj
  cases hl:(m.push false).getD j true with
  | true=>rfl
  | false=>
    obtain⟨_,o,ho,h2⟩:=mem_ready.1 hi
    rw [hol]at ho
    cases ho
    obtain⟨e,he,hb,h3⟩:=hlate j hj _ hc hl
    have h4:=h2 e he hb
    have h5:=a4c hdep l.length ol hol e he hb
    have hem:e.on < (m.push false).size:=by simp;omega
    rw [d7q hem,h4]at h3
    cases h3
 intro fuel
 induction fuel with
 | zero=>
   intro m a w hm hc h
   refine⟨fun hr=>(hsome m hm hr).elim,fun i hi=>?_⟩
   have hil:i < l.length + 1:=by
    obtain⟨_,o,ho,_⟩:=mem_ready.1 hi
    have:=(Array.getElem?_eq_some_iff.1 ho).1;simpa using this
   by_cases hin:i=l.length
   ·subst hin
    exact hlast 0 m a w hm (hlt m hm hc hi) h.2
   ·have:=hready m i hm (by omega) hi
    rw [h.1]at this
    cases this
 | succ fuel ih=>
   intro m a w hm hc h
   refine⟨fun hr=>(hsome m hm hr).elim,fun i hi=>?_⟩
   have hil:i < l.length + 1:=by
    obtain⟨_,o,ho,_⟩:=mem_ready.1 hi
    have:=(Array.getElem?_eq_some_iff.1 ho).1;simpa using this
   by_cases hin:i=l.length
   ·subst hin
    exact hlast (fuel + 1) m a w hm (hlt m hm hc hi) (h.1 (hnr m hm (hlt m hm hc hi)))
   ·have hi2:i < l.length:=by omega
    have hri:=hready m i hm hi2 hi
    have hop:=h.2 i hri
    have hoi:l.toArray[i]?=some l[i]:=by simp [hi2]
    have e:(m.push false).setIfInBounds i true=(m.setIfInBounds i true).push false:=by
     have him:i < m.size:=by omega
     apply Array.ext_getElem?
     intro j
     simp only [Array.getElem?_setIfInBounds,Array.getElem?_push,Array.size_push,Array.size_setIfInBounds]
     by_cases h1:i=j
     ·subst h1
      have h2:i < m.size + 1:=by omega
      have h3:¬i=m.size:=by omega
      simp [him,h2,h3]
     ·simp [h1]
    have h3:wpOp P l.toArray T0 i (wpAny P .any (l ++ [ol]).toArray Q (fuel + 1) ((m.push false).setIfInBounds i true)) a w:=wpOp_mono (fun a' w' hh=>by
     rw [e]
     refine ih _ a' w' (by simpa using hm) ?_ hh.2
     rw [←e]
     exact hc.set hi) hop
    exact d7h hoi ((hge i hi2).trans hoi) (hgd _ (by simp)) h3
def lastB(ops:Array Oper):Bool:=d4d ops && (ops.all (fun o=>o.guard.isNone) && c8j 0 ops.toList [] (fun acc=>(List.range (ops.size - 1)).all fun i=>(acc.getD 0 0).testBit i))
theorem b0y(F:List Nat)(S:World→Prop){id:Nat}{a:Act}{w:World}{ops:Array Oper}(l:List Oper)(ol:Oper)(hops:ops=(l ++ [ol]).toArray)(ss:List (List Oper))(hm:P.follows .mixedOrders=true)(hB:c4m P l.toArray F=true)(hL:lastB (l ++ [ol]).toArray=true)
 (hss:parts P l=ss) (hS:S w.drew) (h:b1f P l.toArray S (a5q P l.toArray F S (fun _ a w=>ol.wp P a w (fun a w=>Q .normal a w) Q)) ss a w.drew):(Code.region id ops true).wp P Q a w:=by
 subst hops
 simp only [lastB,Bool.and_eq_true]at hL
 obtain⟨hdep2,hgd,hrows2⟩:=hL
 simp only [c4m,Bool.and_eq_true]at hB
 obtain⟨⟨⟨hns,hset⟩,hdep⟩,hrows⟩:=hB
 obtain⟨acc,hinv,hpr⟩:=a8x hdep l 0 [] (by simp) ⟨rfl,fun e he=>by omega⟩ (by simpa using hrows)
 have hpair:∀i j oi oj,i < j→l.toArray[i]?=some oi→l.toArray[j]?=some oj→¬b8j l.toArray i oj→b3s P l.toArray F i j oi oj=true:=
  fun i j oi oj hij hi hj hn=>b4t (by simpa using hinv) hpr hij hi hj hn
 obtain⟨acc2,hinv2,hpr2⟩:=a8x hdep2 (l ++ [ol]) 0 [] (by simp) ⟨rfl,fun e he=>by omega⟩ (by simpa using hrows2)
 have hG:∀a w,a5q P l.toArray F S (fun _ a w=>ol.wp P a w (fun a w=>Q .normal a w) Q) a w→Good P l.toArray F S a:=fun _ _ h=>h.1
 have hsel:=Region.noSelect_spec hns
 have h1:b7s P l.toArray S (a5q P l.toArray F S (fun _ a w=>ol.wp P a w (fun a w=>Q .normal a w) Q)) l.length 0 a w.drew:=by
  subst hss
  have hpn:=b3a (P:=P) l
  have hpf:=a6x (P:=P) l
  have hpo:=b7i (P:=P) l
  cases hp:parts P l with
  | nil=>exact absurd hp hpn
  | cons s ss=>
    rw [hp]at h hpf hpo
    have:=b7t hG hset (a4c hdep) hsel ss s 0 a w.drew hS hpo (fun j=>by
     have:s ++ ss.flatten=l:=by simpa using hpf
     rw [this];simp) h
    have e:s ++ ss.flatten=l:=by simpa using hpf
    rw [e]at this
    exact this
 have h2:=b1q hG hset hdep hpair hsel l.length 0 (Array.replicate l.toArray.size false) a w.drew hS (by simp) (by simp) (fun j hj=>by simp at hj;simp [hj]) (a4i.start _) h1
 refine wp_region_any hm ?_
 have e:Array.replicate (l ++ [ol]).toArray.size false=(Array.replicate l.toArray.size false).push false:=by
  apply Array.ext'
  simp [List.replicate_succ']
 have h3:=d8j (Q:=Q) hdep2 (fun o ho=>by
  have:=Array.all_eq_true_iff_forall_mem.1 hgd o (by simpa using ho)
  simpa using this) (fun i hi=>by
  have ht:=List.all_eq_true.1 hpr2 i (by simpa using hi)
  have:=hinv2.2 l.length (by simp) i ol (by simp)
  simp only [Nat.zero_add,List.length_append,List.length_cons,List.length_nil,Nat.add_sub_cancel,Nat.sub_self]at this
  exact this ht) (fun a w hh=>hh.2) l.length (Array.replicate l.toArray.size false) a w.drew (by simp) (by rw [←e];exact a4i.start _) h2
 rw [e]
 simpa using h3
end
end Go.Txt
