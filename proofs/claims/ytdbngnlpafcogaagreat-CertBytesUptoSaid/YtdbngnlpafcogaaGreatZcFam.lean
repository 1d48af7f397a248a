/-
  The order of a region that draws: the theorem.
  A region that draws its order, walked in the text's order, where a reading may float over what acts: the text is walked in segments, each ending with what acts; in every world between two segments a property S holds; what floats reads the same in every world of S.
  A region that draws its order, walked in segments: the theorem.
  A region that draws its order, by what is known of the operations that have come up; a statement 'x, y := f(a), g(b)' whose variables lie in memory.
  A region that draws its order, in which the last operation comes behind all others: what comes ahead of it gives values.
  What floats over calls: loads of whole rows, equalities of arrays.
  Words for memory: a part of a block, read by value.
  Words for memory: arrays whose entries have many cells.
  A region that draws its order, as in Text4, by a check that goes for great regions too.
  Operations by their slots: arms that fail fast; operations whose answer is given outright.
  Words for memory: rows whose elements have many cells: an element's place, copy, clear, append in place, append of make where there is no room.
  Words for memory: an array of n cells, told by a function; a loop that changes cell after cell.
-/
import Derived.Test.YtdbngnlpafcogaaGreatZcText
import Derived.Deep.MidRow
import Derived.Great.BuildSlice
set_option maxRecDepth 100000
namespace Go.Txt
section
variable {P:Program} {ops:Array Oper} {T:Exit→Act→World→Prop}
theorem c3i(h:settled P ops=true){j k:Nat}{oj ok:Oper}(hj:ops[j]?=some oj)(hc:a3s P oj.op=1)(hk:ops[k]?=some ok){t:Tmp}(ht:t∈oj.looksAt ops)(hd:ok.dst=some t) :
 ∃e∈oj.after,Region.binds .any e=true∧e.on=k:=by
 unfold settled at h
 have h1:=List.all_eq_true.1 h oj (by
  have:ops.toList[j]?=some oj:=by simpa using hj
  exact List.mem_of_getElem? this)
 simp only [hc,bne_self_eq_false,Bool.false_or]at h1;have hlt:k < ops.size:=(Array.getElem?_eq_some_iff.1 hk).1;have h2:=List.all_eq_true.1 h1 k (by simpa using hlt);simp only [hk,Option.bind_some,hd]at h2;have hcon:(oj.looksAt ops).contains t=true:=by simpa using ht
 rw [hcon]at h2;simp only [Bool.not_true,Bool.false_or]at h2;obtain⟨e,he,hb⟩:=List.any_eq_true.1 h2;simp only [Bool.and_eq_true,beq_iff_eq]at hb;exact⟨e,by simpa using he,hb.1,hb.2⟩
theorem b7l(hT:∀e a w,T e a w→e= .normal)(hset:settled P ops=true)(hplain:∀e a w,T e a w→b3l P ops a=true)
 {j:Nat} {oj:Oper} (hoj:ops[j]?=some oj) (hc:a3s P oj.op=1) {listed:Array Bool} (hr:j∈Region.ready .any ops listed)
 {i:Nat} {oi:Oper} (hoi:ops[i]?=some oi) (hi:listed.getD i true=false) {fuel:Nat} {a:Act} {w:World}
 (h:wpOp P ops T i (wpAny P .any ops T fuel (listed.setIfInBounds i true)) a w) (hw:Region.wanted oj (yielded ops a.tmps)=true):a8r a.eval oj.op=true:=by
 obtain⟨_,oj',hoj',hall⟩:=mem_ready.1 hr;rw [hoj]at hoj'
 cases hoj'
 have unl:∀(k:Nat) (ok:Oper) (t:Tmp),ops[k]?=some ok→t∈oj.looksAt ops→ok.dst=some t→listed.getD k true=true:=by
  intro k ok t hk ht hd;obtain⟨e,he,hb,rfl⟩:=c3i hset hoj hc hk ht hd;have:=hall e he hb;rcases Nat.lt_or_ge e.on listed.size with h' | h'
  ·simp [h']at this ⊢;exact this
  ·simp [Array.getElem?_eq_none h']at this
 obtain⟨a1,w1,h1,k1⟩:=a5j hT hoi h;obtain⟨a2,w2,h2,k2⟩:=b8q hT _ _ _ _ h1;have same:∀t∈oj.looksAt ops,a2.tmps[t]?=a.tmps[t]?:=by
  intro t ht;rw [k2 t fun k ok hk hu hd=>?_,k1 t fun hd=>?_]
  ·have:=unl i oi t hoi ht hd;rw [hi]at this;cases this
  ·have hl:=unl k ok t hk ht hd;by_cases hik:i=k
   ·subst hik;rw [hi]at hl;cases hl
   ·rw [getD_set_ne true hik,hl]at hu;cases hu
 obtain⟨s1,s2⟩:=a9i same;have hp:=hplain _ _ _ h2;unfold b3l at hp
 have:=List.all_eq_true.1 hp oj (by
  have:ops.toList[j]?=some oj:=by simpa using hoj
  exact List.mem_of_getElem? this)
 rw [s1,hw]at this;simp only [hc,bne_self_eq_false,Bool.not_true,Bool.or_self,Bool.false_or]at this;rw [←this];exact(b3r s2).symm
theorem b4i(hT:∀e a w,T e a w→e= .normal)(hset:settled P ops=true)(hplain:∀e a w,T e a w→b3l P ops a=true)
 (hsel:∀(j:Nat) (o:Oper) cs b,ops[j]?=some o→o.op≠.select cs b) {i:Nat} {oi:Oper} (hoi:ops[i]?=some oi) :
 ∀(fuel:Nat) (listed:Array Bool) (a:Act) (w:World),
  a4z ops listed→
  (∀j oj,ops[j]?=some oj→j≠i→listed.getD j true=false→¬b9r ops i oj→c3f P ops oi oj=true)→
  i∈Region.ready .any ops listed→
  wpOp P ops T i (wpAny P .any ops T fuel (listed.setIfInBounds i true)) a w→wpAny P .any ops T (fuel + 1) listed a w:=by
 intro fuel
 induction fuel with
 | zero=>
   intro listed a w _ _ hr H;refine⟨fun h=>(by rw [h]at hr;cases hr),fun j hj=>?_⟩;by_cases hji:j=i
   ·subst hji;exact H
   ·obtain⟨a1,w1,h1,_⟩:=a5j hT hoi H;have:=ready_mono hj hji;rw [h1.1]at this
    cases this
 | succ fuel ih=>
   intro listed a w hclo hfree hr H;refine⟨fun h=>(by rw [h]at hr;cases hr),fun j hj=>?_⟩;by_cases hji:j=i
   ·subst hji;exact H
   ·obtain⟨hjun,oj,hoj,hall⟩:=mem_ready.1 hj;have hiun:=(mem_ready.1 hr).1;have hnot:¬b9r ops i oj:=c6e hclo hoj hj hiun;have hpair:=hfree j oj hoj hji hjun hnot;have hfree':∀k ok,ops[k]?=some ok→k≠i→(listed.setIfInBounds j true).getD k true=false→
     ¬b9r ops i ok→c3f P ops oi ok=true:=fun k ok hk hki hun hno=>by
     refine hfree k ok hk hki ?_ hno;by_cases hjk:j=k
     ·subst hjk;exact hjun
     ·rw [getD_set_ne true hjk]at hun;exact hun
    have hsi:=fun cs b=>hsel i oi cs b hoi
    have hsj:=fun cs b=>hsel j oj cs b hoj
    unfold c3f at hpair;simp only [Bool.and_eq_true,Bool.or_eq_true,decide_eq_true_eq,beq_iff_eq]at hpair;obtain⟨hap,hcl⟩:=hpair;have H':wpOp P ops T i (fun a' w'=>wpOp P ops T j (wpAny P .any ops T fuel ((listed.setIfInBounds i true).setIfInBounds j true)) a' w') a w:=
     wpOp_mono (fun a' w' hh=>hh.2 j (ready_mono hj hji)) H
    have H'':wpOp P ops T j (fun a' w'=>wpOp P ops T i (wpAny P .any ops T fuel ((listed.setIfInBounds i true).setIfInBounds j true)) a' w') a w:=by
     rcases hcl with(hci | hcj) | ⟨hci,hcj⟩
     ·have hf:Region.wanted oi (yielded ops a.tmps)=true→d1l P (execOp a.eval oi):=fun hw=>b1e hci fun h1=>b7l hT hset hplain hoi h1 hr hoi hiun H hw
      obtain⟨v,hy,hK⟩:=c1j hoi hT hf H';refine wpOp_mono (fun a' w' hh=>hh.1.wpOp hoi hh.2) (wpOp_put hoj hap hsi hsj (fun c a w h=>?_) hy hK);have:=hT _ _ _ h;cases this
     ·have hf:Region.wanted oj (yielded ops a.tmps)=true→d1l P (execOp a.eval oj):=fun hw=>b1e hcj fun h1=>b7l hT hset hplain hoj h1 hj hoi hiun H hw
      have:∃v,Yields P ops oj v a:=by
       by_cases hw:Region.wanted oj (yielded ops a.tmps)=true
       ·obtain⟨a1,w1,h1,k1⟩:=a5j hT hoi H';obtain⟨g1,g2,g3⟩:=Oper.apart_spec hap;have hs:∀t∈oj.looksAt ops,a1.tmps[t]?=a.tmps[t]?:=fun t ht=>k1 t fun hd=>g1 t hd ht
        obtain⟨s1,s2⟩:=a9i hs;have hex:execOp a1.eval oj=execOp a.eval oj:=execOp_congr oj hsj s2;obtain⟨v,hy,_⟩:=c1j hoj hT (fun _=>by rw [hex];exact hf hw) h1;exact⟨v,hy.of_same hex.symm s1.symm⟩
       ·exact⟨undef,.inr ⟨by simpa using hw,rfl⟩⟩
      obtain⟨v,hy⟩:=this;exact hy.wpOp hoj (d0r hoi hoj hap hsi hsj hT hy H')
     ·exact c9o hoi hoj hap hsi hsj hT hci hcj H'
    refine wpOp_mono (fun a' w' hh=>ih (listed.setIfInBounds j true) a' w' (hclo.set hj) hfree' (ready_mono hr (Ne.symm hji)) ?_) H'';rw [Array.setIfInBounds_comm _ _ hji];exact hh
theorem b9c{listed:Array Bool}{i:Nat}{oi:Oper}(hi:ops[i]?=some oi)(h:b9f P ops listed i=true) :
 ∀j oj,ops[j]?=some oj→j≠i→listed.getD j true=false→¬b9r ops i oj→c3f P ops oi oj=true:=by
 intro j oj hj hji hun hno;unfold b9f at h;simp only [hi]at h;have hlt:j < ops.size:=(Array.getElem?_eq_some_iff.1 hj).1;have h2:=List.all_eq_true.1 h j (by simpa using hlt);rw [hun]at h2;simp only [hj,Bool.or_false,Bool.or_eq_true,beq_iff_eq]at h2;rcases h2 with h2 | h2 | h2
 ·exact(hji h2).elim
 ·exact(hno (b1f _ _ (fun j=>by simp) (fun j oj _ h=>by simp at h) j oj hj h2)).elim
 ·exact h2
theorem b7w(hT:∀e a w,T e a w→e= .normal)(hset:settled P ops=true)(hplain:∀e a w,T e a w→b3l P ops a=true)
 (hsel:∀(j:Nat) (o:Oper) cs b,ops[j]?=some o→o.op≠.select cs b):∀(l:List Oper) (k:Nat) (listed:Array Bool) (a:Act) (w:World),(∀j,l[j]?=ops[k + j]?)→a4z ops listed→
 b2i P ops l.length k listed=true→wpList P ops T l a w→wpAny P .any ops T l.length listed a w
 | [],_,_,_,_,_,_,hB,h=>⟨by simpa [b2i]using hB,h⟩
 | o :: l,k,listed,a,w,hl,hc,hB,h=>by
   have h0:ops[k]?=some o:=by simpa using(hl 0).symm
   simp only [List.length_cons,b2i,Bool.and_eq_true]at hB;obtain⟨⟨hr,hf⟩,hB'⟩:=hB;have hst:wpOp P ops T k (wpList P ops T l) a w:=by unfold wpOp;simp only [h0];exact h
   refine b4i hT hset hplain hsel h0 l.length listed a w hc (b9c h0 hf) (by simpa using hr) ?_;exact wpOp_mono (fun a' w' hh=>b7w hT hset hplain hsel l (k + 1) _ a' w' (fun j=>by have:=hl (j + 1);simpa [Nat.add_assoc,Nat.add_comm 1 j]using this) (hc.set (by simpa using hr)) hB' hh) hst
def Post(P:Program)(ops:Array Oper)(Q:Exit→Act→World→Prop)(e:Exit)(a:Act)(w:World):Prop:=e= .normal∧b3l P ops a=true∧Q .normal a w
theorem a2g{id:Nat}{Q:Exit→Act→World→Prop}{a:Act}{w:World}{l:List Oper}(hm:P.follows .mixedOrders=true)(hB:textB P l.toArray=true)
 (h:wpList P l.toArray (Post P l.toArray Q) l a w.drew):(Code.region id l.toArray true).wp P Q a w:=by
 simp only [textB,Bool.and_eq_true]at hB;obtain⟨⟨hns,hset⟩,hB⟩:=hB;have hT:∀e a w,Post P l.toArray Q e a w→e= .normal:=fun _ _ _ h=>h.1
 have hplain:∀e a w,Post P l.toArray Q e a w→b3l P l.toArray a=true:=fun _ _ _ h=>h.2.1
 have h1:=b7w hT hset hplain (Region.noSelect_spec hns) l 0 (Array.replicate l.toArray.size false) a w.drew (by simp) (a4z.start _) (by simpa using hB) h;refine wp_region_any hm ?_;have mono:∀(fuel:Nat) (listed:Array Bool) (a:Act) (w:World),wpAny P .any l.toArray (Post P l.toArray Q) fuel listed a w→wpAny P .any l.toArray Q fuel listed a w:=by
  intro fuel
  induction fuel with
  | zero=>exact fun listed a w h=>⟨h.1,h.2.2.2⟩
  | succ fuel ih=>
    intro listed a w h;refine⟨fun h0=>(h.1 h0).2.2,fun i hi=>?_⟩;have h2:=wpOp_mono (fun a' w' hh=>ih _ a' w' hh) (h.2 i hi);unfold wpOp at h2 ⊢;split
    ·rename_i ho;simp only [ho]at h2;exact h2
    ·rename_i o ho
     simp only [ho]at h2;split
     ·rename_i hw
      simp only [hw,if_true]at h2;rcases h2 with h2 | ⟨_,hl⟩
      case inr=>exact(a2k hT hl).elim
      refine .inl ?_;unfold Oper.wp at h2 ⊢;generalize (execOp a.eval o).run P w=r at *
      cases r with
      | ok n w'=>
        cases n <;> simp only [Oper.upon]at h2 ⊢ <;> first
         | exact h2
         | exact Calls.mono h2 fun e w'' he=>by
            cases e with
            | returned u=>exact he
            | panicked c=>have:=hT _ _ _ he;cases this
            | outgrown=>exact(a2k hT he).elim
      | halt x w'=>
        cases x <;> simp only [Oper.upon]at h2 ⊢
        case panic u=>have:=hT _ _ _ h2;cases this
     ·rename_i hw;simp only [hw]at h2;exact h2
 have:=mono _ _ _ _ h1;simpa using this
end
end Go.Txt
namespace Go.Txt
def b6v(P:Program)(F:List Nat)(i:Nat)(o:Oper):Nat:=if F.contains i then 1 else a3s P o.op
def b4k(P:Program)(ops:Array Oper)(F:List Nat)(i j:Nat)(x y:Oper):Bool:=
 x.apart ops y && (b6v P F i x≤1 || b6v P F j y≤1 || (b6v P F i x == 2 && b6v P F j y == 2))
def a6y(P:Program)(ops:Array Oper)(F:List Nat):Bool:=
 (List.range ops.size).all fun j=>match ops[j]? with
   | none=>true
   | some o=>b6v P F j o !=1 || ((List.range ops.size).all fun k=>
     match (ops[k]?).bind (·.dst)with
     | some t=>(!(o.looksAt ops).contains t || o.after.toList.any fun e=>Region.binds .any e && e.on == k) && (!F.contains j || k == j || o.dst !=some t)
     | none=>true)
def e5h(P:Program)(ops:Array Oper)(F:List Nat)(listed:Array Bool)(i:Nat):Bool:=
 match ops[i]? with
 | none=>false
 | some oi=>(List.range ops.size).all fun j=>j == i || listed.getD j true ||
   match ops[j]? with
   | none=>true
   | some oj=>(behind i ops.toList #[]).getD j false || b4k P ops F i j oi oj
def d4x(P:Program)(ops:Array Oper)(F:List Nat):Nat→Nat→Array Bool→Bool
 | 0,_,listed=>(Region.ready .any ops listed).isEmpty
 | fuel + 1,k,listed=>(Region.ready .any ops listed).contains k && e5h P ops F listed k && d4x P ops F fuel (k + 1) (listed.setIfInBounds k true)
def textF(P:Program)(ops:Array Oper)(F:List Nat):Bool:=
 Region.noSelect ops && a6y P ops F && d4x P ops F ops.size 0 (Array.replicate ops.size false)
def parts(P:Program):List Oper→List (List Oper)
 | []=>[[]]
 | o :: l=>match parts P l with
   | []=>[[o]]
   | p :: ps=>if a3s P o.op=3 then [o] :: p :: ps else(o :: p) :: ps
def Good(P:Program)(ops:Array Oper)(F:List Nat)(S:World→Prop)(a:Act):Prop:=
 ((List.range ops.size).all fun j=>match ops[j]? with
   | none=>true
   | some o=>F.contains j || a3s P o.op !=1 || !Region.wanted o (yielded ops a.tmps) || a8r a.eval o.op)=true∧
 ∀j∈F,∀o,ops[j]?=some o→Region.wanted o (yielded ops a.tmps)=true→∃d,o.dst=some d∧∀w,S w→(execOp a.eval o).run P w= .ok (.value (a.tmps.getD d undef)) w
def b6s(S:World→Prop)(K:Act→World→Prop)(e:Exit)(a:Act)(w:World):Prop:=e= .normal∧S w∧K a w
def a3j(P:Program)(ops:Array Oper)(S:World→Prop)(G:Act→World→Prop):List (List Oper)→Act→World→Prop
 | []=>G
 | s :: ss=>fun a w=>wpList P ops (b6s S (a3j P ops S G ss)) s a w
def T0:Exit→Act→World→Prop:=fun _ _ _=>False
theorem hT0:∀e a w,T0 e a w→e= .normal:=fun _ _ _ h=>h.elim
section
variable {P:Program} {ops:Array Oper} {F:List Nat} {S:World→Prop} {G:Act→World→Prop}
def opS(P:Program)(ops:Array Oper)(S:World→Prop)(i:Nat)(K:Act→World→Prop)(a:Act)(w:World):Prop:=wpOp P ops T0 i (fun a' w'=>S w'∧K a' w') a w
theorem b5b{i:Nat}{K K':Act→World→Prop}{a:Act}{w:World}(h:∀a w,S w→K a w→K' a w)(hh:opS P ops S i K a w):opS P ops S i K' a w:=
 wpOp_mono (fun a w hk=>⟨hk.1,h a w hk.1 hk.2⟩) hh
def anyS(P:Program)(ops:Array Oper)(S:World→Prop)(G:Act→World→Prop):Nat→Array Bool→Act→World→Prop
 | 0,listed,a,w=>Region.ready .any ops listed= []∧G a w
 | fuel + 1,listed,a,w=>(Region.ready .any ops listed= []→G a w)∧∀i∈Region.ready .any ops listed,opS P ops S i (anyS P ops S G fuel (listed.setIfInBounds i true)) a w
theorem c1s:∀(fuel:Nat) (listed:Array Bool) (a:Act) (w:World),anyS P ops S G fuel listed a w→
 ∃a' w',G a' w'∧∀t,(∀j o,ops[j]?=some o→listed.getD j true=false→o.dst≠some t)→a'.tmps[t]?=a.tmps[t]?
 | 0,_,a,w,h=>⟨a,w,h.2,fun _ _=>rfl⟩
 | fuel + 1,listed,a,w,h=>by
   cases hr:Region.ready .any ops listed with
   | nil=>exact⟨a,w,h.1 hr,fun _ _=>rfl⟩
   | cons i rs=>
     have hi:i∈Region.ready .any ops listed:=by rw [hr];simp
     obtain⟨hun,oi,hoi,_⟩:=mem_ready.1 hi;obtain⟨a1,w1,h1,k1⟩:=a5j hT0 hoi (h.2 i hi);obtain⟨a2,w2,h2,k2⟩:=c1s fuel _ a1 w1 h1.2;refine⟨a2,w2,h2,fun t ht=>?_⟩;rw [k2 t fun j o hj hu=>?_,k1 t (ht i oi hoi hun)];refine ht j o hj ?_;by_cases hij:i=j
     ·subst hij;exact hun
     ·rw [getD_set_ne true hij]at hu;exact hu
def a5h(P:Program)(ops:Array Oper)(S:World→Prop)(o:Oper)(v:Value)(a:Act):Prop:=
 (Region.wanted o (yielded ops a.tmps)=true∧∀w,S w→(execOp a.eval o).run P w= .ok (.value v) w)∨
 (Region.wanted o (yielded ops a.tmps)=false∧v=undef)
theorem a5h.opS{i:Nat}{o:Oper}{v:Value}{a:Act}(hi:ops[i]?=some o)(hy:a5h P ops S o v a){K:Act→World→Prop}{w:World}(hw:S w)(h:K (a.put o.dst v) w):opS P ops S i K a w:=by
 unfold Txt.opS wpOp;simp only [hi];rcases hy with⟨hwn,hv⟩ | ⟨hwn,rfl⟩
 ·simp only [hwn,if_true,Oper.wp,hv w hw,Oper.upon];exact .inl ⟨hw,h⟩
 ·simp only [hwn,Bool.false_eq_true,if_false];exact⟨hw,h⟩
theorem a5h.of_same{o:Oper}{v:Value}{a a':Act}(hy:a5h P ops S o v a)(he:execOp a'.eval o=execOp a.eval o)
 (hw:Region.wanted o (yielded ops a'.tmps)=Region.wanted o (yielded ops a.tmps)):a5h P ops S o v a':=by
 unfold a5h at *;rw [he,hw];exact hy
theorem c9p{oj:Oper}{j:Nat}(hoj:ops[j]?=some oj){a:Act}{w:World}(hw:S w){K:Act→World→Prop}{v:Value}(hy:a5h P ops S oj v a)
 (h:opS P ops S j K a w):K (a.put oj.dst v) w:=by
 unfold opS wpOp at h;simp only [hoj]at h;rcases hy with⟨hwn,hv⟩ | ⟨hwn,rfl⟩
 ·rw [if_pos hwn]at h;rcases h with h | ⟨_,hl⟩
  case inr=>exact(a2k hT0 hl).elim
  unfold Oper.wp at h;rw [hv w hw]at h;exact h.2
 ·rw [if_neg (by simp [hwn])]at h;exact h.2
theorem d5y{i j:Nat}{oi oj:Oper}{v:Value}(hoi:ops[i]?=some oi)(hoj:ops[j]?=some oj)(hap:oi.apart ops oj=true)
 (hsi:∀cs b,oi.op≠.select cs b) (hsj:∀cs b,oj.op≠.select cs b) {K:Act→World→Prop} {a:Act} {w:World}
 (hy:a5h P ops S oj v a) (h:opS P ops S i (fun a' w'=>opS P ops S j K a' w') a w):opS P ops S i K (a.put oj.dst v) w:=by
 obtain⟨h1,h2,h3⟩:=Oper.apart_spec hap;have d1h:∀(d:List Deferred) (u:Value),a5h P ops S oj v (({a with defers:=d}:Act).put oi.dst u):=fun d u=>
  hy.of_same (execOp_put oj hsj {a with defers:=d} oi.dst u h1) (wanted_put oj {a with defers:=d} oi.dst u h1)
 have comm:∀(d:List Deferred) (u:Value),(({a with defers:=d}:Act).put oi.dst u).put oj.dst v=({a.put oj.dst v with defers:=d}:Act).put oi.dst u:=fun d u=>by
  rw [Act.put_comm _ u v h2]
  cases oj.dst <;> rfl
 have go:∀(d:List Deferred) (u:Value) (w':World),(S w'∧opS P ops S j K (({a with defers:=d}:Act).put oi.dst u) w')→(S w'∧K (({a.put oj.dst v with defers:=d}:Act).put oi.dst u) w'):=fun d u w' hh=>by
  refine⟨hh.1,?_⟩;rw [←comm d u];exact c9p hoj hh.1 (d1h d u) hh.2
 have hdef:(a.put oj.dst v).defers=a.defers:=by cases oj.dst <;> rfl
 have same:∀u,({a.put oj.dst v with defers:=a.defers}:Act).put oi.dst u=(a.put oj.dst v).put oi.dst u:=fun u=>by
  cases hd:oj.dst <;> rfl
 unfold opS wpOp at h;unfold opS wpOp;simp only [hoi]at h ⊢;rw [wanted_put oi a oj.dst v h3];split
 ·rename_i hw
  rw [if_pos hw]at h;rcases h with h | ⟨_,hl⟩
  case inr=>exact(a2k hT0 hl).elim
  refine .inl ?_;unfold Oper.wp at *;rw [execOp_put oi hsi a oj.dst v h3];generalize (execOp a.eval oi).run P w=r at *
  cases r with
  | ok n w'=>
    cases n <;> simp only [Oper.upon]at h ⊢
    case value u=>have:=go a.defers u w' h;rwa [same]at this
    case skip=>have:=go a.defers undef w' h;rwa [same]at this
    case defer d=>have:=go (d :: a.defers) undef w' h;rw [hdef];exact this
    case enter f args=>
     refine Calls.mono h fun e w'' he=>?_
     cases e with
     | returned u=>have:=go a.defers u w'' he;rwa [same]at this
     | panicked c=>exact he
     | outgrown=>exact he
    case row row args=>
     refine Rows.mono h fun u w'' he=>?_
     have:=go a.defers u w'' he;rwa [same]at this
  | halt x w'=>
    cases x <;> simp only [Oper.upon]at h ⊢
    case panic u=>exact h
 ·rename_i hw
  rw [if_neg hw]at h;have:=go a.defers undef w h;rwa [same]at this
theorem e7q{i j:Nat}{oi oj:Oper}{v:Value}(hoi:ops[i]?=some oi)(hoj:ops[j]?=some oj)(hap:oi.apart ops oj=true)
 (hsi:∀cs b,oi.op≠.select cs b) (hsj:∀cs b,oj.op≠.select cs b) {K:Act→World→Prop} {a:Act} {w:World}
 (hy:a5h P ops S oi v a) (h:opS P ops S j K (a.put oi.dst v) w):opS P ops S j (fun a' w'=>opS P ops S i K a' w') a w:=by
 obtain⟨h1,h2,h3⟩:=Oper.apart_spec hap;have d1h:∀(d:List Deferred) (u:Value),a5h P ops S oi v (({a with defers:=d}:Act).put oj.dst u):=fun d u=>
  hy.of_same (execOp_put oi hsi {a with defers:=d} oj.dst u h3) (wanted_put oi {a with defers:=d} oj.dst u h3)
 have comm:∀(d:List Deferred) (u:Value),({a.put oi.dst v with defers:=d}:Act).put oj.dst u=(({a with defers:=d}:Act).put oj.dst u).put oi.dst v:=fun d u=>by
  rw [Act.put_comm _ u v (fun d hd he=>h2 d he hd)]
  cases oi.dst <;> rfl
 have go:∀(d:List Deferred) (u:Value) (w':World),(S w'∧K (({a.put oi.dst v with defers:=d}:Act).put oj.dst u) w')→(S w'∧opS P ops S i K (({a with defers:=d}:Act).put oj.dst u) w'):=fun d u w' hh=>by
  refine⟨hh.1,(d1h d u).opS hoi hh.1 ?_⟩;rw [←comm d u];exact hh.2
 have hdef:(a.put oi.dst v).defers=a.defers:=by cases oi.dst <;> rfl
 have same:∀u,({a.put oi.dst v with defers:=a.defers}:Act).put oj.dst u=(a.put oi.dst v).put oj.dst u:=fun u=>by
  cases hd:oi.dst <;> rfl
 unfold opS wpOp at h;unfold opS wpOp;simp only [hoj]at h ⊢;rw [wanted_put oj a oi.dst v h1]at h;split
 ·rename_i hw
  rw [if_pos hw]at h;rcases h with h | ⟨_,hl⟩
  case inr=>exact(a2k hT0 hl).elim
  refine .inl ?_;unfold Oper.wp at *;rw [execOp_put oj hsj a oi.dst v h1]at h;generalize (execOp a.eval oj).run P w=r at *
  cases r with
  | ok n w'=>
    cases n <;> simp only [Oper.upon]at h ⊢
    case value u=>exact go a.defers u w' (by rw [same];exact h)
    case skip=>exact go a.defers undef w' (by rw [same];exact h)
    case defer d=>rw [hdef]at h;exact go (d :: a.defers) undef w' h
    case enter f args=>
     refine Calls.mono h fun e w'' he=>?_
     cases e with
     | returned u=>exact go a.defers u w'' (by rw [same];exact he)
     | panicked c=>exact he
     | outgrown=>exact he
    case row row args=>exact Rows.mono h fun u w'' he=>go a.defers u w'' (by rw [same];exact he)
  | halt x w'=>
    cases x <;> simp only [Oper.upon]at h ⊢
    case panic u=>exact h
 ·rename_i hw
  rw [if_neg hw]at h;exact go a.defers undef w (by rw [same];exact h)
theorem d7j{i j:Nat}{oi oj:Oper}(hoi:ops[i]?=some oi)(hoj:ops[j]?=some oj)(hap:oi.apart ops oj=true)
 (hsi:∀cs b,oi.op≠.select cs b) (hsj:∀cs b,oj.op≠.select cs b) {K:Act→World→Prop} {a:Act} {w:World} (hw:S w)
 (hi:a3s P oi.op=2) (hj:a3s P oj.op=2) (h:opS P ops S i (fun a' w'=>opS P ops S j K a' w') a w):opS P ops S j (fun a' w'=>opS P ops S i K a' w') a w:=by
 obtain⟨h1,h2,h3⟩:=Oper.apart_spec hap;have look:∀(k:Nat) (o:Oper) (b:Act) (K:Act→World→Prop),ops[k]?=some o→a3s P o.op=2→opS P ops S k K b w→
  ∃v,K (b.put o.dst v) w∧((Region.wanted o (yielded ops b.tmps)=true∧(execOp b.eval o).run P w= .ok (.value v) w)∨(Region.wanted o (yielded ops b.tmps)=false∧v=undef)):=by
  intro k o b K hk hc h;obtain⟨dst,op,t,pos,af,g⟩:=o;unfold opS wpOp at h;simp only [hk]at h;split at h
  ·rename_i hwn
   rcases h with h | ⟨_,hl⟩
   case inr=>exact(a2k hT0 hl).elim
   unfold Oper.wp at h
   cases hr:(execOp b.eval ⟨dst,op,t,pos,af,g⟩).run P w with
   | ok n w'=>
     obtain⟨rfl,v,rfl⟩:=c7m hc b.eval dst t pos af g _ _ _ hr;rw [hr]at h;exact⟨v,h.2,.inl ⟨hwn,rfl⟩⟩
   | halt x w'=>
     rw [hr]at h
     cases x <;> simp only [Oper.upon]at h
     case panic u=>exact h.elim
  ·rename_i hwn
   exact⟨undef,h.2,.inr ⟨by simpa using hwn,rfl⟩⟩
 have back:∀(k:Nat) (o:Oper) (b:Act) (K:Act→World→Prop) (v:Value),ops[k]?=some o→K (b.put o.dst v) w→
  ((Region.wanted o (yielded ops b.tmps)=true∧(execOp b.eval o).run P w= .ok (.value v) w)∨(Region.wanted o (yielded ops b.tmps)=false∧v=undef))→opS P ops S k K b w:=by
  intro k o b K v hk hK hh;unfold opS wpOp;simp only [hk];rcases hh with⟨hwn,hv⟩ | ⟨hwn,rfl⟩
  ·simp only [hwn,if_true,Oper.wp,hv,Oper.upon];exact .inl ⟨hw,hK⟩
  ·simp only [hwn,Bool.false_eq_true,if_false];exact⟨hw,hK⟩
 obtain⟨u,hu,ru⟩:=look i oi a _ hoi hi h;obtain⟨v,hv,rv⟩:=look j oj _ _ hoj hj hu;rw [wanted_put oj a oi.dst u h1,execOp_put oj hsj a oi.dst u h1]at rv;refine back j oj a _ v hoj (back i oi _ _ u hoi ?_ ?_) rv
 ·rw [←Act.put_comm a u v h2];exact hv
 ·rw [wanted_put oi a oj.dst v h3,execOp_put oi hsi a oj.dst v h3];exact ru
theorem a8e(h:a6y P ops F=true){j k:Nat}{oj ok:Oper}(hj:ops[j]?=some oj)(hc:b6v P F j oj=1)(hk:ops[k]?=some ok){t:Tmp}(hd:ok.dst=some t) :
 (t∈oj.looksAt ops→∃e∈oj.after,Region.binds .any e=true∧e.on=k)∧(j∈F→k≠j→oj.dst≠some t):=by
 unfold a6y at h;have hjl:j < ops.size:=(Array.getElem?_eq_some_iff.1 hj).1;have h1:=List.all_eq_true.1 h j (by simpa using hjl);simp only [hj,hc,bne_self_eq_false,Bool.false_or]at h1;have hlt:k < ops.size:=(Array.getElem?_eq_some_iff.1 hk).1;have h2:=List.all_eq_true.1 h1 k (by simpa using hlt);simp only [hk,Option.bind_some,hd,Bool.and_eq_true]at h2;refine⟨fun ht=>?_,fun hF hne hdj=>?_⟩
 ·have hcon:(oj.looksAt ops).contains t=true:=by simpa using ht
  have h3:=h2.1;rw [hcon]at h3;simp only [Bool.not_true,Bool.false_or]at h3;obtain⟨e,he,hb⟩:=List.any_eq_true.1 h3;simp only [Bool.and_eq_true,beq_iff_eq]at hb;exact⟨e,by simpa using he,hb.1,hb.2⟩
 ·have h3:=h2.2;have hFc:F.contains j=true:=by simpa using hF
  rw [hFc,hdj]at h3;simp [hne]at h3
theorem b2x{j:Nat}{oj:Oper}(hoj:ops[j]?=some oj)(hsj:∀cs b,oj.op≠.select cs b)(hc:b6v P F j oj≤1){a a':Act}(hgood:Good P ops F S a')(hlook:b6v P F j oj=1→∀t∈oj.looksAt ops,a'.tmps[t]?=a.tmps[t]?)
 {w:World} (hw:S w) {r:Next} {w1:World} (hwn:Region.wanted oj (yielded ops a.tmps)=true) (hrun:(execOp a.eval oj).run P w= .ok r w1):w1=w∧∃v,r= .value v∧a5h P ops S oj v a:=by
 by_cases hF:j∈F
 ·have h1:b6v P F j oj=1:=by unfold b6v;rw [if_pos (by simpa using hF)]
  obtain⟨s1,s2⟩:=a9i (hlook h1);obtain⟨d,_,hall⟩:=hgood.2 j hF oj hoj (by rw [s1];exact hwn);have hex:execOp a'.eval oj=execOp a.eval oj:=execOp_congr oj hsj s2;rw [hex]at hall;have:=hall w hw;rw [hrun]at this;simp only [Result.ok.injEq]at this;exact⟨this.2,_,this.1,.inl ⟨hwn,hall⟩⟩
 ·have hcl:b6v P F j oj=a3s P oj.op:=by unfold b6v;rw [if_neg (by simpa using hF)]
  have hf:d1l P (execOp a.eval oj):=b1e (by omega) fun h1=>by
   obtain⟨s1,s2⟩:=a9i (hlook (by omega));have hjl:j < ops.size:=(Array.getElem?_eq_some_iff.1 hoj).1;have:=List.all_eq_true.1 hgood.1 j (by simpa using hjl);have hFc:F.contains j=false:=by simpa using hF
   simp only [hoj,hFc,h1,s1,hwn,bne_self_eq_false,Bool.not_true,Bool.or_self,Bool.false_or]at this;rw [←this];exact(b3r s2).symm
  obtain⟨h1,v,h2,h3⟩:=hf w r w1 hrun;exact⟨h1,v,h2,.inl ⟨hwn,fun w _=>h3 w⟩⟩
theorem b7u{j:Nat}{oj:Oper}(hoj:ops[j]?=some oj)(hsj:∀cs b,oj.op≠.select cs b)(hc:b6v P F j oj≤1){a a':Act}(hgood:Good P ops F S a')(hlook:b6v P F j oj=1→∀t∈oj.looksAt ops,a'.tmps[t]?=a.tmps[t]?)
 {w:World} (hw:S w) {K:Act→World→Prop} (h:opS P ops S j K a w):∃v,a5h P ops S oj v a∧K (a.put oj.dst v) w:=by
 unfold opS wpOp at h;simp only [hoj]at h;split at h
 ·rename_i hwn
  rcases h with h | ⟨_,hl⟩
  case inr=>exact(a2k hT0 hl).elim
  unfold Oper.wp at h
  cases hr:(execOp a.eval oj).run P w with
  | ok n w'=>
    obtain⟨rfl,v,rfl,hy⟩:=b2x hoj hsj hc hgood hlook hw hwn hr;rw [hr]at h;exact⟨v,hy,h.2⟩
  | halt x w'=>
    rw [hr]at h
    cases x <;> simp only [Oper.upon]at h
    case panic u=>exact h.elim
 ·rename_i hwn
  exact⟨undef,.inr ⟨by simpa using hwn,rfl⟩,h.2⟩
theorem b8r(hG:∀a w,G a w→Good P ops F S a)(hset:a6y P ops F=true)
 (hsel:∀(j:Nat) (o:Oper) cs b,ops[j]?=some o→o.op≠.select cs b) {i:Nat} {oi:Oper} (hoi:ops[i]?=some oi) :
 ∀(fuel:Nat) (listed:Array Bool) (a:Act) (w:World),S w→a4z ops listed→
  (∀j oj,ops[j]?=some oj→j≠i→listed.getD j true=false→¬b9r ops i oj→b4k P ops F i j oi oj=true)→
  i∈Region.ready .any ops listed→
  opS P ops S i (anyS P ops S G fuel (listed.setIfInBounds i true)) a w→anyS P ops S G (fuel + 1) listed a w:=by
 intro fuel
 induction fuel with
 | zero=>
   intro listed a w _ _ _ hr H;refine⟨fun h=>(by rw [h]at hr;cases hr),fun j hj=>?_⟩;by_cases hji:j=i
   ·subst hji;exact H
   ·obtain⟨a1,w1,h1,_⟩:=a5j hT0 hoi H;have:=ready_mono hj hji;rw [h1.2.1]at this
    cases this
 | succ fuel ih=>
   intro listed a w hSw hclo hfree hr H;refine⟨fun h=>(by rw [h]at hr;cases hr),fun j hj=>?_⟩;by_cases hji:j=i
   ·subst hji;exact H
   ·obtain⟨hjun,oj,hoj,hall⟩:=mem_ready.1 hj;obtain⟨hiun,oi',hoi',halli⟩:=mem_ready.1 hr;rw [hoi]at hoi'
    cases hoi'
    have hnot:¬b9r ops i oj:=c6e hclo hoj hj hiun;have hpair:=hfree j oj hoj hji hjun hnot;have hfree':∀k ok,ops[k]?=some ok→k≠i→(listed.setIfInBounds j true).getD k true=false→
     ¬b9r ops i ok→b4k P ops F i k oi ok=true:=fun k ok hk hki hun hno=>by
     refine hfree k ok hk hki ?_ hno;by_cases hjk:j=k
     ·subst hjk;exact hjun
     ·rw [getD_set_ne true hjk]at hun;exact hun
    have hsi:=fun cs b=>hsel i oi cs b hoi
    have hsj:=fun cs b=>hsel j oj cs b hoj
    obtain⟨a1,w1,h1,k1⟩:=a5j hT0 hoi H;obtain⟨a2,w2,h2,k2⟩:=c1s _ _ _ _ h1.2;have hgood:=hG _ _ h2;have look:∀(m:Nat) (om:Oper),ops[m]?=some om→b6v P F m om=1→(∀e∈om.after,Region.binds .any e=true→listed.getD e.on false=true)→∀t∈om.looksAt ops,a2.tmps[t]?=a.tmps[t]?:=by
     intro m om hm hc hallm t ht;have unl:∀(k:Nat) (ok:Oper),ops[k]?=some ok→ok.dst=some t→listed.getD k true=true:=by
      intro k ok hk hd;obtain⟨e,he,hb,rfl⟩:=(a8e hset hm hc hk hd).1 ht;have:=hallm e he hb;rcases Nat.lt_or_ge e.on listed.size with h' | h'
      ·simp [h']at this ⊢;exact this
      ·simp [Array.getElem?_eq_none h']at this
     rw [k2 t fun k ok hk hu hd=>?_,k1 t fun hd=>?_]
     ·have:=unl i oi hoi hd;rw [hiun]at this;cases this
     ·have hl:=unl k ok hk hd;by_cases hik:i=k
      ·subst hik;rw [hiun]at hl;cases hl
      ·rw [getD_set_ne true hik,hl]at hu;cases hu
    unfold b4k at hpair;simp only [Bool.and_eq_true,Bool.or_eq_true,decide_eq_true_eq,beq_iff_eq]at hpair;obtain⟨hap,hcl⟩:=hpair;have H':opS P ops S i (fun a' w'=>opS P ops S j (anyS P ops S G fuel ((listed.setIfInBounds i true).setIfInBounds j true)) a' w') a w:=
     b5b (fun a' w' _ hh=>hh.2 j (ready_mono hj hji)) H
    have H'':opS P ops S j (fun a' w'=>opS P ops S i (anyS P ops S G fuel ((listed.setIfInBounds i true).setIfInBounds j true)) a' w') a w:=by
     rcases hcl with(hci | hcj) | ⟨hci,hcj⟩
     ·obtain⟨v,hy,hK⟩:=b7u hoi hsi hci hgood (fun h1=>look i oi hoi h1 halli) hSw H';exact e7q hoi hoj hap hsi hsj hy hK
     ·have:∃v,a5h P ops S oj v a:=by
       by_cases hwn:Region.wanted oj (yielded ops a.tmps)=true
       ·obtain⟨a3,w3,⟨hS3,h3⟩,k3⟩:=a5j hT0 hoi H';obtain⟨g1,g2,g3⟩:=Oper.apart_spec hap;have hs:∀t∈oj.looksAt ops,a3.tmps[t]?=a.tmps[t]?:=fun t ht=>k3 t fun hd=>g1 t hd ht
        obtain⟨s1,s2⟩:=a9i hs;have hex:execOp a3.eval oj=execOp a.eval oj:=execOp_congr oj hsj s2;obtain⟨v,hy,_⟩:=b7u (a':=a2) hoj hsj hcj hgood (fun h1 t ht=>by rw [look j oj hoj h1 hall t ht,hs t ht]) hS3 h3;exact⟨v,hy.of_same hex.symm s1.symm⟩
       ·exact⟨undef,.inr ⟨by simpa using hwn,rfl⟩⟩
      obtain⟨v,hy⟩:=this;exact hy.opS hoj hSw (d5y hoi hoj hap hsi hsj hy H')
     ·have ci:a3s P oi.op=2:=by unfold b6v at hci;split at hci;· cases hci
                                ·exact hci
      have cj:a3s P oj.op=2:=by unfold b6v at hcj;split at hcj;· cases hcj
                                ·exact hcj
      exact d7j hoi hoj hap hsi hsj hSw ci cj H'
    refine b5b (fun a' w' hS' hh=>ih (listed.setIfInBounds j true) a' w' hS' (hclo.set hj) hfree' (ready_mono hr (Ne.symm hji)) ?_) H'';rw [Array.setIfInBounds_comm _ _ hji];exact hh
theorem d1i{listed:Array Bool}{i:Nat}{oi:Oper}(hi:ops[i]?=some oi)(h:e5h P ops F listed i=true) :
 ∀j oj,ops[j]?=some oj→j≠i→listed.getD j true=false→¬b9r ops i oj→b4k P ops F i j oi oj=true:=by
 intro j oj hj hji hun hno;unfold e5h at h;simp only [hi]at h;have hlt:j < ops.size:=(Array.getElem?_eq_some_iff.1 hj).1;have h2:=List.all_eq_true.1 h j (by simpa using hlt);rw [hun]at h2;simp only [hj,Bool.or_false,Bool.or_eq_true,beq_iff_eq]at h2;rcases h2 with h2 | h2 | h2
 ·exact(hji h2).elim
 ·exact(hno (b1f _ _ (fun j=>by simp) (fun j oj _ h=>by simp at h) j oj hj h2)).elim
 ·exact h2
def b7h(P:Program)(ops:Array Oper)(S:World→Prop)(G:Act→World→Prop):Nat→Nat→Act→World→Prop
 | 0,_=>G
 | n + 1,k=>opS P ops S k (b7h P ops S G n (k + 1))
theorem c3j(hG:∀a w,G a w→Good P ops F S a)(hset:a6y P ops F=true)
 (hsel:∀(j:Nat) (o:Oper) cs b,ops[j]?=some o→o.op≠.select cs b):∀(n k:Nat) (listed:Array Bool) (a:Act) (w:World),S w→k + n=ops.size→a4z ops listed→
 d4x P ops F n k listed=true→b7h P ops S G n k a w→anyS P ops S G n listed a w
 | 0,_,_,_,_,_,_,_,hB,h=>⟨by simpa [d4x]using hB,h⟩
 | n + 1,k,listed,a,w,hS,hk,hc,hB,h=>by
   have hlt:k < ops.size:=by omega
   have h0:ops[k]?=some ops[k]:=Array.getElem?_eq_getElem hlt;simp only [d4x,Bool.and_eq_true]at hB;obtain⟨⟨hr,hf⟩,hB'⟩:=hB;refine b8r hG hset hsel h0 n listed a w hS hc (d1i h0 hf) (by simpa using hr) ?_;exact b5b (fun a' w' hS' hh=>c3j hG hset hsel n (k + 1) _ a' w' hS' (by omega) (hc.set (by simpa using hr)) hB' hh) h
end
end Go.Txt
namespace Go.Txt
section
variable {P:Program} {ops:Array Oper} {F:List Nat} {S:World→Prop} {G:Act→World→Prop}
theorem segT(K:Act→World→Prop):∀e a w,b6s S K e a w→e= .normal:=fun _ _ _ h=>h.1
theorem b5l{T:Exit→Act→World→Prop}{k:Nat}{o:Oper}{l:List Oper}(h0:ops[k]?=some o){a:Act}{w:World}(h:wpList P ops T (o :: l) a w):wpOp P ops T k (wpList P ops T l) a w:=by
 unfold wpOp;simp only [h0];exact h
theorem a8b{K:Act→World→Prop}:∀(l:List Oper) (k:Nat) (a:Act) (w:World),(∀j,j < l.length→l[j]?=ops[k + j]?)→wpList P ops (b6s S K) l a w→
 ∃a' w',S w'∧K a' w'∧∀t,(∀j o,ops[j]?=some o→k≤j→j < k + l.length→o.dst≠some t)→a'.tmps[t]?=a.tmps[t]?
 | [],_,a,w,_,h=>⟨a,w,h.2.1,h.2.2,fun _ _=>rfl⟩
 | o :: l,k,a,w,hl,h=>by
   have h0:ops[k]?=some o:=by simpa using(hl 0 (by simp)).symm
   obtain⟨a1,w1,h1,k1⟩:=a5j (segT K) h0 (b5l h0 h);obtain⟨a2,w2,hS,hK,k2⟩:=a8b l (k + 1) a1 w1 (fun j hj=>by have:=hl (j + 1) (by simpa using hj);simpa [Nat.add_assoc,Nat.add_comm 1 j]using this) h1;refine⟨a2,w2,hS,hK,fun t ht=>?_⟩;rw [k2 t fun j o' hj h3 h4=>ht j o' hj (by omega) (by simp;omega),k1 t (ht k o h0 (Nat.le_refl _) (by simp))]
theorem c2o:∀(ss:List (List Oper)) (k:Nat) (a:Act) (w:World),(∀j,j < ss.flatten.length→ss.flatten[j]?=ops[k + j]?)→a3j P ops S G ss a w→
 ∃a' w',G a' w'∧∀t,(∀j o,ops[j]?=some o→k≤j→o.dst≠some t)→a'.tmps[t]?=a.tmps[t]?
 | [],_,a,w,_,h=>⟨a,w,h,fun _ _=>rfl⟩
 | s :: ss,k,a,w,hl,h=>by
   have hs:∀j,j < s.length→s[j]?=ops[k + j]?:=fun j hj=>by
    rw [←hl j (by rw [List.flatten_cons,List.length_append];omega)];simp only [List.flatten_cons];rw [List.getElem?_append_left hj]
   obtain⟨a1,w1,_,h1,k1⟩:=a8b s k a w hs h
   obtain⟨a2,w2,h2,k2⟩:=c2o ss (k + s.length) a1 w1 (fun j hj=>by
    have:=hl (s.length + j) (by rw [List.flatten_cons,List.length_append];omega);simp only [List.flatten_cons]at this;rw [List.getElem?_append_right (by omega)]at this;simpa [Nat.add_assoc]using this) h1
   exact⟨a2,w2,h2,fun t ht=>by rw [k2 t fun j o hj h3=>ht j o hj (by omega),k1 t fun j o hj h3 _=>ht j o hj h3]⟩
def e1h(P:Program)(ss:List (List Oper)):Prop:=∀s∈ss,∀i o,i + 1 < s.length→s[i]?=some o→a3s P o.op≠3
theorem c1f{T:Exit→Act→World→Prop}(hT:∀e a w,T e a w→e= .normal){k:Nat}{o:Oper}(h0:ops[k]?=some o){K:Act→World→Prop}{a:Act}{w:World}
 (hs:Region.wanted o (yielded ops a.tmps)=true→∀r w1,(execOp a.eval o).run P w= .ok r w1→w1=w∧∃v,r= .value v)
 (h:wpOp P ops T k K a w):wpOp P ops T0 k (fun a' w'=>w'=w∧K a' w') a w:=by
 unfold wpOp at *;simp only [h0]at *;split
 ·rename_i hw
  rw [if_pos hw]at h;rcases h with h | ⟨_,hl⟩
  case inr=>exact(a2k hT hl).elim
  refine .inl ?_;unfold Oper.wp at *
  cases hr:(execOp a.eval o).run P w with
  | ok n w'=>
    obtain⟨rfl,v,rfl⟩:=hs hw _ _ hr;rw [hr]at h;first | exact⟨rfl,h⟩ | exact⟨trivial,h⟩
  | halt x w'=>
    rw [hr]at h
    cases x <;> simp only [Oper.upon]at h ⊢
    case panic u=>have:=hT _ _ _ h;cases this
 ·rename_i hw
  rw [if_neg hw]at h;first | exact⟨rfl,h⟩ | exact⟨trivial,h⟩
theorem d4p{T:Exit→Act→World→Prop}(hT:∀e a w,T e a w→e= .normal){k:Nat}{K:Act→World→Prop}{a:Act}{w:World}(h:wpOp P ops T k K a w):wpOp P ops T0 k K a w:=by
 unfold wpOp at *;split
 ·rename_i ho;simp only [ho]at h;exact h
 ·rename_i o ho
  simp only [ho]at h;split
  ·rename_i hw
   simp only [hw,if_true]at h;rcases h with h | ⟨_,hl⟩
   case inr=>exact(a2k hT hl).elim
   refine .inl ?_;unfold Oper.wp at h ⊢;generalize (execOp a.eval o).run P w=r at *
   cases r with
   | ok n w'=>
     cases n <;> simp only [Oper.upon]at h ⊢ <;> first
      | exact h
      | exact Calls.mono h fun e w'' he=>by
         cases e with
         | returned u=>exact he
         | panicked c=>have:=hT _ _ _ he;cases this
         | outgrown=>exact(a2k hT he).elim
   | halt x w'=>
     cases x <;> simp only [Oper.upon]at h ⊢
     case panic u=>have:=hT _ _ _ h;cases this
  ·rename_i hw;simp only [hw]at h;exact h
theorem b4s(hG:∀a w,G a w→Good P ops F S a)(hset:a6y P ops F=true)(hdep:∀(j:Nat) (o:Oper),ops[j]?=some o→∀e∈o.after,Region.binds .any e=true→e.on < j)
 (hsel:∀(j:Nat) (o:Oper) cs b,ops[j]?=some o→o.op≠.select cs b):∀(ss:List (List Oper)) (s:List Oper) (k:Nat) (a:Act) (w:World),S w→e1h P (s :: ss)→
 (∀j,(s ++ ss.flatten)[j]?=ops[k + j]?)→wpList P ops (b6s S (a3j P ops S G ss)) s a w→b7h P ops S G (s ++ ss.flatten).length k a w:=by
 intro ss
 induction ss with
 | nil=>
   intro s
   induction s with
   | nil=>intro k a w _ _ _ h;exact h.2.2
   | cons o l ih=>
     intro k a w hS hok hl h;have h0:ops[k]?=some o:=by simpa using(hl 0).symm
     have hl':∀j,(l ++ ([]:List (List Oper)).flatten)[j]?=ops[k + 1 + j]?:=fun j=>by have:=hl (j + 1);simpa [Nat.add_assoc,Nat.add_comm 1 j]using this
     have hok':e1h P (l :: []):=fun s hs i o' hi ho=>by
      simp at hs;subst hs;exact hok (o :: s) (by simp) (i + 1) o' (by simpa using hi) (by simpa using ho)
     have hw:=b5l h0 h;show opS P ops S k (b7h P ops S G (l ++ ([]:List (List Oper)).flatten).length (k + 1)) a w
     cases l with
     | nil=>exact wpOp_mono (fun a' w' hh=>⟨hh.2.1,hh.2.2⟩) (d4p (segT _) hw)
     | cons o2 l2=>
       have hc3:a3s P o.op≠3:=hok (o :: o2 :: l2) (by simp) 0 o (by simp) rfl;have hlen:∀j,j < (o :: o2 :: l2).length→(o :: o2 :: l2)[j]?=ops[k + j]?:=fun j _=>by have:=hl j;simpa using this
       obtain⟨a2,w2,_,hGa,k2⟩:=a8b _ k a w hlen h;refine wpOp_mono (fun a' w' hh=>⟨by rw [hh.1];exact hS,ih (k + 1) a' w' (by rw [hh.1];exact hS) hok' hl' hh.2⟩) (c1f (segT _) h0 (fun hwn r w1 hr=>?_) hw);by_cases hc:b6v P F k o≤1
       ·have:=b2x h0 (fun cs b=>hsel k o cs b h0) hc (hG _ _ hGa) (fun h1 t ht=>k2 t fun j o' hj h3 _ hd=>by
         obtain⟨e,he,hb,rfl⟩:=(a8e hset h0 h1 hj hd).1 ht;have:=hdep k o h0 e he hb;omega) hS hwn hr
        exact⟨this.1,this.2.choose,this.2.choose_spec.1⟩
       ·obtain⟨dst,op,t,pos,af,g⟩:=o;have h2:a3s P op=2:=by
         unfold b6v at hc;split at hc
         ·omega
         ·have:a3s P op≤3:=by
           unfold a3s;repeat' split
           all_goals omega
          dsimp only at hc hc3
          omega
        exact c7m h2 a.eval dst t pos af g w r w1 hr
 | cons s' ss ihs=>
   intro s
   induction s with
   | nil=>
     intro k a w hS hok hl h;exact ihs s' k a w h.2.1 (fun s hs=>hok s (List.mem_cons_of_mem _ hs)) (fun j=>by have:=hl j;simpa using this) h.2.2
   | cons o l ih=>
     intro k a w hS hok hl h;have h0:ops[k]?=some o:=by simpa using(hl 0).symm
     have hl':∀j,(l ++ (s' :: ss).flatten)[j]?=ops[k + 1 + j]?:=fun j=>by have:=hl (j + 1);simpa [Nat.add_assoc,Nat.add_comm 1 j]using this
     have hok':e1h P (l :: s' :: ss):=fun s hs i o' hi ho=>by
      rcases List.mem_cons.1 hs with rfl | hs
      ·exact hok (o :: s) (by simp) (i + 1) o' (by simpa using hi) (by simpa using ho)
      ·exact hok s (List.mem_cons_of_mem _ hs) i o' hi ho
     have hw:=b5l h0 h;show opS P ops S k (b7h P ops S G (l ++ (s' :: ss).flatten).length (k + 1)) a w
     cases l with
     | nil=>exact wpOp_mono (fun a' w' hh=>⟨hh.2.1,ih (k + 1) a' w' hh.2.1 hok' hl' hh⟩) (d4p (segT _) hw)
     | cons o2 l2=>
       have hc3:a3s P o.op≠3:=hok (o :: o2 :: l2) (by simp) 0 o (by simp) rfl;have hlen:∀j,j < (o :: o2 :: l2).length→(o :: o2 :: l2)[j]?=ops[k + j]?:=fun j hj=>by have:=hl j;rw [List.getElem?_append_left hj]at this;exact this
       obtain⟨a2,w2,_,hK2,k2⟩:=a8b _ k a w hlen h
       obtain⟨a3,w3,hGa,k3⟩:=c2o (s' :: ss) (k + (o :: o2 :: l2).length) a2 w2 (fun j _=>by
        have:=hl ((o :: o2 :: l2).length + j);rw [List.getElem?_append_right (by omega),Nat.add_sub_cancel_left,←Nat.add_assoc]at this;exact this) hK2
       refine wpOp_mono (fun a' w' hh=>⟨by rw [hh.1];exact hS,ih (k + 1) a' w' (by rw [hh.1];exact hS) hok' hl' hh.2⟩) (c1f (segT _) h0 (fun hwn r w1 hr=>?_) hw);by_cases hc:b6v P F k o≤1
       ·have nw:b6v P F k o=1→∀t∈o.looksAt ops,∀j o',ops[j]?=some o'→k≤j→o'.dst≠some t:=fun h1 t ht j o' hj h3 hd=>by
         obtain⟨e,he,hb,rfl⟩:=(a8e hset h0 h1 hj hd).1 ht;have:=hdep k o h0 e he hb;omega
        have:=b2x h0 (fun cs b=>hsel k o cs b h0) hc (hG _ _ hGa) (fun h1 t ht=>by
         rw [k3 t fun j o' hj h3=>nw h1 t ht j o' hj (by omega),k2 t fun j o' hj h3 _=>nw h1 t ht j o' hj h3]) hS hwn hr
        exact⟨this.1,this.2.choose,this.2.choose_spec.1⟩
       ·obtain⟨dst,op,t,pos,af,g⟩:=o;have h2:a3s P op=2:=by
         unfold b6v at hc;split at hc
         ·omega
         ·have:a3s P op≤3:=by
           unfold a3s;repeat' split
           all_goals omega
          dsimp only at hc hc3
          omega
        exact c7m h2 a.eval dst t pos af g w r w1 hr
def d1m(ops:Array Oper):Bool:=(List.range ops.size).all fun j=>match ops[j]? with
 | none=>true
 | some o=>o.after.toList.all fun e=>!Region.binds .any e || decide (e.on < j)
theorem a3w(h:d1m ops=true):∀(j:Nat) (o:Oper),ops[j]?=some o→∀e∈o.after,Region.binds .any e=true→e.on < j:=by
 intro j o hj e he hb;have hjl:j < ops.size:=(Array.getElem?_eq_some_iff.1 hj).1;have h1:=List.all_eq_true.1 h j (by simpa using hjl);simp only [hj]at h1;have h2:=List.all_eq_true.1 h1 e (by simpa using he);rw [hb]at h2;simpa using h2
theorem b2d(l:List Oper):parts P l≠[]:=by
 cases l with
 | nil=>simp [parts]
 | cons o l=>
   unfold parts;split
   ·simp
   ·split <;> simp
theorem a6i(l:List Oper):(parts P l).flatten=l:=by
 induction l with
 | nil=>simp [parts]
 | cons o l ih=>
   unfold parts;split
   ·rename_i h;exact absurd h (b2d l)
   ·rename_i p ps h
    rw [h]at ih;split <;> simp at ih ⊢ <;> exact ih
theorem b5e(l:List Oper):e1h P (parts P l):=by
 induction l with
 | nil=>intro s hs i o hi;simp [parts]at hs;subst hs;simp at hi
 | cons o l ih=>
   unfold parts;split
   ·intro s hs i o' hi;simp at hs;subst hs;simp at hi
   ·rename_i p ps h
    rw [h]at ih;split
    ·intro s hs i o' hi ho;rcases List.mem_cons.1 hs with rfl | hs
     ·simp at hi
     ·exact ih s hs i o' hi ho
    ·rename_i hc
     intro s hs i o' hi ho;rcases List.mem_cons.1 hs with rfl | hs
     ·cases i with
      | zero=>simp at ho;subst ho;exact hc
      | succ i=>exact ih p (by simp) i o' (by simpa using hi) (by simpa using ho)
     ·exact ih s (List.mem_cons_of_mem _ hs) i o' hi ho
theorem a0e{s:List Oper}{ss:List (List Oper)}{a:Act}{w:World}(h:wpList P ops (b6s S (a3j P ops S G ss)) s a w):a3j P ops S G (s :: ss) a w:=h
theorem a0w{a:Act}{w:World}(h:G a w):a3j P ops S G [] a w:=h
def e3v(P:Program)(ops:Array Oper)(F:List Nat):Bool:=textF P ops F && d1m ops
def a4v(P:Program)(ops:Array Oper)(F:List Nat)(S:World→Prop)(Q:Exit→Act→World→Prop)(a:Act)(w:World):Prop:=Good P ops F S a∧Q .normal a w
theorem e0m(F:List Nat)(S:World→Prop){id:Nat}{Q:Exit→Act→World→Prop}{a:Act}{w:World}{l:List Oper}(ss:List (List Oper))(hm:P.follows .mixedOrders=true)(hB:e3v P l.toArray F=true)
 (hss:parts P l=ss) (hS:S w.drew) (h:a3j P l.toArray S (a4v P l.toArray F S Q) ss a w.drew):(Code.region id l.toArray true).wp P Q a w:=by
 simp only [e3v,textF,Bool.and_eq_true]at hB;obtain⟨⟨⟨hns,hset⟩,hB⟩,hdep⟩:=hB;have hG:∀a w,a4v P l.toArray F S Q a w→Good P l.toArray F S a:=fun _ _ h=>h.1
 have hsel:=Region.noSelect_spec hns;have h1:b7h P l.toArray S (a4v P l.toArray F S Q) l.length 0 a w.drew:=by
  subst hss;have hpn:=b2d (P:=P) l;have hpf:=a6i (P:=P) l;have hpo:=b5e (P:=P) l
  cases hp:parts P l with
  | nil=>exact absurd hp hpn
  | cons s ss=>
    rw [hp]at h hpf hpo
    have:=b4s hG hset (a3w hdep) hsel ss s 0 a w.drew hS hpo (fun j=>by
     have:s ++ ss.flatten=l:=by simpa using hpf
     rw [this];simp) h
    have e:s ++ ss.flatten=l:=by simpa using hpf
    rw [e]at this;exact this
 have h2:=c3j hG hset hsel l.length 0 (Array.replicate l.toArray.size false) a w.drew hS (by simp) (a4z.start _) (by simpa using hB) h1;refine wp_region_any hm ?_;have mono:∀(fuel:Nat) (listed:Array Bool) (a:Act) (w:World),anyS P l.toArray S (a4v P l.toArray F S Q) fuel listed a w→wpAny P .any l.toArray Q fuel listed a w:=by
  intro fuel
  induction fuel with
  | zero=>exact fun listed a w h=>⟨h.1,h.2.2⟩
  | succ fuel ih=>
    intro listed a w h;refine⟨fun h0=>(h.1 h0).2,fun i hi=>?_⟩;have h2:wpOp P l.toArray T0 i (wpAny P .any l.toArray Q fuel (listed.setIfInBounds i true)) a w:=wpOp_mono (fun a' w' hh=>ih _ a' w' hh.2) (h.2 i hi);unfold wpOp at h2 ⊢;split
    ·rename_i ho;simp only [ho]at h2;exact h2
    ·rename_i o ho
     simp only [ho]at h2;split
     ·rename_i hw
      simp only [hw,if_true]at h2;rcases h2 with h2 | ⟨_,hl⟩
      case inr=>exact(a2k hT0 hl).elim
      refine .inl ?_;unfold Oper.wp at h2 ⊢;generalize (execOp a.eval o).run P w=r at *
      cases r with
      | ok n w'=>
        cases n <;> simp only [Oper.upon]at h2 ⊢ <;> first
         | exact h2
         | exact Calls.mono h2 fun e w'' he=>by
            cases e with
            | returned u=>exact he
            | panicked c=>exact he.elim
            | outgrown=>exact(a2k hT0 he).elim
      | halt x w'=>
        cases x <;> simp only [Oper.upon]at h2 ⊢
        case panic u=>exact h2.elim
     ·rename_i hw;simp only [hw]at h2;exact h2
 have:=mono _ _ _ _ h2;simpa using this
end
end Go.Txt
namespace Go.Txt
open Go.RowKit Go.Mem
section
variable {P:Program} {ops:Array Oper} {Q:Exit→Act→World→Prop}
theorem c0b(l:List Bool)(i:Nat)(h:l[i]?=some false):(l.set i true).count false + 1=l.count false:=by
 induction l generalizing i with
 | nil=>simp at h
 | cons b l ih=>
   cases i with
   | zero=>
     obtain rfl:b=false:=by simpa using h
     simp
   | succ i=>
     have:=ih i (by simpa using h);simp only [List.set_cons_succ,List.count_cons];omega
theorem a9d(I:(Nat→Bool)→Act→World→Prop)(hI:∀L L' a w,(∀j,j < ops.size→L j=L' j)→I L a w→I L' a w)(hdep:d1m ops=true)
 (step:∀L a w i o,I L a w→ops[i]?=some o→L i=false→(∀e∈o.after,Region.binds .any e=true→L e.on=true)→wpOp P ops Q i (I (fun j=>if j=i then true else L j)) a w)
 (fin:∀L a w,I L a w→(∀j,j < ops.size→L j=true)→Q .normal a w) :
 ∀(fuel:Nat) (listed:Array Bool) (a:Act) (w:World),listed.size=ops.size→listed.toList.count false≤fuel→I (fun j=>listed.getD j true) a w→wpAny P .any ops Q fuel listed a w:=by
 have hall:∀(listed:Array Bool),listed.size=ops.size→Region.ready .any ops listed= []→∀j,j < ops.size→listed.getD j true=true:=by
  intro listed hs hr j
  induction j using Nat.strongRecOn with
  | _ j ih=>
    intro hj
    cases hl:listed.getD j true with
    | true=>rfl
    | false=>
      exfalso
      have:j∈Region.ready .any ops listed:=by
       rw [mem_ready];refine⟨hl,ops[j],by simp [hj],fun e he hb=>?_⟩;have hlt:=a3w hdep j ops[j] (by simp [hj]) e he hb;have:=ih e.on hlt (by omega);have hes:e.on < listed.size:=by omega
       simpa [Array.getD,hes]using this
      rw [hr]at this
      cases this
 intro fuel
 induction fuel with
 | zero=>
   intro listed a w hs hc hi;have h1:∀j,j < ops.size→listed.getD j true=true:=by
    intro j hj;have hjs:j < listed.size:=by omega
    cases hl:listed.getD j true with
    | true=>rfl
    | false=>
      exfalso
      have hmem:false∈listed.toList:=by
       have:listed[j]=false:=by simpa [Array.getD,hjs]using hl
       rw [←this];simp
      have:=List.count_pos_iff.2 hmem;omega
   refine⟨?_,fin _ _ _ hi h1⟩
   cases hr:Region.ready .any ops listed with
   | nil=>rfl
   | cons i rs=>
     exfalso
     have hi:i∈Region.ready .any ops listed:=by rw [hr];simp
     obtain⟨hun,oi,hoi,_⟩:=mem_ready.1 hi;have hlt:i < ops.size:=(Array.getElem?_eq_some_iff.1 hoi).1;rw [h1 i hlt]at hun
     cases hun
 | succ fuel ih=>
   intro listed a w hs hc hi;refine⟨fun hr=>fin _ _ _ hi (hall listed hs hr),fun i hr=>?_⟩;obtain⟨hun,oi,hoi,hde⟩:=mem_ready.1 hr;have hlt:i < ops.size:=(Array.getElem?_eq_some_iff.1 hoi).1;have his:i < listed.size:=by omega
   have hlf:listed[i]=false:=by simpa [Array.getD,his]using hun
   refine wpOp_mono (fun a' w' h'=>ih _ a' w' (by simpa using hs) ?_ ?_) (step _ a w i oi hi hoi hun fun e he hb=>?_)
   ·have:=c0b listed.toList i (by simp [his,hlf]);simp only [Array.toList_setIfInBounds];omega
   ·refine hI _ _ _ _ (fun j hj=>?_) h';have hjs:j < listed.size:=by omega
    by_cases hji:j=i
    ·subst hji;simp [Array.getD,his]
    ·rw [if_neg hji];simp [Array.getD,hjs,Ne.symm hji]
   ·have:=hde e he hb;by_cases hes:e.on < listed.size
    ·simpa [Array.getD,hes]using this
    ·simp [Array.getD,hes]
def a1f(ops:Array Oper)(v:Nat→Value)(L:Nat→Bool):List Nat→Act→Act
 | [],a=>a
 | j :: l,a=>a1f ops v L l (if L j then match ops[j]? with | some o=>a.put o.dst (v j) | none=>a else a)
theorem a1t{v v':Nat→Value}{L L':Nat→Bool}:∀(l:List Nat) (a:Act),(∀j∈l,L j=L' j∧(L j=true→v j=v' j))→a1f ops v L l a=a1f ops v' L' l a
 | [],_,_=>rfl
 | j :: l,a,h=>by
   obtain⟨h1,h2⟩:=h j (by simp);simp only [a1f];rw [a1t l _ fun k hk=>h k (by simp [hk]),←h1]
   cases hL:L j with
   | false=>rfl
   | true=>rw [h2 hL]
theorem c2l{v:Nat→Value}{L:Nat→Bool}{d:Option Tmp}{x:Value}:∀(l:List Nat) (a:Act),(∀j∈l,∀o,ops[j]?=some o→∀t,o.dst=some t→d≠some t)→a1f ops v L l (a.put d x)=(a1f ops v L l a).put d x
 | [],_,_=>rfl
 | j :: l,a,h=>by
   simp only [a1f];rw [←c2l l _ fun k hk=>h k (by simp [hk])];congr 1
   cases hL:L j with
   | false=>simp
   | true=>
     cases ho:ops[j]? with
     | none=>simp
     | some o=>
       simp only [if_true];exact(Act.put_comm a _ _ fun t ht e=>h j (by simp) o ho t e ht)
theorem a9o{v:Nat→Value}{L:Nat→Bool}{i:Nat}{o:Oper}(hL:L i=false)(ho:ops[i]?=some o)(hd:∀j,j≠i→∀oj,ops[j]?=some oj→∀t,oj.dst=some t→o.dst≠some t) :
 ∀(l:List Nat) (a:Act),l.Nodup→i∈l→a1f ops v (fun j=>if j=i then true else L j) l a=(a1f ops v L l a).put o.dst (v i)
 | [],_,_,h=>by cases h
 | j :: l,a,hn,h=>by
   obtain⟨hnj,hnl⟩:=List.nodup_cons.1 hn;simp only [a1f];by_cases hji:j=i
   ·subst hji;simp only [if_true,hL,ho,Bool.false_eq_true,if_false];rw [c2l l a fun k hk ok hok t ht=>hd k (fun e=>hnj (e▸hk)) ok hok t ht];congr 1;refine a1t l _ fun k hk=>?_
    have:k≠j:=fun e=>hnj (e▸hk)
    simp [this]
   ·simp only [if_neg hji];exact a9o hL ho hd l _ hnl (by rcases List.mem_cons.1 h with rfl | h;exact absurd rfl hji;exact h)
theorem a5q{v:Nat→Value}{L:Nat→Bool}{t:Tmp}:∀(l:List Nat) (a:Act),(∀j∈l,∀o,ops[j]?=some o→L j=true→o.dst≠some t)→(a1f ops v L l a).tmps.getD t undef=a.tmps.getD t undef
 | [],_,_=>rfl
 | j :: l,a,h=>by
   simp only [a1f];rw [a5q l _ fun k hk=>h k (by simp [hk])]
   cases hL:L j with
   | false=>simp
   | true=>
     cases ho:ops[j]? with
     | none=>simp
     | some o=>
       have:=h j (by simp) o ho hL
       cases hd:o.dst with
       | none=>simp [Act.put,hd]
       | some d=>
         rw [hd]at this;have hne:d≠t:=fun e=>this (by rw [e])
         simp [Act.put,hd,hne]
theorem b7n{v:Nat→Value}{L:Nat→Bool}:∀(l:List Nat) (a:Act),(a1f ops v L l a).tmps.size=a.tmps.size
 | [],_=>rfl
 | j :: l,a=>by
   simp only [a1f];rw [b7n l]
   cases L j with
   | false=>simp
   | true=>
     cases ops[j]? with
     | none=>simp
     | some o=>cases hd:o.dst <;> simp [Act.put,hd]
theorem a9a{v:Nat→Value}{L:Nat→Bool}{i:Nat}{o:Oper}{t:Tmp}(ho:ops[i]?=some o)(ht:o.dst=some t)(hL:L i=true)(hd:∀j,j≠i→∀oj,ops[j]?=some oj→∀t,oj.dst=some t→o.dst≠some t) :
 ∀(l:List Nat) (a:Act),l.Nodup→i∈l→t < a.tmps.size→(a1f ops v L l a).tmps.getD t undef=v i
 | [],_,_,h,_=>by cases h
 | j :: l,a,hn,h,hs=>by
   obtain⟨hnj,hnl⟩:=List.nodup_cons.1 hn;simp only [a1f];by_cases hji:j=i
   ·subst hji;rw [a5q l _ fun k hk ok hok _ e=>hd k (fun e=>hnj (e▸hk)) ok hok t e ht];simp [hL,ho,ht,Act.put,hs]
   ·refine a9a ho ht hL hd l _ hnl (by rcases List.mem_cons.1 h with rfl | h;exact absurd rfl hji;exact h) ?_;have:=b7n (ops:=ops) (v:=v) (L:=L) [j] a;simp only [a1f]at this;rw [this];exact hs
inductive Kind where
 | val (v:Value)
 | new (t:TypeId) (z:Value)
 | put (j k:Nat) (cs:Array Value)
def d5g(p:Nat→Oper→Kind→Prop):Nat→List Oper→List Kind→Prop
 | _,[],[]=>True
 | i,o :: l,k :: K=>p i o k∧d5g p (i + 1) l K
 | _,_,_=>False
theorem d5g.get{p:Nat→Oper→Kind→Prop}:∀(l:List Oper) (K:List Kind) (n i:Nat) (o:Oper),d5g p n l K→l[i]?=some o→∃k,K[i]?=some k∧p (n + i) o k
 | [],_,_,_,_,_,h=>by simp at h
 | o' :: l,[],_,_,_,h,_=>h.elim
 | o' :: l,k :: K,n,0,o,h,ho=>by
   obtain rfl:o'=o:=by simpa using ho
   exact⟨k,by simp,h.1⟩
 | o' :: l,k :: K,n,i + 1,o,h,ho=>by
   obtain⟨k',h1,h2⟩:=d5g.get l K (n + 1) i o h.2 (by simpa using ho);exact⟨k',by simpa using h1,by rw [show n + (i + 1)=n + 1 + i from by omega];exact h2⟩
theorem d5g.len{p:Nat→Oper→Kind→Prop}:∀(l:List Oper) (K:List Kind) (n:Nat),d5g p n l K→K.length=l.length
 | [],[],_,_=>rfl
 | _ :: l,_ :: K,n,h=>by simp [d5g.len l K (n + 1) h.2]
 | [],_ :: _,_,h=>h.elim
 | _ :: _,[],_,h=>h.elim
theorem a7p{v:Nat→Value}:∀(l:List Nat) (a:Act),a1f ops v (fun _=>false) l a=a
 | [],_=>rfl
 | j :: l,a=>by simp only [a1f];exact a7p l a
def putsOK(K:List Kind):Bool:=(List.range K.length).all fun i=>(List.range K.length).all fun i'=>i == i' || match K[i]?,K[i']? with | some (.put j _ _),some (.put j' _ _)=>j !=j' | _,_=>true
def a1w(o:Oper)(j:Nat):Prop:=∃e∈o.after,e.on=j∧Region.binds .any e=true
def Asked(P:Program)(l:List Oper)(K:List Kind)(S:World→Prop)(a0:Act)(_:Nat)(o:Oper):Kind→Prop
 | .val v=>(∃d,o.dst=some d)∧∀a w (C:Act→World→Prop) (R:Exit→Act→World→Prop),S w→
    (∀j u d oj,K[j]?=some (.val u)→l[j]?=some oj→oj.dst=some d→a1w o j→a.tmps.getD d undef=u)→
    (∀t,(∀x∈l,x.dst≠some t)→a.tmps.getD t undef=a0.tmps.getD t undef)→
    (∀w',Kept [] w w'→C (a.put o.dst v) w')→o.wp P a w C R
 | .new t z=>(∃d,o.dst=some d)∧o.op= .alloc t∧(P.info? t).map (·.zero)=some (some z)
 | .put j k cs=>o.dst=none∧a1w o j∧a1w o k∧∃t z oj ok p c ts n,K[j]?=some (.new t z)∧K[k]?=some (.val (.agg cs))∧l[j]?=some oj∧oj.dst=some p∧l[k]?=some ok∧ok.dst=some c∧
    o.op= .store ts (.tmp p) (.tmp c)∧RowT P ts n∧z.cells.size=n∧cs.size=n∧cs.all (·.oneCell')=true
def b8f(l:List Oper)(n:Nat):Bool:=d1m l.toArray && l.all (fun o=>o.guard.isNone) && ((List.range l.length).all fun i=>(List.range l.length).all fun j=>i == j || (match l[i]?,l[j]? with | some x,some y=>x.dst.isNone || x.dst !=y.dst | _,_=>true)) && l.all fun o=>match o.dst with | some d=>decide (d < n) | none=>true
def VK(K:List Kind)(γ:Nat→Nat)(j:Nat):Value:=match K[j]? with | some (.val v)=>v | _=>.pointer (some ⟨γ j,0,none⟩)
theorem e3c{o:Oper}{a:Act}{w:World}{C:Act→World→Prop}{R:Exit→Act→World→Prop}{t:TypeId}{z:Value}(ho:o.op= .alloc t)(hz:(P.info? t).map (·.zero)=some (some z))
 (h:C (a.put o.dst (.pointer (some ⟨w.heap.size,0,none⟩))) (w.alloc (.cells z.cells t))):o.wp P a w C R:=by
 cases hi:P.info? t with
 | none=>simp [hi]at hz
 | some i=>
   have hz':i.zero=some z:=by simpa [hi]using hz
   unfold Oper.wp execOp;simp [ho,Instr.alloc,zeroValue,typeInfo,hi,hz',newVar,newRow];exact h
theorem a0n{f:FuncId}{o:Oper}{a:Act}{w:World}{C:Act→World→Prop}{R:Exit→Act→World→Prop}{args:Array Operand}{ats:Array TypeId}(ho:o.op= .call {callee:=.value (.func f),args:=args,argTypes:=ats})
 (hen:∀(xs:Array Value) w,(callFunc f xs).run P w= .ok (.enter f xs) w) {vs:Array Value} (hvs:args.map a.eval=vs) {v:Value} (hc:Calls P f vs w fun e w'=>e= .returned v∧Kept [] w w') (h:∀w',Kept [] w w'→C (a.put o.dst v) w'):o.wp P a w C R:=by
 unfold Oper.wp execOp;simp only [ho,resolve,invoke,Sem.run_bind,Act.eval];rw [hvs];simp only [Deferred.ofValue,Sem.run_pure,Result.andThen_ok,Array.append_empty,Array.empty_append,hen,Oper.upon];refine hc.mono ?_;rintro e w' ⟨rfl,hk⟩;exact h w' hk
theorem a2m{id:Nat}{l:List Oper}{a0:Act}{w0:World}(hm:P.follows .mixedOrders=true)(K:List Kind)(S:World→Prop)(hch:b8f l a0.tmps.size=true)(hpk:putsOK K=true)
 (hS0:S w0.drew) (hS:∀u u' T,S u→Kept T u u'→(∀k∈T,w0.heap.size≤k)→S u') (hA:d5g (Asked P l K S a0) 0 l K)
 (hQ:∀(γ:Nat→Nat) w',S w'→(∀(j:Nat) t z,K[j]?=some (.new t z)→w0.heap.size≤γ j)→(∀(j k:Nat) t z t' z',K[j]?=some (.new t z)→K[k]?=some (.new t' z')→j≠k→γ j≠γ k)→
   (∀(i j k:Nat) cs t z,K[i]?=some (.put j k cs)→K[j]?=some (.new t z)→Blk w' (γ j) t cs)→Q .normal (a1f l.toArray (VK K γ) (fun _=>true) (List.range l.length) a0) w'):(Code.region id l.toArray true).wp P Q a0 w0:=by
 simp only [b8f,Bool.and_eq_true]at hch;obtain⟨⟨⟨hdep,hgd⟩,hdst⟩,hsz⟩:=hch;have hd:∀(i:Nat) (o:Oper),l[i]?=some o→∀(j:Nat),j≠i→∀(oj:Oper),l[j]?=some oj→∀t,oj.dst=some t→o.dst≠some t:=by
  intro i o ho j hj oj hoj t ht e;have hil:i < l.length:=(List.getElem?_eq_some_iff.1 ho).1;have hjl:j < l.length:=(List.getElem?_eq_some_iff.1 hoj).1;have:=List.all_eq_true.1 (List.all_eq_true.1 hdst j (by simpa using hjl)) i (by simpa using hil);simp [ho,hoj,ht,e,hj]at this
 have hlt:∀(i:Nat) (o:Oper) d,l[i]?=some o→o.dst=some d→d < a0.tmps.size:=by
  intro i o d ho hdd;have:=List.all_eq_true.1 hsz o (List.mem_of_getElem? ho);simpa [hdd]using this
 let I:(Nat→Bool)→Act→World→Prop:=fun L a w=>∃γ:Nat→Nat,a=a1f l.toArray (VK K γ) L (List.range l.length) a0∧S w∧w0.heap.size≤w.heap.size∧
  (∀(j:Nat) t z,K[j]?=some (.new t z)→L j=true→w0.heap.size≤γ j∧γ j < w.heap.size)∧
  (∀(j k:Nat) t z t' z',K[j]?=some (.new t z)→K[k]?=some (.new t' z')→L j=true→L k=true→j≠k→γ j≠γ k)∧
  (∀(j:Nat) t z,K[j]?=some (.new t z)→L j=true→∃cs,Blk w (γ j) t cs∧cs.size=z.cells.size∧∀(i k:Nat) cs',K[i]?=some (.put j k cs')→L i=true→cs=cs')∧
  (∀(i:Nat) (o:Oper),l[i]?=some o→L i=true→∀j,a1w o j→L j=true)
 have hget:∀(i:Nat) (o:Oper) (d:Tmp) (v:Nat→Value) (L:Nat→Bool),l[i]?=some o→o.dst=some d→L i=true→(a1f l.toArray v L (List.range l.length) a0).tmps.getD d undef=v i:=by
  intro i o d v L ho hdd hL;exact a9a (by simpa using ho) hdd hL (fun j hj oj hoj t ht=>hd i o ho j hj oj (by simpa using hoj) t ht) _ _ List.nodup_range (by simpa using(List.getElem?_eq_some_iff.1 ho).1) (hlt i o d ho hdd)
 have hoth:∀(t:Tmp) (v:Nat→Value) (L:Nat→Bool),(∀x∈l,x.dst≠some t)→(a1f l.toArray v L (List.range l.length) a0).tmps.getD t undef=a0.tmps.getD t undef:=by
  intro t v L ht;exact a5q _ _ fun j _ o ho _=>ht o (List.mem_of_getElem? (by simpa using ho))
 have hset:∀(i:Nat) (o:Oper) (v:Nat→Value) (L:Nat→Bool),l[i]?=some o→L i=false→(a1f l.toArray v L (List.range l.length) a0).put o.dst (v i)=a1f l.toArray v (fun j=>if j=i then true else L j) (List.range l.length) a0:=by
  intro i o v L ho hL;exact(a9o hL (by simpa using ho) (fun j hj oj hoj t ht=>hd i o ho j hj oj (by simpa using hoj) t ht) _ _ List.nodup_range (by simpa using(List.getElem?_eq_some_iff.1 ho).1)).symm
 refine wp_region_any hm ?_;refine a9d I ?_ hdep ?_ ?_ _ _ _ _ (by simp) (by simp) ?_
 ·rintro L L' a w hL ⟨γ,h1,h2,h3,h4,h5,h6,h7⟩;have hin:∀(j:Nat) k,K[j]?=some k→L j=L' j:=fun j k hk=>hL j (by have:=(List.getElem?_eq_some_iff.1 hk).1;have:=hA.len;simp;omega)
  refine⟨γ,h1.trans (a1t _ _ fun j hj=>⟨hL j (by simpa using hj),fun _=>rfl⟩),h2,h3,fun j t z hk hl=>h4 j t z hk ((hin j _ hk).trans hl),fun j k t z t' z' hj hk hl hl'=>h5 j k t z t' z' hj hk ((hin j _ hj).trans hl) ((hin k _ hk).trans hl'),fun j t z hk hl=>?_,fun i o ho hl j hb=>?_⟩
  ·obtain⟨cs,hb,hs,hp⟩:=h6 j t z hk ((hin j _ hk).trans hl);exact⟨cs,hb,hs,fun i k cs' hi hl'=>hp i k cs' hi ((hin i _ hi).trans hl')⟩
  ·have hi:i < l.length:=(List.getElem?_eq_some_iff.1 ho).1;have h8:=h7 i o ho ((hL i (by simpa using hi)).trans hl) j hb;obtain⟨e,he,rfl,hbe⟩:=hb;have:=a3w hdep i o (by simpa using ho) e he hbe;exact(hL e.on (by simp;omega)).symm.trans h8
 ·rintro L a w i o ⟨γ,rfl,h2,h3,h4,h5,h6,h7⟩ ho hLi hdeps;have ho':l[i]?=some o:=by simpa using ho
  obtain⟨kd,hkd,hp⟩:=d5g.get l K 0 i o hA ho';have hg:o.guard=none:=by
   have:=List.all_eq_true.1 hgd o (List.mem_of_getElem? ho');simpa using this
  have hbound:∀j,a1w o j→L j=true:=by
   rintro j ⟨e,he,rfl,hb⟩;exact hdeps e he hb
  have h7':∀(i':Nat) (o':Oper),l[i']?=some o'→(fun j=>if j=i then true else L j) i'=true→∀j,a1w o' j→(fun j=>if j=i then true else L j) j=true:=by
   intro i' o' ho2 hl j hb
   dsimp only at hl ⊢
   by_cases hji:j=i
   ·rw [if_pos hji]
   ·rw [if_neg hji];by_cases hii:i'=i
    ·subst hii;rw [ho']at ho2;cases ho2
     exact hbound j hb
    ·rw [if_neg hii]at hl;exact h7 i' o' ho2 hl j hb
  unfold wpOp;simp only [ho];rw [if_pos (by simp [Region.wanted,hg])];refine .inl ?_
  cases kd with
  | val v=>
    obtain⟨_,hop⟩:=hp;have hne:∀(j:Nat) t z,K[j]?=some (.new t z)→(if j=i then true else L j)=true→L j=true:=by
     intro j t z hk hl;by_cases hji:j=i
     ·subst hji;rw [hkd]at hk;cases hk
     ·rwa [if_neg hji]at hl
    refine hop _ w _ _ h2 (fun j u d oj hK hoj hdj hb=>?_) (fun t ht=>hoth t _ L ht) (fun w' hk=>⟨γ,?_,hS _ _ [] h2 hk (by simp),Nat.le_trans h3 hk.size,fun j t z hj hl=>?_,fun j k t z t' z' hj hk' hl hl'=>h5 j k t z t' z' hj hk' (hne j t z hj hl) (hne k t' z' hk' hl'),fun j t z hj hl=>?_,h7'⟩)
    ·rw [hget j oj d _ L hoj hdj (hbound j hb)];unfold VK;rw [hK]
    ·have e:VK K γ i=v:=by unfold VK;rw [hkd]
     rw [←e];exact hset i o _ L ho' hLi
    ·have:=h4 j t z hj (hne j t z hj hl);exact⟨this.1,Nat.lt_of_lt_of_le this.2 hk.size⟩
    ·obtain⟨cs,hb,hs,hpp⟩:=h6 j t z hj (hne j t z hj hl);refine⟨cs,hb.kept hk (by simp),hs,fun i' k' cs' hi' hl'=>hpp i' k' cs' hi' ?_⟩
     dsimp only at hl'
     by_cases hii:i'=i
     ·subst hii;rw [hkd]at hi';cases hi'
     ·rwa [if_neg hii]at hl'
  | new t z=>
    obtain⟨_,hop,hz⟩:=hp;refine e3c hop hz ?_;have hk:Kept [] w (w.alloc (.cells z.cells t)):=(Kept.refl [] w).alloc _;refine⟨fun j=>if j=i then w.heap.size else γ j,?_,hS _ _ [] h2 hk (by simp),Nat.le_trans h3 hk.size,fun j t' z' hj hl=>?_,fun j k t1 z1 t2 z2 hj hk' hl hl' hjk=>?_,fun j t' z' hj hl=>?_,h7'⟩
    ·have e1:a1f l.toArray (VK K γ) L (List.range l.length) a0=a1f l.toArray (VK K fun j=>if j=i then w.heap.size else γ j) L (List.range l.length) a0:=by
      refine a1t _ _ fun j _=>⟨rfl,fun hl=>?_⟩
      have hji:j≠i:=fun e=>by rw [e,hLi]at hl;cases hl
      unfold VK;simp [hji]
     have e2:VK K (fun j=>if j=i then w.heap.size else γ j) i= .pointer (some ⟨w.heap.size,0,none⟩):=by
      unfold VK;rw [hkd];simp
     rw [e1,←e2];exact hset i o _ L ho' hLi
    ·dsimp only at hl ⊢
     by_cases hji:j=i
     ·rw [if_pos hji];exact⟨h3,by simp⟩
     ·rw [if_neg hji]at hl ⊢;have:=h4 j t' z' hj hl;exact⟨this.1,Nat.lt_of_lt_of_le this.2 hk.size⟩
    ·dsimp only at hl hl' ⊢
     by_cases hji:j=i
     ·by_cases hki:k=i
      ·omega
      ·rw [if_neg hki]at hl';rw [if_pos hji,if_neg hki];have:=(h4 k t2 z2 hk' hl').2;omega
     ·by_cases hki:k=i
      ·rw [if_neg hji]at hl;rw [if_neg hji,if_pos hki];have:=(h4 j t1 z1 hj hl).2;omega
      ·rw [if_neg hji]at hl;rw [if_neg hki]at hl';rw [if_neg hji,if_neg hki];exact h5 j k t1 z1 t2 z2 hj hk' hl hl' hjk
    ·dsimp only at hl ⊢
     by_cases hji:j=i
     ·subst hji;rw [hkd]at hj;cases hj
      rw [if_pos rfl];refine⟨z.cells,Blk.new _ _ _,rfl,fun i' k' cs' hi' hl'=>?_⟩
      exfalso
      obtain⟨oi,hoi⟩:∃oi,l[i']?=some oi:=⟨_,List.getElem?_eq_getElem (by have:=(List.getElem?_eq_some_iff.1 hi').1;have:=hA.len;omega)⟩;obtain⟨kd',hkd',hp'⟩:=d5g.get l K 0 i' oi hA hoi;rw [hi']at hkd';cases hkd'
      obtain⟨_,hbj,_⟩:=hp';have hii:i'≠j:=fun e=>by rw [e,hkd]at hi';cases hi'
      rw [if_neg hii]at hl';have:=h7 i' oi hoi hl' j hbj;rw [hLi]at this;cases this
     ·rw [if_neg hji]at hl;simp only [if_neg hji];obtain⟨cs,hb,hs,hpp⟩:=h6 j t' z' hj hl;refine⟨cs,hb.kept hk (by simp),hs,fun i' k' cs' hi' hl'=>hpp i' k' cs' hi' ?_⟩;by_cases hii:i'=i
      ·subst hii;rw [hkd]at hi';cases hi'
      ·rwa [if_neg hii]at hl'
  | put j k cs=>
    obtain⟨hdn,hbj,hbk,t,z,oj,ok,p,c,ts,n,hKj,hKk,hoj,hpj,hok,hck,hop,hT,hz1,hz2,h1c⟩:=hp;have hLj:=hbound j hbj;have hLk:=hbound k hbk;obtain⟨cs0,hb,hs0,_⟩:=h6 j t z hKj hLj;obtain⟨⟨d,hu,hd3⟩,hsz2⟩:=hT;have hx:(a1f l.toArray (VK K γ) L (List.range l.length) a0).eval (.tmp p)= .pointer (some ⟨γ j,0,none⟩):=by
     show(a1f l.toArray (VK K γ) L (List.range l.length) a0).tmps.getD p undef=_;rw [hget j oj p _ L hoj hpj hLj];unfold VK;rw [hKj]
    have hy:(a1f l.toArray (VK K γ) L (List.range l.length) a0).eval (.tmp c)= .agg cs:=by
     show(a1f l.toArray (VK K γ) L (List.range l.length) a0).tmps.getD c undef=_;rw [hget k ok c _ L hok hck hLk];unfold VK;rw [hKk]
    refine wp_store_row ts (.tmp p) (.tmp c) hop (γ j) cs hx hy t cs0 hb (by rw [hsz2,hz2]) (by omega) h1c ?_;have hk:Kept [γ j] w (w.setRow (γ j) cs):=(Kept.refl [γ j] w).setRow (.inl (by simp)) cs;have hne:∀(j':Nat) t' z',K[j']?=some (.new t' z')→(if j'=i then true else L j')=true→L j'=true:=by
     intro j' t' z' hk' hl;by_cases hji:j'=i
     ·subst hji;rw [hkd]at hk';cases hk'
     ·rwa [if_neg hji]at hl
    refine⟨γ,?_,hS _ _ [γ j] h2 hk (by simpa using(h4 j t z hKj hLj).1),Nat.le_trans h3 hk.size,fun j' t' z' hj hl=>?_,fun j' k' t1 z1 t2 z2 hj hk' hl hl'=>h5 j' k' t1 z1 t2 z2 hj hk' (hne j' t1 z1 hj hl) (hne k' t2 z2 hk' hl'),fun j' t' z' hj hl=>?_,h7'⟩
    ·have:=hset i o (VK K γ) L ho' hLi;rw [hdn]at this ⊢;exact this
    ·have:=h4 j' t' z' hj (hne j' t' z' hj hl);exact⟨this.1,Nat.lt_of_lt_of_le this.2 hk.size⟩
    ·have hl2:=hne j' t' z' hj hl;by_cases hjj:j'=j
     ·subst hjj;rw [hKj]at hj;cases hj
      refine⟨cs,hb.a5i cs,by omega,fun i' k' cs' hi' hl'=>?_⟩;by_cases hii:i'=i
      ·subst hii;rw [hkd]at hi';cases hi';rfl
      ·exfalso
       have hiK:i < K.length:=(List.getElem?_eq_some_iff.1 hkd).1;have hiK':i' < K.length:=(List.getElem?_eq_some_iff.1 hi').1;have:=List.all_eq_true.1 (List.all_eq_true.1 hpk i (by simpa using hiK)) i' (by simpa using hiK');simp [hkd,hi',Ne.symm hii]at this
     ·obtain⟨cs1,hb1,hs1,hp1⟩:=h6 j' t' z' hj hl2;refine⟨cs1,hb1.kept hk (by simpa using h5 j' j t' z' t z hj hKj hl2 hLj hjj),hs1,fun i' k' cs' hi' hl'=>hp1 i' k' cs' hi' ?_⟩
      dsimp only at hl'
      by_cases hii:i'=i
      ·subst hii;rw [hkd]at hi';cases hi';exact absurd rfl hjj
      ·rwa [if_neg hii]at hl'
 ·rintro L a w ⟨γ,rfl,h2,h3,h4,h5,h6,h7⟩ hall;have hall':∀(j:Nat) k,K[j]?=some k→L j=true:=fun j k hk=>hall j (by have:=(List.getElem?_eq_some_iff.1 hk).1;have:=hA.len;simp;omega)
  have e:a1f l.toArray (VK K γ) L (List.range l.length) a0=a1f l.toArray (VK K γ) (fun _=>true) (List.range l.length) a0:=a1t _ _ fun j hj=>⟨hall j (by simpa using hj),fun _=>rfl⟩
  rw [e];refine hQ γ w h2 (fun j t z hj=>(h4 j t z hj (hall' j _ hj)).1) (fun j k t z t' z' hj hk hjk=>h5 j k t z t' z' hj hk (hall' j _ hj) (hall' k _ hk) hjk) fun i j k cs tt zz hi hjj=>?_
  obtain⟨oi,hoi⟩:∃oi,l[i]?=some oi:=⟨_,List.getElem?_eq_getElem (by have:=(List.getElem?_eq_some_iff.1 hi).1;have:=hA.len;omega)⟩;obtain⟨kd,hkd,hp⟩:=d5g.get l K 0 i oi hA hoi;rw [hi]at hkd;cases hkd
  obtain⟨cs0,hb,_,hpp⟩:=h6 j tt zz hjj (hall' j _ hjj);rw [←hpp i k cs hi (hall' i _ hi)];exact hb
 ·have hf:∀(j:Nat),j < l.length→(Array.replicate l.toArray.size false).getD j true=false:=by
   intro j hj;simp [hj]
  have hfk:∀(j:Nat) k,K[j]?=some k→(Array.replicate l.toArray.size false).getD j true=false:=fun j k hk=>hf j (by have:=(List.getElem?_eq_some_iff.1 hk).1;have:=hA.len;omega)
  refine⟨fun _=>0,?_,hS0,Nat.le_refl _,fun j t z hj hl=>?_,fun j k t z t' z' hj _ hl=>?_,fun j t z hj hl=>?_,fun i o ho hl=>?_⟩
  ·rw [a1t (L':=fun _=>false) (v':=VK K fun _=>0) _ _ fun j hj=>⟨hf j (by simpa using hj),fun _=>rfl⟩,a7p]
  ·exact absurd ((hfk j _ hj).symm.trans hl) (by simp)
  ·exact absurd ((hfk j _ hj).symm.trans hl) (by simp)
  ·exact absurd ((hfk j _ hj).symm.trans hl) (by simp)
  ·exact absurd ((hf i (List.getElem?_eq_some_iff.1 ho).1).symm.trans hl) (by simp)
end
end Go.Txt
namespace Go.Txt
open Go.RowKit Go.Mem
section
variable {P:Program} {ops:Array Oper} {Q:Exit→Act→World→Prop}
def AskedV(P:Program)(l:List Oper)(vs:List Value)(S:World→Prop)(a0:Act)(o:Oper)(v:Value):Prop:=
 ∀a w (C:Act→World→Prop) (R:Exit→Act→World→Prop),S w→
  (∀j u d oj,vs[j]?=some u→l[j]?=some oj→oj.dst=some d→a1w o j→a.tmps.getD d undef=u)→
  (∀t,(∀x∈l,x.dst≠some t)→a.tmps.getD t undef=a0.tmps.getD t undef)→
  (∀w',Kept [] w w'→C (a.put o.dst v) w')→o.wp P a w C R
def d1a(p:Oper→Value→Prop):List Oper→List Value→Prop
 | _,[]=>True
 | o :: l,v :: vs=>p o v∧d1a p l vs
 | [],_ :: _=>False
theorem d1a.get{p:Oper→Value→Prop}:∀(l:List Oper) (vs:List Value) (i:Nat) (o:Oper) (v:Value),d1a p l vs→l[i]?=some o→vs[i]?=some v→p o v
 | [],_,_,_,_,_,h,_=>by simp at h
 | o' :: l,[],_,_,_,_,_,h=>by simp at h
 | o' :: l,v' :: vs,0,o,v,h,ho,hv=>by
   obtain rfl:o'=o:=by simpa using ho
   obtain rfl:v'=v:=by simpa using hv
   exact h.1
 | o' :: l,v' :: vs,i + 1,o,v,h,ho,hv=>d1a.get l vs i o v h.2 (by simpa using ho) (by simpa using hv)
theorem a6n{id:Nat}{l:List Oper}{a0:Act}{w0:World}(hm:P.follows .mixedOrders=true)(vs:List Value)(S:World→Prop)(hch:b8f l a0.tmps.size=true){ol:Oper}(hlen:l.length=vs.length + 1)(hol:l[vs.length]?=some ol)
 (hlast:((List.range vs.length).all fun j=>ol.after.toList.any fun e=>e.on == j && Region.binds .any e)=true)
 (hS0:S w0.drew) (hS:∀u u',S u→Kept [] u u'→S u') (hA:d1a (AskedV P l vs S a0) l vs)
 (hF:∀w,S w→ol.wp P (a1f l.toArray (fun j=>vs.getD j undef) (fun j=>decide (j < vs.length)) (List.range l.length) a0) w (fun a w=>Q .normal a w) Q):(Code.region id l.toArray true).wp P Q a0 w0:=by
 simp only [b8f,Bool.and_eq_true]at hch;obtain⟨⟨⟨hdep,hgd⟩,hdst⟩,hsz⟩:=hch;have hd:∀(i:Nat) (o:Oper),l[i]?=some o→∀(j:Nat),j≠i→∀(oj:Oper),l[j]?=some oj→∀t,oj.dst=some t→o.dst≠some t:=by
  intro i o ho j hj oj hoj t ht e;have hil:i < l.length:=(List.getElem?_eq_some_iff.1 ho).1;have hjl:j < l.length:=(List.getElem?_eq_some_iff.1 hoj).1;have:=List.all_eq_true.1 (List.all_eq_true.1 hdst j (by simpa using hjl)) i (by simpa using hil);simp [ho,hoj,ht,e,hj]at this
 have hlt:∀(i:Nat) (o:Oper) d,l[i]?=some o→o.dst=some d→d < a0.tmps.size:=by
  intro i o d ho hdd;have:=List.all_eq_true.1 hsz o (List.mem_of_getElem? ho);simpa [hdd]using this
 have hget:∀(i:Nat) (o:Oper) (d:Tmp) (v:Nat→Value) (L:Nat→Bool),l[i]?=some o→o.dst=some d→L i=true→(a1f l.toArray v L (List.range l.length) a0).tmps.getD d undef=v i:=by
  intro i o d v L ho hdd hL;exact a9a (by simpa using ho) hdd hL (fun j hj oj hoj t ht=>hd i o ho j hj oj (by simpa using hoj) t ht) _ _ List.nodup_range (by simpa using(List.getElem?_eq_some_iff.1 ho).1) (hlt i o d ho hdd)
 have hoth:∀(t:Tmp) (v:Nat→Value) (L:Nat→Bool),(∀x∈l,x.dst≠some t)→(a1f l.toArray v L (List.range l.length) a0).tmps.getD t undef=a0.tmps.getD t undef:=by
  intro t v L ht;exact a5q _ _ fun j _ o ho _=>ht o (List.mem_of_getElem? (by simpa using ho))
 have hset:∀(i:Nat) (o:Oper) (v:Nat→Value) (L:Nat→Bool),l[i]?=some o→L i=false→(a1f l.toArray v L (List.range l.length) a0).put o.dst (v i)=a1f l.toArray v (fun j=>if j=i then true else L j) (List.range l.length) a0:=by
  intro i o v L ho hL;exact(a9o hL (by simpa using ho) (fun j hj oj hoj t ht=>hd i o ho j hj oj (by simpa using hoj) t ht) _ _ List.nodup_range (by simpa using(List.getElem?_eq_some_iff.1 ho).1)).symm
 let v:Nat→Value:=fun j=>vs.getD j undef
 let I:(Nat→Bool)→Act→World→Prop:=fun L a w=>(S w∧a=a1f l.toArray v L (List.range l.length) a0∧L vs.length=false)∨((∀j,j < l.length→L j=true)∧Q .normal a w)
 refine wp_region_any hm ?_;refine a9d I ?_ hdep ?_ ?_ _ _ _ _ (by simp) (by simp) ?_
 ·rintro L L' a w hL (⟨h1,h2,h3⟩ | ⟨h1,h2⟩)
  ·refine .inl ⟨h1,h2.trans (a1t _ _ fun j hj=>⟨hL j (by simpa using hj),fun _=>rfl⟩),(hL _ (by simp;omega)).symm.trans h3⟩
  ·exact .inr ⟨fun j hj=>(hL j (by simpa using hj)).symm.trans (h1 j hj),h2⟩
 ·rintro L a w i o hI ho hLi hdeps;have ho':l[i]?=some o:=by simpa using ho
  have hil:i < l.length:=(List.getElem?_eq_some_iff.1 ho').1;have hg:o.guard=none:=by
   have:=List.all_eq_true.1 hgd o (List.mem_of_getElem? ho');simpa using this
  have hbound:∀j,a1w o j→L j=true:=by
   rintro j ⟨e,he,rfl,hb⟩;exact hdeps e he hb
  rcases hI with⟨h1,rfl,h3⟩ | ⟨h1,_⟩
  case inr=>rw [h1 i hil]at hLi;cases hLi
  unfold wpOp;simp only [ho];rw [if_pos (by simp [Region.wanted,hg])];refine .inl ?_;by_cases hin:i=vs.length
  ·subst hin;rw [hol]at ho';cases ho'
   have hall:∀j,j < vs.length→L j=true:=by
    intro j hj;have:=List.all_eq_true.1 hlast j (by simpa using hj);simp only [List.any_eq_true,Bool.and_eq_true,beq_iff_eq]at this;obtain⟨e,he,he1,he2⟩:=this;exact hbound j ⟨e,by simpa using he,he1,he2⟩
   have e1:a1f l.toArray v L (List.range l.length) a0=a1f l.toArray v (fun j=>decide (j < vs.length)) (List.range l.length) a0:=by
    refine a1t _ _ fun j hj=>⟨?_,fun _=>rfl⟩
    have hj':j < l.length:=by simpa using hj
    by_cases h:j < vs.length
    ·rw [hall j h];simp [h]
    ·obtain rfl:j=vs.length:=by omega
     rw [h3];simp
   rw [e1];refine Oper.wp_mono (fun a' w' hq=>.inr ⟨fun j hj=>?_,hq⟩) (hF w h1)
   dsimp only
   by_cases hjn:j=vs.length
   ·rw [if_pos hjn]
   ·rw [if_neg hjn];exact hall j (by omega)
  ·have hi:i < vs.length:=by omega
   have hv:vs[i]?=some (v i):=by simp [v,List.getD,hi]
   have hp:=d1a.get l vs i o (v i) hA ho' hv;refine hp _ w _ _ h1 (fun j u d oj hK hoj hdj hb=>?_) (fun t ht=>hoth t _ L ht) (fun w' hk=>.inl ⟨hS _ _ h1 hk,hset i o v L ho' hLi,?_⟩)
   ·rw [hget j oj d v L hoj hdj (hbound j hb)];simp [v,List.getD,hK]
   ·dsimp only;rw [if_neg (fun e=>hin e.symm)];exact h3
 ·rintro L a w (⟨_,_,h3⟩ | ⟨_,h2⟩) hall
  ·rw [hall vs.length (by simp;omega)]at h3;cases h3
  ·exact h2
 ·have hf:∀(j:Nat),j < l.length→(Array.replicate l.toArray.size false).getD j true=false:=by
   intro j hj;simp [hj]
  refine .inl ⟨hS0,?_,hf _ (by omega)⟩;rw [a1t (L':=fun _=>false) (v':=v) _ _ fun j hj=>⟨hf j (by simpa using hj),fun _=>rfl⟩,a7p]
end
end Go.Txt
namespace Go.Mem
open Go.RowKit
section
variable {P:Program} {u:World} {a:Act} {o:Oper} {t e:TypeId} {n:Nat}
theorem a1c(T:RowT P t n)(x:Operand)(ho:o.op= .load t x){g:Nat}(hx:a.eval x= .pointer (some ⟨g,0,none⟩)){bt:TypeId}{cs:Array Value}(hb:Blk u g bt cs)(hn:cs.size=n) :
 (execOp a.eval o).run P u= .ok (.value (.agg cs)) u:=by
 obtain⟨⟨d,hu,hd⟩,hs⟩:=T;have:=run_loadVar_row (P:=P) u g bt t cs (0,0) d hb hu (by cases d <;> simp_all) (by rw [hs,hn]);simp [execOp,ho,hx,Instr.loadAt,Instr.sureAddr,this]
theorem a0o{w:World}{C:Act→World→Prop}{R:Exit→Act→World→Prop}(T:RowT P t n)(x:Operand)(ho:o.op= .load t x){g:Nat}(hx:a.eval x= .pointer (some ⟨g,0,none⟩)){bt:TypeId}{cs:Array Value}(hb:Blk w g bt cs)(hn:cs.size=n)
 (h:C (a.put o.dst (.agg cs)) w):o.wp P a w C R:=by
 obtain⟨⟨d,hu,hd⟩,hs⟩:=T;exact wp_load_row t x ho g hx bt cs (0,0) _ hb hu (by cases d <;> simp_all) (by rw [hs,hn]) h
theorem c5n(T:ArrT P t e n)(he:P.underlying e=some (.int .u8))(hsz:(P.info? e).map (·.size)=some 1)(hgd:P.eqGuardType P.depth t=false)(x y:Operand){t':TypeId}(ho:o.op= .binOp .eql t x y t'){xs ys:List UInt8}(hx:a.eval x=ab xs)(hy:a.eval y=ab ys)(hxl:xs.length=n)(hyl:ys.length=n) :
 (execOp a.eval o).run P u= .ok (.value (.bool (xs == ys))) u:=by
 have h1:=a3r T he hsz xs ys hxl hyl u;have h2:=run_eqGuard_agg (P:=P) u .eql t x y (bv xs).toArray (bv ys).toArray hgd;simp [execOp,ho,hx,hy,binOp,Op.equal,Op.maxDepth,h1,h2]
theorem a3f(T:ArrT P t e n)(he:P.underlying e=some (.int .u8))(hsz:(P.info? e).map (·.size)=some 1)(hgd:P.eqGuardType P.depth t=false)(x y:Operand){t':TypeId}(ho:o.op= .binOp .neq t x y t'){xs ys:List UInt8}(hx:a.eval x=ab xs)(hy:a.eval y=ab ys)(hxl:xs.length=n)(hyl:ys.length=n) :
 (execOp a.eval o).run P u= .ok (.value (.bool (!(xs == ys)))) u:=by
 have h1:=a3r T he hsz xs ys hxl hyl u;have h2:=run_eqGuard_agg (P:=P) u .neq t x y (bv xs).toArray (bv ys).toArray hgd;simp [execOp,ho,hx,hy,binOp,Op.equal,Op.maxDepth,h1,h2]
end
end Go.Mem
namespace Go.Mem
open Go.RowKit
section
variable {P:Program} {w u:World} {ops:Array Oper} {rest:List Oper} {o:Oper} {a:Act} {Q:Exit→Act→World→Prop} {C:Act→World→Prop} {R:Exit→Act→World→Prop} {t bt:TypeId} {n g off:Nat} {cs:List Value}
theorem Blk.range{pre post:List Value}(h:Blk w g bt (pre ++ (cs ++ post)).toArray)(ho:pre.length=off):w.rangeAt g off cs:=fun j v hv=>by
 subst ho;have hj:j < cs.length:=(List.getElem?_eq_some_iff.1 hv).1;rw [h.cell,List.getElem?_toArray,List.getElem?_append_right (by omega),show pre.length + j - pre.length=j from by omega,List.getElem?_append_left hj];exact hv
theorem a2d(T:RowT P t n)(x:Operand)(ho:o.op= .load t x)(hx:a.eval x= .pointer (some ⟨g,off,none⟩))(hr:w.rangeAt g off cs)(hn:cs.length=n)(h:C (a.put o.dst (.agg cs.toArray)) w):o.wp P a w C R:=by
 obtain⟨⟨d,hu,hd⟩,hs⟩:=T;exact wp_load_mid t x ho g off hx cs d hr hu (by cases d <;> simp_all) (by rw [hs,hn]) h
theorem a1i(T:RowT P t n)(hgd:Region.wanted o (yielded ops a.tmps)=true)(x:Operand)(ho:o.op= .load t x)(hx:a.eval x= .pointer (some ⟨g,off,none⟩))(hr:w.rangeAt g off cs)(hn:cs.length=n)(h:wpList P ops Q rest (a.put o.dst (.agg cs.toArray)) w):wpList P ops Q (o :: rest) a w:=
 a1u hgd fun _ hK=>a2d T x ho hx hr hn (hK _ _ h)
theorem a5n(T:RowT P t n)(x:Operand)(ho:o.op= .load t x)(hx:a.eval x= .pointer (some ⟨g,off,none⟩))(hr:u.rangeAt g off cs)(hn:cs.length=n):(execOp a.eval o).run P u= .ok (.value (.agg cs.toArray)) u:=by
 obtain⟨⟨d,hu,hd⟩,hs⟩:=T;have:=run_loadVar_mid (P:=P) u g off t cs d hr hu (by cases d <;> simp_all) (by rw [hs,hn]);simp [execOp,ho,hx,Instr.loadAt,Instr.sureAddr,this]
theorem a2c(x:Operand){s f:Nat}(ho:o.op= .fieldAddr s x f){v r:Value}(hx:a.eval x=v)(hr:∀W,(Instr.fieldAt s v f).run P W= .ok r W)(h:C (a.put o.dst r) w):o.wp P a w C R:=by
 unfold Oper.wp execOp;simp only [ho,hx,Sem.run_bind,hr,Sem.run_pure,Result.andThen_ok];exact h
end
end Go.Mem
namespace Go.Mem
open Go.RowKit
def rws(n:Nat)(f:Nat→List Value):List Value:=(List.range n).flatMap f
theorem b2a(n:Nat)(f:Nat→List Value):rws (n + 1) f=rws n f ++ f n:=by simp [rws,List.range_succ]
theorem b1d{f:Nat→List Value}{k:Nat}(hk:∀i,(f i).length=k):∀n,(rws n f).length=k * n
 | 0=>by simp [rws]
 | n + 1=>by rw [b2a,List.length_append,b1d hk n,hk,Nat.mul_succ]
theorem b3j{f g:Nat→List Value}:∀(n:Nat),(∀i,i < n→f i=g i)→rws n f=rws n g
 | 0,_=>rfl
 | n + 1,h=>by rw [b2a,b2a,b3j n fun i hi=>h i (by omega),h n (by omega)]
theorem b1v(f:Nat→List Value):∀(n i:Nat),i < n→∃post,∀g:Nat→List Value,(∀j,j≠i→g j=f j)→rws n g=rws i f ++ (g i ++ post)
 | 0,i,h=>absurd h (by omega)
 | n + 1,i,h=>by
   by_cases hi:i=n
   ·subst hi;refine⟨[],fun g hg=>?_⟩;rw [b2a,List.append_nil,b3j i fun j hj=>hg j (by omega)]
   ·obtain⟨post,hp⟩:=b1v f n i (by omega);refine⟨post ++ f n,fun g hg=>?_⟩;rw [b2a,hp g hg,hg n (by omega),List.append_assoc,List.append_assoc]
theorem d1n{f:Nat→List Value}(h:∀i,∀v∈f i,v.oneCell'=true)(n:Nat):(rws n f).toArray.all (·.oneCell')=true:=by
 rw [Array.all_eq_true_iff_forall_mem];intro v hv;simp only [rws,List.mem_toArray,List.mem_flatMap,List.mem_range]at hv;obtain⟨i,_,hi⟩:=hv;exact h i v hi
section
variable {P:Program} {w u:World} {ops:Array Oper} {rest:List Oper} {o:Oper} {a:Act} {Q:Exit→Act→World→Prop} {C:Act→World→Prop} {R:Exit→Act→World→Prop} {t e bt:TypeId} {n k g i:Nat} {f:Nat→List Value}
theorem Blk.row(h:Blk w g bt (rws n f).toArray)(hk:∀i,(f i).length=k)(hi:i < n):w.rangeAt g (k * i) (f i):=by
 obtain⟨post,hp⟩:=b1v f n i hi;rw [hp f fun _ _=>rfl]at h;exact Blk.range h (b1d hk i)
theorem Blk.there{cs:Array Value}(h:Blk w g bt cs){off m:Nat}(ho:off + m≤cs.size):w.there g off m:=fun j hj=>⟨by rw [h.cell];simp;omega,h.frozen _⟩
theorem Blk.e5d(h:Blk w g bt (rws n f).toArray)(hk:∀i,(f i).length=k)(hi:i < n){q:List Value}(hq:q.length=k):Blk (w.setCells g (k * i) q) g bt (rws n (fun j=>if j=i then q else f j)).toArray:=by
 obtain⟨post,hp⟩:=b1v f n i hi;obtain⟨cs',h1,h2,h3⟩:=Blk.setCells q (k * i) _ _ h;have e:cs'=(rws n (fun j=>if j=i then q else f j)).toArray:=by
  rw [hp f fun _ _=>rfl]at h2 h3;rw [hp _ fun j hj=>if_neg hj,if_pos rfl];have hl:=b1d hk i;have hfi:=hk i;refine Array.ext_getElem? fun j=>?_
  rw [h3 j];simp only [List.size_toArray,List.length_append,List.getElem?_toArray]at h2 ⊢;by_cases h4:j < k * i
  ·rw [if_neg (by omega),List.getElem?_append_left (by omega),List.getElem?_append_left (by omega)]
  ·by_cases h5:j < k * i + k
   ·rw [if_pos (by omega),List.getElem?_append_right (by omega),List.getElem?_append_left (by omega),hl]
   ·rw [if_neg (by omega),List.getElem?_append_right (by omega),List.getElem?_append_right (by omega),List.getElem?_append_right (by omega),List.getElem?_append_right (by omega),hl,hfi,hq]
 rw [←e];exact h1
structure EntT (P:Program) (t e:TypeId) (n k:Nat):Prop where
 u:P.underlying t=some (.array n e)
 s:(P.info? e).map (·.size)=some k
 c:P.cellsOf e=k
 p:0 < k
theorem EntT.run(T:EntT P t e n k)(hi:i < n)(q:IntKind)(w:World):(Instr.indexAt t (.pointer (some ⟨g,0,none⟩)) (.int q (i:Int))).run P w= .ok (.pointer (some ⟨g,k * i,none⟩)) w:=by
 obtain⟨inf,hinf,hs⟩:=Option.map_eq_some_iff.1 T.s;have h1:(0:Int)≤i∧(i:Int) < n:=by omega
 have hz:=T.p;simp only [Instr.indexAt,run_underlying T.u,Instr.sureAddr,asIntOf,Sem.run_bind,Sem.run_pure,Result.andThen_ok,h1,and_self,if_true,run_sizeOf w hinf,Int.toNat_natCast,T.c];congr 3;unfold Addr.add;split
 ·rename_i h0
  rcases Nat.mul_eq_zero.1 h0 with h0 | h0
  ·subst h0;simp
  ·omega
 ·simp [Nat.mul_comm]
theorem b9z(T:EntT P t e n k)(x y:Operand){q:IntKind}(ho:o.op= .indexAddr t x y)(hx:a.eval x= .pointer (some ⟨g,0,none⟩))(hy:a.eval y= .int q (i:Int))(hi:i < n)(h:C (a.put o.dst (.pointer (some ⟨g,k * i,none⟩))) w):o.wp P a w C R:=by
 unfold Oper.wp execOp;simp only [ho,hx,hy,Sem.run_bind,T.run hi,Sem.run_pure,Result.andThen_ok];exact h
theorem c9i(T:EntT P t e n k)(hgd:Region.wanted o (yielded ops a.tmps)=true)(x y:Operand){q:IntKind}(ho:o.op= .indexAddr t x y)(hx:a.eval x= .pointer (some ⟨g,0,none⟩))(hy:a.eval y= .int q (i:Int))(hi:i < n)(h:wpList P ops Q rest (a.put o.dst (.pointer (some ⟨g,k * i,none⟩))) w):wpList P ops Q (o :: rest) a w:=
 a1u hgd fun _ hK=>b9z T x y ho hx hy hi (hK _ _ h)
theorem d7t(T:RowT P t k)(x y:Operand)(ho:o.op= .store t x y)(hx:a.eval x= .pointer (some ⟨g,k * i,none⟩)){q:List Value}(hy:a.eval y= .agg q.toArray)(hb:Blk w g bt (rws n f).toArray)(hk:∀i,(f i).length=k)(hi:i < n)(hq:q.length=k)(h1:q.toArray.all (·.oneCell')=true)
 (h:C (a.put o.dst undef) (w.setCells g (k * i) q)):o.wp P a w C R:=by
 refine wp_store_mid t x y ho g (k * i) q.toArray hx hy (hb.there ?_) (by rw [T.2,List.size_toArray,hq]) h1 h;rw [List.size_toArray,List.size_toArray,b1d hk,hq];have:=Nat.mul_le_mul_left k (show i + 1≤n from hi);rw [Nat.mul_succ]at this;exact this
theorem a9t(T:RowT P t k)(hgd:Region.wanted o (yielded ops a.tmps)=true)(x y:Operand)(ho:o.op= .store t x y)(hx:a.eval x= .pointer (some ⟨g,k * i,none⟩)){q:List Value}(hy:a.eval y= .agg q.toArray)(hb:Blk w g bt (rws n f).toArray)(hk:∀i,(f i).length=k)(hi:i < n)(hq:q.length=k)(h1:q.toArray.all (·.oneCell')=true)
 (h:∀w',Blk w' g bt (rws n (fun j=>if j=i then q else f j)).toArray→Kept [g] w w'→wpList P ops Q rest (a.put o.dst undef) w'):wpList P ops Q (o :: rest) a w:=
 a1u hgd fun _ hK=>d7t T x y ho hx hy hb hk hi hq h1 (hK _ _ (h _ (hb.e5d hk hi hq) (Kept.setCells q (k * i) w)))
end
end Go.Mem
namespace Go.Txt
section
variable {P:Program} {ops:Array Oper} {F:List Nat} {S:World→Prop} {G:Act→World→Prop}
def e2n{α:Type}(t:Nat)(f:Nat→α):α:=match t with | 0=>f 0 | n + 1=>f (n + 1)
theorem d5k{α:Type}(t:Nat)(f:Nat→α):e2n t f=f t:=by cases t <;> rfl
def b9p(j:Nat)(acc:List Nat)(m:Nat)(e:Edge):Nat:=if Region.binds .any e then m ||| (1 <<< e.on) ||| acc.getD (j - 1 - e.on) 0 else m
def e2g(j:Nat)(o:Oper)(acc:List Nat):Nat:=o.after.toList.foldl (b9p j acc) 0
def d7l:Nat→List Oper→List Nat→(List Nat→Bool)→Bool
 | _,[],acc,k=>k acc
 | j,o :: l,acc,k=>e2n (e2g j o acc) fun m=>d7l (j + 1) l (m :: acc) k
def e3k(P:Program)(ops:Array Oper)(F:List Nat)(acc:List Nat):Bool:=(List.range ops.size).all fun j=>(List.range j).all fun i=>(acc.getD (ops.size - 1 - j) 0).testBit i ||
 match ops[i]?,ops[j]? with | some x,some y=>b4k P ops F i j x y | _,_=>true
def b9b(P:Program)(ops:Array Oper)(F:List Nat):Bool:=Region.noSelect ops && a6y P ops F && d1m ops && d7l 0 ops.toList [] (e3k P ops F)
theorem c9f{j i:Nat}{acc:List Nat}:∀(l:List Edge) (m:Nat),(l.foldl (b9p j acc) m).testBit i=true→m.testBit i=true∨∃e∈l,Region.binds .any e=true∧(e.on=i∨(acc.getD (j - 1 - e.on) 0).testBit i=true)
 | [],m,h=>.inl h
 | e :: l,m,h=>by
   rcases c9f l _ h with h | ⟨e',he,hb,hh⟩
   ·unfold b9p at h;split at h
    ·rename_i hb
     simp only [Nat.testBit_or,Bool.or_eq_true,Nat.one_shiftLeft,Nat.testBit_two_pow,decide_eq_true_eq]at h;rcases h with(h | h) | h
     ·exact .inl h
     ·exact .inr ⟨e,by simp,hb,.inl h⟩
     ·exact .inr ⟨e,by simp,hb,.inr h⟩
    ·exact .inl h
   ·exact .inr ⟨e',by simp [he],hb,hh⟩
def c5l(ops:Array Oper)(j:Nat)(acc:List Nat):Prop:=acc.length=j∧∀e,e < j→∀i oe,ops[e]?=some oe→(acc.getD (j - 1 - e) 0).testBit i=true→b9r ops i oe
theorem a7v(hdep:d1m ops=true){k:List Nat→Bool}:∀(l:List Oper) (j:Nat) (acc:List Nat),(∀x,l[x]?=ops[j + x]?)→c5l ops j acc→d7l j l acc k=true→∃acc',c5l ops (j + l.length) acc'∧k acc'=true
 | [],j,acc,_,h,hr=>⟨acc,by simpa using h,hr⟩
 | o :: l,j,acc,hl,h,hr=>by
   unfold d7l at hr;rw [d5k]at hr;have ho:ops[j]?=some o:=by simpa using(hl 0).symm
   have:=a7v hdep l (j + 1) (e2g j o acc :: acc) (fun x=>by have:=hl (x + 1);simpa [Nat.add_assoc,Nat.add_comm 1 x]using this) ⟨by simp [h.1],fun e he i oe hoe hb=>?_⟩ hr
   ·simpa [Nat.add_assoc,Nat.add_comm 1]using this
   ·rcases Nat.lt_or_ge e j with hlt | hge
    ·rw [show j + 1 - 1 - e=(j - 1 - e) + 1 from by omega,List.getD_cons_succ]at hb;exact h.2 e hlt i oe hoe hb
    ·obtain rfl:e=j:=by omega
     rw [ho]at hoe;cases hoe
     rw [show e + 1 - 1 - e=0 from by omega,List.getD_cons_zero]at hb;rcases c9f _ _ hb with hb | ⟨e1,he1,hb1,hh⟩
     ·simp at hb
     ·intro listed hc hi;refine⟨e1,by simpa using he1,hb1,?_⟩;rcases hh with rfl | hh
      ·exact hi
      ·have hlt:=a3w hdep e o ho e1 (by simpa using he1) hb1;have hle:e < ops.size:=(Array.getElem?_eq_some_iff.1 ho).1;have hoe:ops[e1.on]?=some ops[e1.on]:=Array.getElem?_eq_getElem (by omega);obtain⟨e2,he2,hb3,hg2⟩:=h.2 e1.on hlt i _ hoe hh listed hc hi
       cases hx:listed.getD e1.on true with
       | false=>rfl
       | true=>rw [hc e1.on _ hoe hx e2 he2 hb3]at hg2;cases hg2
theorem b1c{acc:List Nat}(h:c5l ops ops.size acc)(hp:e3k P ops F acc=true){i j:Nat}{oi oj:Oper}(hij:i < j)(hi:ops[i]?=some oi)(hj:ops[j]?=some oj)(hn:¬b9r ops i oj):b4k P ops F i j oi oj=true:=by
 have hlt:j < ops.size:=(Array.getElem?_eq_some_iff.1 hj).1;have:=List.all_eq_true.1 (List.all_eq_true.1 hp j (by simpa using hlt)) i (by simpa using hij);simp only [hi,hj,Bool.or_eq_true]at this;rcases this with h1 | h1
 ·exact(hn (h.2 j hlt i oj hj h1)).elim
 ·exact h1
theorem b0b(hG:∀a w,G a w→Good P ops F S a)(hset:a6y P ops F=true)(hdep:d1m ops=true)
 (hpair:∀i j oi oj,i < j→ops[i]?=some oi→ops[j]?=some oj→¬b9r ops i oj→b4k P ops F i j oi oj=true)
 (hsel:∀(j:Nat) (o:Oper) cs b,ops[j]?=some o→o.op≠.select cs b):∀(n k:Nat) (listed:Array Bool) (a:Act) (w:World),S w→k + n=ops.size→listed.size=ops.size→(∀j,j < ops.size→listed.getD j true=decide (j < k))→a4z ops listed→
 b7h P ops S G n k a w→anyS P ops S G n listed a w
 | 0,k,listed,_,_,_,hk,hs,hl,_,h=>by
   refine⟨?_,h⟩
   cases hr:Region.ready .any ops listed with
   | nil=>rfl
   | cons i rs=>
     exfalso
     have hi:i∈Region.ready .any ops listed:=by rw [hr];simp
     obtain⟨hun,oi,hoi,_⟩:=mem_ready.1 hi;have hlt:i < ops.size:=(Array.getElem?_eq_some_iff.1 hoi).1;rw [hl i hlt]at hun;simp at hun;omega
 | n + 1,k,listed,a,w,hS,hk,hs,hl,hc,h=>by
   have hlt:k < ops.size:=by omega
   have h0:ops[k]?=some ops[k]:=Array.getElem?_eq_getElem hlt;have hr:k∈Region.ready .any ops listed:=by
    rw [mem_ready];refine⟨by rw [hl k hlt];simp,_,h0,fun e he hb=>?_⟩;have h1:=a3w hdep k _ h0 e he hb;have h2:=hl e.on (by omega);have h3:e.on < listed.size:=by omega
    simp [Array.getD,h3]at h2 ⊢;rw [h2];exact decide_eq_true h1
   have hfree:∀j oj,ops[j]?=some oj→j≠k→listed.getD j true=false→¬b9r ops k oj→b4k P ops F k j ops[k] oj=true:=by
    intro j oj hj hne hun hno;have hjl:j < ops.size:=(Array.getElem?_eq_some_iff.1 hj).1;rw [hl j hjl]at hun;have:k < j:=by
     simp at hun;omega
    exact hpair k j _ oj this h0 hj hno
   refine b8r hG hset hsel h0 n listed a w hS hc hfree hr ?_;refine b5b (fun a' w' hS' hh=>b0b hG hset hdep hpair hsel n (k + 1) _ a' w' hS' (by omega) (by simpa using hs) (fun j hj=>?_) (hc.set hr) hh) h;have h3:j < listed.size:=by omega
   have h2:=hl j hj;by_cases hjk:j=k
   ·subst hjk;simp [Array.getD,h3]
   ·simp [Array.getD,h3,Ne.symm hjk]at h2 ⊢;rw [h2];simp;omega
theorem a1k(F:List Nat)(S:World→Prop){id:Nat}{Q:Exit→Act→World→Prop}{a:Act}{w:World}{l:List Oper}(ss:List (List Oper))(hm:P.follows .mixedOrders=true)(hB:b9b P l.toArray F=true)
 (hss:parts P l=ss) (hS:S w.drew) (h:a3j P l.toArray S (a4v P l.toArray F S Q) ss a w.drew):(Code.region id l.toArray true).wp P Q a w:=by
 simp only [b9b,Bool.and_eq_true]at hB;obtain⟨⟨⟨hns,hset⟩,hdep⟩,hrows⟩:=hB;obtain⟨acc,hinv,hpr⟩:=a7v hdep l 0 [] (by simp) ⟨rfl,fun e he=>by omega⟩ (by simpa using hrows);have hpair:∀i j oi oj,i < j→l.toArray[i]?=some oi→l.toArray[j]?=some oj→¬b9r l.toArray i oj→b4k P l.toArray F i j oi oj=true:=
  fun i j oi oj hij hi hj hn=>b1c (by simpa using hinv) hpr hij hi hj hn
 have hG:∀a w,a4v P l.toArray F S Q a w→Good P l.toArray F S a:=fun _ _ h=>h.1
 have hsel:=Region.noSelect_spec hns;have h1:b7h P l.toArray S (a4v P l.toArray F S Q) l.length 0 a w.drew:=by
  subst hss;have hpn:=b2d (P:=P) l;have hpf:=a6i (P:=P) l;have hpo:=b5e (P:=P) l
  cases hp:parts P l with
  | nil=>exact absurd hp hpn
  | cons s ss=>
    rw [hp]at h hpf hpo
    have:=b4s hG hset (a3w hdep) hsel ss s 0 a w.drew hS hpo (fun j=>by
     have:s ++ ss.flatten=l:=by simpa using hpf
     rw [this];simp) h
    have e:s ++ ss.flatten=l:=by simpa using hpf
    rw [e]at this;exact this
 have h2:=b0b hG hset hdep hpair hsel l.length 0 (Array.replicate l.toArray.size false) a w.drew hS (by simp) (by simp) (fun j hj=>by simp at hj;simp [hj]) (a4z.start _) h1;refine wp_region_any hm ?_;have mono:∀(fuel:Nat) (listed:Array Bool) (a:Act) (w:World),anyS P l.toArray S (a4v P l.toArray F S Q) fuel listed a w→wpAny P .any l.toArray Q fuel listed a w:=by
  intro fuel
  induction fuel with
  | zero=>exact fun listed a w h=>⟨h.1,h.2.2⟩
  | succ fuel ih=>
    intro listed a w h;refine⟨fun h0=>(h.1 h0).2,fun i hi=>?_⟩;have h2:wpOp P l.toArray T0 i (wpAny P .any l.toArray Q fuel (listed.setIfInBounds i true)) a w:=wpOp_mono (fun a' w' hh=>ih _ a' w' hh.2) (h.2 i hi);unfold wpOp at h2 ⊢;split
    ·rename_i ho;simp only [ho]at h2;exact h2
    ·rename_i o ho
     simp only [ho]at h2;split
     ·rename_i hw
      simp only [hw,if_true]at h2;rcases h2 with h2 | ⟨_,hl⟩
      case inr=>exact(a2k hT0 hl).elim
      refine .inl ?_;unfold Oper.wp at h2 ⊢;generalize (execOp a.eval o).run P w=r at *
      cases r with
      | ok n w'=>
        cases n <;> simp only [Oper.upon]at h2 ⊢ <;> first
         | exact h2
         | exact Calls.mono h2 fun e w'' he=>by
            cases e with
            | returned u=>exact he
            | panicked c=>exact he.elim
            | outgrown=>exact(a2k hT0 he).elim
      | halt x w'=>
        cases x <;> simp only [Oper.upon]at h2 ⊢
        case panic u=>exact h2.elim
     ·rename_i hw;simp only [hw]at h2;exact h2
 have:=mono _ _ _ _ h2;simpa using this
end
end Go.Txt
namespace Go.Mem
open Go.RowKit Go.Txt
section
variable {P:Program} {w:World} {ops:Array Oper} {rest:List Oper} {o:Oper} {a:Act} {Q:Exit→Act→World→Prop} {C:Act→World→Prop} {R:Exit→Act→World→Prop}
theorem a0f(d:Nat){op:Op}{t:TypeId}{p:String}{af:Array Edge}{g:Option (Nat × Bool)}(h:wpList P ops Q (⟨some d,op,t,p,af,g⟩ :: rest) a w):wpList P ops Q (⟨some d,op,t,p,af,g⟩ :: rest) a w:=h
theorem a6c(x y:Operand){ts t:TypeId}{p:String}{af:Array Edge}{g:Option (Nat × Bool)}(h:wpList P ops Q (⟨none,.store ts x y,t,p,af,g⟩ :: rest) a w):wpList P ops Q (⟨none,.store ts x y,t,p,af,g⟩ :: rest) a w:=h
theorem a0p{v:Value}(hgd:Region.wanted o (yielded ops a.tmps)=true)(he:(execOp a.eval o).run P w= .ok (.value v) w)(h:wpList P ops Q rest (a.put o.dst v) w):wpList P ops Q (o :: rest) a w:=by
 refine a1u hgd fun K hK=>?_
 unfold Oper.wp;rw [he];exact hK _ _ h
theorem a4o{v:Value}(he:(execOp a.eval o).run P w= .ok (.value v) w)(h:C (a.put o.dst v) w):o.wp P a w C R:=by
 unfold Oper.wp;rw [he];exact h
end
end Go.Mem
namespace Go.Mem
open Go.RowKit
section
variable {P:Program} {w:World} {ops:Array Oper} {rest:List Oper} {o:Oper} {a:Act} {Q:Exit→Act→World→Prop} {C:Act→World→Prop} {R:Exit→Act→World→Prop} {t t2 e bt:TypeId} {s bytes:Nat} {z:Value} {g off n c i k m:Nat}
theorem a5r(T:SliceT P t e s bytes z)(hi:i < n)(q:IntKind)(w:World):(Instr.indexAt t (.slice (some ⟨g,off,none⟩) n c) (.int q (i:Int))).run P w= .ok (.pointer (some ⟨g,off + i * s,none⟩)) w:=by
 obtain⟨inf,hinf,_,hs,_⟩:=T.get;have h1:(0:Int)≤i∧(i:Int) < n:=by omega
 have h2:¬n≤i:=by omega
 simp [Instr.indexAt,run_underlying T.under,asIntOf,h1,h2,Go.sizeOf,typeInfo,hinf,hs,a2w]
theorem a4t(T:SliceT P t e s bytes z)(hgd:Region.wanted o (yielded ops a.tmps)=true)(x y:Operand){q:IntKind}(ho:o.op= .indexAddr t x y)(hx:a.eval x= .slice (some ⟨g,off,none⟩) n c)(hy:a.eval y= .int q (i:Int))(hi:i < n)(h:wpList P ops Q rest (a.put o.dst (.pointer (some ⟨g,off + i * s,none⟩))) w):wpList P ops Q (o :: rest) a w:=
 a1u hgd fun _ hK=>by
  unfold Oper.wp execOp;simp only [ho,hx,hy,Sem.run_bind,a5r T hi,Sem.run_pure,Result.andThen_ok];exact hK _ _ h
theorem Rd.elem{l:List Value}{w:World}(h:Rd w s (.slice (some ⟨g,off,none⟩) n c) n l){pre q post:List Value}(hl:l=pre ++ (q ++ post))(hp:pre.length=i * s)(hn:0 < n):w.rangeAt g (off + i * s) q:=by
 obtain⟨b,o',c',hv,_,hc⟩:=h.at_ hn
 cases hv
 intro j v hv;have hj:j < q.length:=(List.getElem?_eq_some_iff.1 hv).1;rw [Nat.add_assoc];refine hc (i * s + j) v ?_;rw [hl,List.getElem?_append_right (by omega),hp,Nat.add_sub_cancel_left,List.getElem?_append_left hj];exact hv
theorem d5z(T:SliceT P t e s bytes z)(kd:IntKind)(hk:k≤c)(w:World):(Instr.sliceAt t (.slice (some ⟨g,off,none⟩) n c) none (some (.int kd (k:Int))) none).run P w= .ok (.slice (some ⟨g,off,none⟩) k c) w:=by
 rw [a6s T (some ⟨g,off,none⟩) n c none _ none 0 k c w (by unfold Instr.sliceBounds;simp [a5e kd k c _ hk w])];split
 ·simp
 ·simp [a2w]
theorem Ow.close{cur:Array Value}{xs:List Value}(hb:Blk w g e cur)(hn:n≤c)(hc:c≤9223372036854775807)(hs:off + c * s≤cur.size)(hx:(cur.toList.drop off).take (n * s)=xs):Ow w e s (.slice (some ⟨g,off,none⟩) n c) n xs:=by
 refine⟨?_,.inr ⟨g,off,c,cur,rfl,hb,hn,hc,hs,hx⟩⟩;have:=Nat.mul_le_mul_right s hn;rw [←hx,List.length_take,List.length_drop,Array.length_toList];omega
theorem b8o(hgd:Region.wanted o (yielded ops a.tmps)=true){ps:Array (Nat × Operand)}(ho:o.op= .build t ps){vs:List (Nat × Value)}(hv:(ps.map fun(p:Nat × Operand)=>(p.1,a.eval p.2)).toList=vs){cs:Array Value}(hb:P.built t vs=some cs)(h:wpList P ops Q rest (a.put o.dst (.agg cs)) w):wpList P ops Q (o :: rest) a w:=by
 subst hv;refine a1u hgd fun _ hK=>wp_build t ps ho (by rw [hb];rfl) (hK _ _ ?_)
 rw [hb];exact h
theorem b0g(hgd:Region.wanted o (yielded ops a.tmps)=true)(i j:Nat)(x y:Operand)(ho:o.op= .build t #[(i,x),(j,y)]){v u:Value}(hx:a.eval x=v)(hy:a.eval y=u){cs:Array Value}(hb:P.built t [(i,v),(j,u)]=some cs)(h:wpList P ops Q rest (a.put o.dst (.agg cs)) w):wpList P ops Q (o :: rest) a w:=
 b8o hgd ho (by simp [hx,hy]) hb h
theorem b4t:∀(l:List Value) (k:Nat) (cs:Array Value) (j:Nat),((l.zipIdx k).foldl (fun cs (p:Value × Nat)=>cs.setIfInBounds p.2 p.1) cs)[j]?=if k≤j∧j < k + l.length∧j < cs.size then l[j - k]? else cs[j]?
 | [],k,cs,j=>by rw [if_neg (by simp;omega)];rfl
 | v :: l,k,cs,j=>by
   rw [List.zipIdx_cons,List.foldl_cons,b4t l (k + 1),Array.size_setIfInBounds,List.length_cons];by_cases h1:k=j
   ·subst h1;rw [if_neg (by omega)];by_cases h2:k < cs.size
    ·rw [if_pos (by omega)];simp [h2]
    ·rw [if_neg (by omega),Array.getElem?_eq_none (by simp;omega),Array.getElem?_eq_none (by omega)]
   ·by_cases h2:k + 1≤j∧j < k + 1 + l.length∧j < cs.size
    ·rw [if_pos h2,if_pos (by omega),show j - k=(j - (k + 1)) + 1 from by omega,List.getElem?_cons_succ]
    ·rw [if_neg h2,if_neg (by omega),Array.getElem?_setIfInBounds_ne h1]
theorem a1a(hgd:Region.wanted o (yielded ops a.tmps)=true)(T:SliceT P t e s bytes z){x0:Operand}(ho:o.op= .buildSlice t 1 #[(0,x0)]){v0:Value}(h0:a.eval x0=v0)
 (hsmall:s≤2 ^ 24) {cells:Array Value} (hc:v0.cells=cells) (hcs:cells.size=s)
 (h:∀g w',Made w w' g e cells→wpList P ops Q rest (a.put o.dst (.slice (some ⟨g,0,none⟩) 1 1)) w'):wpList P ops Q (o :: rest) a w:=by
 obtain⟨i,hi,hz,hs,hb⟩:=info_parts T.2;have e2:(#[(0,x0)].map fun(p:Nat × Operand)=>(p.1,a.eval p.2)).toList= [(0,v0)]:=by simp [h0]
 have hf:Instr.fill (fun i=>some (i * s,s)) ((Array.range (1 * s)).map (z.cells[· % z.cells.size]!)) [(0,v0)]=some cells:=by
  have hzs:((Array.range (1 * s)).map (z.cells[· % z.cells.size]!)).size=s:=by simp
  subst hc;unfold Instr.fill;simp only [hcs,Nat.zero_mul,ne_eq,hzs,Nat.zero_add,gt_iff_lt,Nat.lt_irrefl,decide_false,Bool.or_false,decide_not,decide_true,Bool.not_true,Bool.false_eq_true,if_false,Instr.fill];congr 1;rw [←Array.foldl_toList,Array.toList_zipIdx];apply Array.ext_getElem?;intro j;refine(b4t v0.cells.toList 0 _ j).trans ?_;rw [hzs];by_cases hj:j < s
  ·rw [if_pos (by rw [Array.length_toList,hcs];omega)];simp
  ·rw [if_neg (by omega),Array.getElem?_eq_none (by rw [hzs];omega),Array.getElem?_eq_none (by omega)]
 refine a1u hgd fun _ hK=>wp_buildSlice t e 1 _ ho cells i z T.1 hi hz (by rw [hs];omega) (by rw [hs];have:=T.pos;omega) (by rw [hs];exact(congrArg (Instr.fill _ _) e2).trans hf) (hK _ _ (h _ _ ⟨Blk.new _ _ _,(Kept.refl [] w).alloc _,Nat.le_refl _⟩))
end
end Go.Mem
namespace Go.Mem
open Go.RowKit
variable {α:Type}
def fam(n:Nat)(f:Nat→α):List α:=(List.range n).map f
theorem a7c(n:Nat)(f:Nat→α):(fam n f).length=n:=by simp [fam]
theorem c0m(n:Nat)(f:Nat→α)(i:Nat)(h:i < n):(fam n f)[i]'(by rw [a7c];exact h)=f i:=by simp [fam]
theorem a5x(n:Nat){f g:Nat→α}(h:∀i,i < n→f i=g i):fam n f=fam n g:=by
 unfold fam;apply List.map_congr_left;intro i hi;exact h i (by simpa using hi)
def mix(f g:Nat→α)(k:Nat)(i:Nat):α:=if i < k then g i else f i
theorem c1i(f g:Nat→α)(k:Nat):mix f g k k=f k:=by simp [mix]
theorem c4i(f g:Nat→α){k i:Nat}(h:k≤i):mix f g k i=f i:=if_neg (by omega)
theorem c0g(f g:Nat→α){k i:Nat}(h:i < k):mix f g k i=g i:=if_pos h
theorem b0e(n:Nat)(f g:Nat→α):fam n (mix f g 0)=fam n f:=a5x n fun _ _=>c4i f g (Nat.zero_le _)
theorem a4s(n:Nat)(f g:Nat→α):fam n (mix f g n)=fam n g:=a5x n fun _ h=>c0g f g h
theorem d1t(n:Nat)(f:Nat→α)(k:Nat)(v:α):(fam n f).set k v=fam n (fun i=>if i=k then v else f i):=by
 apply List.ext_getElem
 ·simp [fam]
 ·intro i h1 h2;have hi:i < n:=by simpa [fam]using h2
  rw [List.getElem_set,c0m n f i hi,c0m n (fun j=>if j=k then v else f j) i hi];by_cases h:k=i
  ·rw [if_pos h,if_pos h.symm]
  ·rw [if_neg h,if_neg (fun e=>h e.symm)]
theorem e7g(n:Nat)(f g:Nat→α)(k:Nat):(fam n (mix f g k)).set k (g k)=fam n (mix f g (k + 1)):=by
 rw [d1t];apply a5x;intro i _;unfold mix;by_cases e:i=k
 ·rw [if_pos e,if_pos (by omega),e]
 ·rw [if_neg e];by_cases h:i < k
  ·rw [if_pos h,if_pos (by omega)]
  ·rw [if_neg h,if_neg (by omega)]
variable {w:World} {g:Nat} {bt:TypeId} {n:Nat} {v:α→Value}
theorem Blk.a8v{f:Nat→α}(h:Blk w g bt ((fam n f).map v).toArray)(i:Nat)(hi:i < n):w.cell? ⟨g,i,none⟩=some (v (f i)):=by
 have:=h.mget (f:=v) i (by rw [a7c];exact hi)
 rwa [c0m n f i hi]at this
theorem Blk.e6l{f:Nat→α}(h:Blk w g bt ((fam n f).map v).toArray)(i:Nat)(x:α):Blk (w.setCell ⟨g,i,none⟩ (v x)) g bt ((fam n (fun j=>if j=i then x else f j)).map v).toArray:=by
 have:=h.b3i i (v x);have e:((fam n f).map v).toArray.setIfInBounds i (v x)=((fam n (fun j=>if j=i then x else f j)).map v).toArray:=by
  rw [←d1t];simp [List.map_set]
 rwa [e]at this
theorem Blk.b2o{f f':Nat→α}{k:Nat}(h:Blk w g bt ((fam n (mix f f' k)).map v).toArray):Blk (w.setCell ⟨g,k,none⟩ (v (f' k))) g bt ((fam n (mix f f' (k + 1))).map v).toArray:=by
 have:=h.b3i k (v (f' k));have e:((fam n (mix f f' k)).map v).toArray.setIfInBounds k (v (f' k))=((fam n (mix f f' (k + 1))).map v).toArray:=by
  rw [←e7g];simp [List.map_set]
 rwa [e]at this
end Go.Mem
