/-
  append to a slice that is full: nothing that stood there is written.
-/
import Derived.Test.YtdbngnlpafcogaaGreatZmText
set_option maxRecDepth 100000
namespace Go.Mem
open Go.RowKit
section
variable {P:Program} {w w':World} {ops:Array Oper} {Q:Exit→Act→World→Prop} {rest:List Oper} {a:Act} {o:Oper}
theorem d4z{t e:TypeId}{size bytes:Nat}{z:Value}(T:SliceT P t e size bytes z)(ty:TypeId){v:Value}{n:Nat}{xs:List Value}(hown:Ow w e size v n xs)(hfull:∀A c,v= .slice A n c→c=n)
 {x:Value} {m:Nat} {news:List Value} (hr:Rd w size x m news) (h1:∀u∈news,u.oneCell'=true) (hbytes:(n + m) * bytes≤140737488355328) (h63:n + m≤9223372036854775807) :
 ∃v' w',(Builtin.append_ #[t,t] ty #[v,x]).run P w= .ok v' w'∧Ow w' e size v' (n + m) (xs ++ news)∧Kept [] w w'∧(v'.ownBlock=v.ownBlock∨v'.ownBlock=some w.heap.size):=by
 obtain⟨i,hi,hz,hsz,hby⟩:=T.get
 obtain⟨A,c,rfl,hl,_,hx⟩:=hr
 have hsrc:Src P size t (.slice A m c) m news w:=by
  by_cases hm:m=0
  ·subst hm
   have hn:news= []:=List.eq_nil_of_length_eq_zero (by simpa using hl)
   subst hn
   cases A with
   | none=>exact Src.ofNil w T.under c
   | some ad=>exact Src.ofSlice w T.under ad 0 c [] (by simp) (by simp) (by simp)
  ·obtain⟨b,o,rfl,hcell⟩:=hx (by omega)
   exact Src.ofSlice w T.under ⟨b,o,none⟩ m c news hl (fun j u hu=>by rw [a3x];exact hcell j u hu) h1
 have hlen:(xs ++ news).length=(n + m) * size:=by rw [List.length_append,hown.1,hl,Nat.add_mul]
 have hgrow:∀(base:Option Addr) (cap:Nat),v= .slice base n cap→cap < n + m→(Builtin.firstCells i.size n (.slice base n cap)).run P w.drew= .ok xs.toArray w.drew→
  ∃v' w',(Builtin.append_ #[t,t] ty #[v,.slice A m c]).run P w= .ok v' w'∧Ow w' e size v' (n + m) (xs ++ news)∧Kept [] w w'∧(v'.ownBlock=v.ownBlock∨v'.ownBlock=some w.heap.size):=by
  intro base cap hv hcap hold
  subst hv
  have hrun:=run_append_grow_src (P:=P) w t t ty e i z T.under hi hz base n cap xs hold (.slice A m c) m news (by rw [hsz];exact hsrc) hcap (by omega) (by rw [hby];exact growslice_fits hcap hbytes)
  have hge:=grownCap_ge w (n + m) cap e
  have hcm:grownCap w (n + m) cap e≤maxLen:=grownCap_le_maxLen w (n + m) cap e (by simp only [maxLen];exact h63)
  refine⟨_,_,hrun,⟨hlen,.inr ⟨w.heap.size,0,_,_,rfl,heap_alloc_new w.drew _,hge,by simpa [maxLen]using hcm,?_,?_⟩⟩,?_,.inr rfl⟩
  ·simp only [Array.size_append,List.size_toArray,size_zeroCells,T.zs,hlen,←Nat.add_mul]
   have:(n + m + (grownCap w (n + m) cap e - (n + m)))=grownCap w (n + m) cap e:=by omega
   rw [this];omega
  ·simp only [Array.toList_append,List.drop_zero]
   rw [←hlen]
   exact List.take_left
  ·exact(Kept.refl [] w).drew.alloc _
 rcases hown.2 with⟨hv,h0⟩ | ⟨g,o',cap,cur,hv,hg,hnc,hcm,hcs,ht⟩
 ·subst h0
  have hx0:xs= []:=List.eq_nil_of_length_eq_zero (by simpa using hown.1)
  by_cases hm:m=0
  ·subst hm
   have hn:news= []:=List.eq_nil_of_length_eq_zero (by simpa using hl)
   subst hn
   subst hv
   refine⟨.slice none 0 0,w,?_,by simpa using hown,Kept.refl _ _,.inl rfl⟩
   cases A <;> simp [Builtin.append_,run_underlying T.under,sizeOf,typeInfo,hi,Builtin.lenOf,Builtin.firstCells,loadCells,loadCellsFrom]
  ·exact hgrow none 0 hv (by omega) (by rw [hx0];exact run_firstCells_none w.drew _ _ _ _)
 ·by_cases hroom:n + m≤cap
  ·subst hv
   have hfit:(n + m) * size≤cap * size:=Nat.mul_le_mul_right _ hroom
   rw [Nat.add_mul]at hfit
   have hrun:=run_append_room_src (P:=P) w t t ty e i T.under hi g o' n cap (.slice A m c) m news (by rw [hsz];exact hsrc) hroom
    (fun j hj=>by rw [hg.cell,hsz];simp;omega) (fun j _=>hg.frozen _)
   obtain⟨cs',b1,b2,b3⟩:=Blk.setCells news (o' + n * i.size) cur w hg
   refine⟨_,_,hrun,⟨hlen,.inr ⟨g,o',cap,cs',rfl,b1,hroom,hcm,by omega,?_⟩⟩,(by
    have hc:=hfull _ _ rfl
    have hm:m=0:=by omega
    subst hm
    have hn:news= []:=List.eq_nil_of_length_eq_zero (by simpa using hl)
    subst hn
    exact Kept.refl [] w),.inl rfl⟩
   rw [hsz]at b3
   apply List.ext_getElem?
   intro j
   have hxl:=hown.1
   rw [List.getElem?_take,List.getElem?_append,List.getElem?_drop]
   have b4:cs'.toList[o' + j]?=cs'[o' + j]?:=by simp
   rw [b4,b3,Nat.add_mul]
   by_cases hj:j < n * size
   ·rw [if_pos (by omega),if_neg (by omega),if_pos (by omega),←ht,List.getElem?_take,if_pos hj,List.getElem?_drop]
    simp
   ·by_cases hj2:j < n * size + m * size
    ·rw [if_pos hj2,if_pos (by omega),if_neg (by omega)]
     congr 1
     omega
    ·rw [if_neg hj2,if_neg (by omega),List.getElem?_eq_none (by omega)]
  ·refine hgrow _ cap hv (by omega) ?_
   subst hv
   have:=run_firstCells_some (P:=P) w.drew i.size n ⟨g,o',none⟩ n cap xs (by rw [hsz];exact hown.1) (fun j u hu=>by
    rw [a3x]
    obtain⟨b2,o2,c2,hv2,_,hcell⟩:=(Rd.b1o hown).at_ (by
     rcases Nat.eq_zero_or_pos n with h | h
     ·subst h
      have:=hown.1
      simp at this
      subst this
      simp at hu
     ·exact h)
    cases hv2
    exact hcell j u hu)
   exact this
theorem d9a{t e:TypeId}{size bytes:Nat}{z:Value}(T:SliceT P t e size bytes z)(hgd:o.guard=none)(s x:Operand)
 (ho:o.op= .call {callee:=.builtin .append,args:=#[s,x],argTypes:=#[t,t]}) {v:Value} (hs:a.eval s=v) {n:Nat} {xs:List Value} (hown:Ow w e size v n xs) (hfull:∀A c,v= .slice A n c→c=n)
 {xv:Value} (hx:a.eval x=xv) {m:Nat} {news:List Value} (hr:Rd w size xv m news) (h1:∀u∈news,u.oneCell'=true) (hbytes:(n + m) * bytes≤140737488355328) (h63:n + m≤9223372036854775807)
 (h:∀v' w',Ow w' e size v' (n + m) (xs ++ news)→Kept [] w w'→(v'.ownBlock=v.ownBlock∨v'.ownBlock=some w.heap.size)→wpList P ops Q rest (a.put o.dst v') w'):wpList P ops Q (o :: rest) a w:=by
 refine wpList_plain hgd fun K hK=>?_
 obtain⟨v',w',hrun,h2,h3,h4⟩:=d4z T o.type hown hfull hr h1 hbytes h63
 unfold Oper.wp execOp
 simp only [ho,resolve,invoke,builtin,Sem.run_bind,Sem.run_pure,Result.andThen_ok,List.map_toArray,List.map_cons,List.map_nil,hs,hx,hrun]
 exact hK _ _ (h v' w' h2 h3 h4)
end
end Go.Mem
