/-
  An identity's keys: a history's value.
  An identity's keys: rows cloned, whatever there is of them.
  An identity's keys: Next, where it says no.
  A statement that draws its order: the last two operations are bound to all ahead of them.
  A statement that draws its order: a tail whose operations are each bound to all ahead of them.
  An identity's keys: Next, where it says yes.
  An identity's keys: Make as a whole; Next in words.
  Digests: Sum256 of known bytes, so that the kernel can reckon it.
  An identity's keys: two values that differ, by the kernel.
  An identity's keys: what must be answered ahead of everything else.
-/
import Derived.Test.YtdbngnlpafcogaaGreatZcJ03
import Derived.Test.YtdbngnlpafcogaaGreatZcSh5
import Derived.Test.YtdbngnlpafcogaaGreatZcJ02
set_option maxRecDepth 100000
namespace Go.Proofs.YtdbngnlpafcogaaGreat
open Go.RowKit Go.Mem Go.Txt
end Go.Proofs.YtdbngnlpafcogaaGreat
namespace Go.Proofs.YtdbngnlpafcogaaGreat
open Go.RowKit Go.Mem Go.Txt
end Go.Proofs.YtdbngnlpafcogaaGreat
namespace Go.Proofs.YtdbngnlpafcogaaGreat
open Go.RowKit Go.Mem Go.Txt
end Go.Proofs.YtdbngnlpafcogaaGreat
namespace Go.Txt
open Go.RowKit Go.Mem
section
variable {P:Program} {ops:Array Oper} {Q:Exit→Act→World→Prop}
def c6f(l:List Oper)(i:Nat):List Nat:=match l[i]? with
 | some o=>o.after.toList.filterMap fun e=>if Region.binds .any e && decide (e.on < l.length)then some e.on else none
 | none=>[]
def d2l(l:List Oper):Nat→List Nat→List Nat
 | 0,s=>s
 | f + 1,s=>d2l l f (s ++ s.flatMap (c6f l)).eraseDups
theorem b7r{l:List Oper}{i k:Nat}:k∈c6f l i↔∃o,l[i]?=some o∧a1w o k∧k < l.length:=by
 unfold c6f
 cases h:l[i]? with
 | none=>simp
 | some o=>
   simp only [List.mem_filterMap,Option.some.injEq,exists_eq_left'];constructor
   ·rintro⟨e,he,hb⟩;split at hb
    ·rename_i hb'
     cases hb
     simp only [Bool.and_eq_true,decide_eq_true_eq]at hb';exact⟨⟨e,by simpa using he,rfl,hb'.1⟩,hb'.2⟩
    ·cases hb
   ·rintro⟨⟨e,he,rfl,hb⟩,hk⟩;exact⟨e,by simpa using he,by rw [if_pos (by simp [hb,hk])]⟩
def b3c(l:List Oper)(L:Nat→Bool):Prop:=∀(j:Nat) o,l[j]?=some o→L j=true→∀k,a1w o k→k < l.length→L k=true
theorem b8g{l:List Oper}{L:Nat→Bool}(hc:b3c l L):∀(f:Nat) (s:List Nat),(∀i∈s,L i=true)→∀k∈d2l l f s,L k=true
 | 0,_,h,k,hk=>h k hk
 | f + 1,s,h,k,hk=>by
   refine b8g hc f _ (fun i hi=>?_) k hk;rw [List.mem_eraseDups,List.mem_append]at hi;rcases hi with hi | hi
   ·exact h i hi
   ·obtain⟨j,hj,hi⟩:=List.mem_flatMap.1 hi;obtain⟨o,ho,hb,hk⟩:=b7r.1 hi;exact hc j o ho (h j hj) i hb hk
end
end Go.Txt
namespace Go.Txt
open Go.RowKit Go.Mem
section
variable {P:Program} {ops:Array Oper} {Q:Exit→Act→World→Prop}
def a2t(P:Program)(Q:Exit→Act→World→Prop):List Oper→Act→World→Prop
 | [],a,w=>Q .normal a w
 | o :: l,a,w=>o.wp P a w (a2t P Q l) Q
def e4o(l:List Oper)(n:Nat):Bool:=(List.range (l.length - n)).all fun k=>(List.range (n + k)).all fun j=>(d2l l l.length (c6f l (n + k))).contains j
theorem b1l{l:List Oper}{n i:Nat}(h:e4o l n=true)(hn:n≤i)(hi:i < l.length){L:Nat→Bool}(hc:b3c l L){o:Oper}(ho:l[i]?=some o)(hb:∀j,a1w o j→j < l.length→L j=true):∀j,j < i→L j=true:=by
 intro j hj;have h1:=List.all_eq_true.1 h (i - n) (by simp;omega);rw [show n + (i - n)=i from by omega]at h1;have h2:=List.all_eq_true.1 h1 j (by simpa using hj);refine b8g hc _ _ (fun k hk=>?_) j (by simpa using h2);obtain⟨o2,ho2,hb2,hk2⟩:=b7r.1 hk;rw [ho]at ho2;cases ho2
 exact hb k hb2 hk2
theorem b6f{l:List Oper}{L:Nat→Bool}{i:Nat}{o:Oper}(hcl:b3c l L)(ho:l[i]?=some o)(hbound:∀j,a1w o j→L j=true):b3c l (fun j=>if j=i then true else L j):=by
 intro j oj hj hl k hb hk
 dsimp only at hl ⊢
 by_cases hki:k=i
 ·rw [if_pos hki]
 ·rw [if_neg hki];by_cases hji:j=i
  ·subst hji;rw [ho]at hj;cases hj
   exact hbound k hb
  ·rw [if_neg hji]at hl;exact hcl j oj hj hl k hb hk
end
end Go.Txt
namespace Go.Proofs.YtdbngnlpafcogaaGreat
open Go.RowKit Go.Mem Go.Txt
section
variable {P:Program} {w:World} {o:Oper} {a:Act} {C:Act→World→Prop} {R:Exit→Act→World→Prop} {t e:TypeId} {s bytes:Nat} {z:Value}
theorem b8y(T:SliceT P t e s bytes z){x0:Operand}(ho:o.op= .buildSlice t 1 #[(0,x0)]){v0:Value}(h0:a.eval x0=v0)
 (hsmall:s≤2 ^ 24) {cells:Array Value} (hc:v0.cells=cells) (hcs:cells.size=s)
 (h:∀g w',Made w w' g e cells→C (a.put o.dst (.slice (some ⟨g,0,none⟩) 1 1)) w'):o.wp P a w C R:=by
 obtain⟨i,hi,hz,hs,hb⟩:=info_parts T.2;have e2:(#[(0,x0)].map fun(p:Nat × Operand)=>(p.1,a.eval p.2)).toList= [(0,v0)]:=by simp [h0]
 have hf:Instr.fill (fun i=>some (i * s,s)) ((Array.range (1 * s)).map (z.cells[· % z.cells.size]!)) [(0,v0)]=some cells:=by
  have hzs:((Array.range (1 * s)).map (z.cells[· % z.cells.size]!)).size=s:=by simp
  subst hc;unfold Instr.fill;simp only [hcs,Nat.zero_mul,ne_eq,hzs,Nat.zero_add,gt_iff_lt,Nat.lt_irrefl,decide_false,Bool.or_false,decide_not,decide_true,Bool.not_true,Bool.false_eq_true,if_false,Instr.fill];congr 1;rw [←Array.foldl_toList,Array.toList_zipIdx];apply Array.ext_getElem?;intro j;refine(b4t v0.cells.toList 0 _ j).trans ?_;rw [hzs];by_cases hj:j < s
  ·rw [if_pos (by rw [Array.length_toList,hcs];omega)];simp
  ·rw [if_neg (by omega),Array.getElem?_eq_none (by rw [hzs];omega),Array.getElem?_eq_none (by omega)]
 exact wp_buildSlice t e 1 _ ho cells i z T.1 hi hz (by rw [hs];omega) (by rw [hs];have:=T.pos;omega) (by rw [hs];exact(congrArg (Instr.fill _ _) e2).trans hf) (h _ _ ⟨Blk.new _ _ _,(Kept.refl [] w).alloc _,Nat.le_refl _⟩)
theorem e2s{size n m:Nat}{xs news:List Value}(T:SliceT P t e size bytes z)(x y:Operand)
 (ho:o.op= .call {callee:=.builtin .append,args:=#[x,y],argTypes:=#[t,t]}) {v:Value} (hs:a.eval x=v) (hown:Ow w e size v n xs)
 {xv:Value} (hx:a.eval y=xv) (hr:Rd w size xv m news) (h1:∀u∈news,u.oneCell'=true) (hbytes:(n + m) * bytes≤140737488355328) (h63:n + m≤9223372036854775807)
 (h:∀v' w',Ow w' e size v' (n + m) (xs ++ news)→Kept v.ownBlock.toList w w'→(v'.ownBlock=v.ownBlock∨v'.ownBlock=some w.heap.size)→C (a.put o.dst v') w'):o.wp P a w C R:=by
 obtain⟨v',w',hrun,h2,h3,h4⟩:=b9l T o.type hown hr h1 hbytes h63;unfold Oper.wp execOp;simp only [ho,resolve,invoke,builtin,Sem.run_bind,Sem.run_pure,Result.andThen_ok,List.map_toArray,List.map_cons,List.map_nil,hs,hx,hrun];exact h _ _ h2 h3 h4
end
section
variable {l:List Oper} {vs:List Rel} {a0:Act} {w0:World} {o:Oper}
def d4z(key:List UInt8):Rel:=fun v w=>Rd w 32 v [key].length ([key].flatMap bv)
theorem d4z.a0k{key:List UInt8}{v:Value}{w w':World}(h:d4z key v w)(k:Kept [] w w'):d4z key v w':=Rd.a0k h k
def e5t(keys:List (List UInt8))(K:Nat):Rel:=fun v w=>Ow w 22 32 v keys.length (keys.flatMap bv)∧∀k,v.ownBlock=some k→K≤k
theorem e5t.a0k{keys:List (List UInt8)}{K:Nat}{v:Value}{w w':World}(h:e5t keys K v w)(k:Kept [] w w'):e5t keys K v w':=⟨h.1.a0k k,h.2⟩
end
end Go.Proofs.YtdbngnlpafcogaaGreat
namespace Go.Proofs.YtdbngnlpafcogaaGreat
open Go.RowKit Go.Mem Go.Txt
end Go.Proofs.YtdbngnlpafcogaaGreat
namespace Go.Proofs.YtdbngnlpafcogaaGreat
open Go.RowKit Go.Mem Go.Txt
def fcN{α:Type}(n:Nat)(f:Nat→α):α:=match n with
 | 0=>f 0
 | k + 1=>f (k + 1)
theorem d7e{α:Type}(n:Nat)(f:Nat→α):fcN n f=f n:=by cases n <;> rfl
def fcB{α:Type}(x:B32)(f:B32→α):α:=fcN x.toNat fun n=>f (BitVec.ofNat 32 n)
theorem b1m{α:Type}(x:B32)(f:B32→α):fcB x f=f x:=by unfold fcB;rw [d7e,BitVec.ofNat_toNat,BitVec.setWidth_eq]
def e1j(w:List B32):B32:=ls1 (w.getD 14 0) + w.getD 9 0 + ls0 (w.getD 1 0) + w.getD 0 0
def goB:List Nat→List B32→B32→B32→B32→B32→B32→B32→B32→B32→List B32
 | [],_,a,b,c,d,e,f,g,h=>[a,b,c,d,e,f,g,h]
 | k :: ks,w,a,b,c,d,e,f,g,h=>
   fcB (h + us1 e + chB e f g + c5g k + w.getD 0 0) fun t=>
   fcB (t + (us0 a + mjB a b c)) fun x=>
   fcB (d + t) fun y=>
   fcB (e1j w) fun z=>goB ks (w.tail ++ [z]) x a b c y e f g
theorem c2y(p:Nat→UInt8)(h0:Nat→B32):∀(ks:List Nat) (t:Nat) (w:List B32) (a b c d e f g h:B32),(∀j,j < ks.length→ks.getD j 0=a2f.getD (t + j) 0)→w.length=16→(∀i,i < 16→w.getD i 0=sch p (t + i))→
 a3z p h0 t 0=a→a3z p h0 t 1=b→a3z p h0 t 2=c→a3z p h0 t 3=d→a3z p h0 t 4=e→a3z p h0 t 5=f→a3z p h0 t 6=g→a3z p h0 t 7=h→
 goB ks w a b c d e f g h=(List.range 8).map (a3z p h0 (t + ks.length))
 | [],t,w,_,_,_,_,_,_,_,_,_,_,_,e0,e1,e2,e3,e4,e5,e6,e7=>by
   subst e0 e1 e2 e3 e4 e5 e6 e7;rfl
 | k :: ks,t,w,_,_,_,_,_,_,_,_,hk,hl,hw,e0,e1,e2,e3,e4,e5,e6,e7=>by
   unfold goB;rw [b1m,b1m,b1m,b1m];have ek:k=a2f.getD t 0:=by have:=hk 0 (by simp);simpa using this
   have ew:w.getD 0 0=sch p t:=hw 0 (by decide);have en:e1j w=sch p (t + 16):=by
    unfold e1j;rw [hw 14 (by decide),hw 9 (by decide),hw 1 (by decide),hw 0 (by decide),c2q p (t:=t + 16) (by omega)];rfl
   have hk2:∀j,j < ks.length→ks.getD j 0=a2f.getD (t + 1 + j) 0:=fun j hj=>by
    have:=hk (j + 1) (by simp;omega);rw [show t + 1 + j=t + (j + 1)from by omega,←this];simp
   have hw2:∀i,i < 16→(w.tail ++ [e1j w]).getD i 0=sch p (t + 1 + i):=fun i hi=>by
    by_cases h15:i=15
    ·subst h15;rw [List.getD_eq_getElem?_getD,List.getElem?_append_right (by simp [hl]),show t + 1 + 15=t + 16 from by omega,←en];simp [hl]
    ·have hi2:i + 1 < 16:=by omega
     have:=hw (i + 1) hi2;rw [show t + 1 + i=t + (i + 1)from by omega,←this,List.getD_eq_getElem?_getD,List.getElem?_append_left (by simp [hl];omega),List.getD_eq_getElem?_getD];simp
   have r0:a3z p h0 (t + 1) 0=a3z p h0 t 7 + us1 (a3z p h0 t 4) + chB (a3z p h0 t 4) (a3z p h0 t 5) (a3z p h0 t 6) + c5g k + w.getD 0 0 + (us0 (a3z p h0 t 0) + mjB (a3z p h0 t 0) (a3z p h0 t 1) (a3z p h0 t 2)):=by
    rw [ek,ew];rfl
   have r4:a3z p h0 (t + 1) 4=a3z p h0 t 3 + (a3z p h0 t 7 + us1 (a3z p h0 t 4) + chB (a3z p h0 t 4) (a3z p h0 t 5) (a3z p h0 t 6) + c5g k + w.getD 0 0):=by
    rw [ek,ew];rfl
   subst e0 e1 e2 e3 e4 e5 e6 e7;refine(c2y p h0 ks (t + 1) _ _ _ _ _ _ _ _ _ hk2 (by simp [hl]) hw2 r0 rfl rfl rfl r4 rfl rfl rfl).trans ?_;rw [List.length_cons,show t + 1 + ks.length=t + (ks.length + 1)from by omega]
def c9j:List Nat:=a2f.take 64
theorem c1z:c9j.length=64:=by decide +kernel
theorem d7o(j:Nat)(h:j < c9j.length):c9j.getD j 0=a2f.getD j 0:=by
 rw [c1z]at h;unfold c9j;rw [List.getD_eq_getElem?_getD,List.getElem?_take,if_pos h,List.getD_eq_getElem?_getD]
def e7s(p:Nat→UInt8)(h:List B32):List B32:=
 (List.zipWith (· + ·) h (goB c9j ((List.range 16).map (wrdS p)) (h.getD 0 0) (h.getD 1 0) (h.getD 2 0) (h.getD 3 0) (h.getD 4 0) (h.getD 5 0) (h.getD 6 0) (h.getD 7 0)))
theorem c4g(p:Nat→UInt8)(h:Nat→B32):e7s p ((List.range 8).map h)=(List.range 8).map (blk p h):=by
 unfold e7s;have hz:∀i,i < 8→((List.range 8).map h).getD i 0=h i:=fun i hi=>by simp [List.getD_eq_getElem?_getD,hi]
 rw [hz 0 (by decide),hz 1 (by decide),hz 2 (by decide),hz 3 (by decide),hz 4 (by decide),hz 5 (by decide),hz 6 (by decide),hz 7 (by decide)]
 have q:=c2y p h c9j 0 ((List.range 16).map (wrdS p)) (h 0) (h 1) (h 2) (h 3) (h 4) (h 5) (h 6) (h 7) (fun j hj=>by rw [Nat.zero_add];exact d7o j hj) (by simp) (fun i hi=>by
  rw [Nat.zero_add,c1q p hi];simp [List.getD_eq_getElem?_getD,hi]) rfl rfl rfl rfl rfl rfl rfl rfl
 rw [q,c1z];rfl
def b9w(b:List UInt8):Nat→List B32
 | 0=>a6u.map c5g
 | n + 1=>e7s (fun j=>b.getD (64 * n + j) 0) (b9w b n)
theorem b1x(b:List UInt8):∀n,b9w b n=(List.range 8).map (b0r b n)
 | 0=>rfl
 | n + 1=>by unfold b9w;rw [b1x b n,c4g];rfl
def e5c(m:List UInt8):List UInt8:=(List.range 32).map fun j=>UInt8.ofNat (((b9w (pad m) ((pad m).length / 64)).getD (j / 4) 0).toNat / 2 ^ (24 - 8 * (j % 4)))
theorem b4u(m:List UInt8):sha m=e5c m:=by
 unfold sha e5c c3k;apply List.map_congr_left;intro j hj;have hj2:j < 32:=List.mem_range.1 hj;have h8:j / 4 < 8:=by omega
 rw [b1x];simp [List.getD_eq_getElem?_getD,h8]
end Go.Proofs.YtdbngnlpafcogaaGreat
namespace Go.Proofs.YtdbngnlpafcogaaGreat
open Go.RowKit Go.Mem Go.Txt
end Go.Proofs.YtdbngnlpafcogaaGreat
namespace Go.Proofs.YtdbngnlpafcogaaGreat
open Go.RowKit Go.Mem Go.Txt
end Go.Proofs.YtdbngnlpafcogaaGreat
