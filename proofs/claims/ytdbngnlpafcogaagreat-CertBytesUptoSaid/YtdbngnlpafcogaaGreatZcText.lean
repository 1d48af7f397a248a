/-
  Words for memory, over any program: what is kept, blocks known whole, slices that read as lists, rows of one's own; append, make, string(bytes), copy.
  What comes in, as words of 'Mem': slices of bytes.
  More words for memory: make.
  More words for memory: a row of one's own that may begin in the middle of its block, and end before the block's end ('Ow'); append onto it; stores into it.
  Words for memory: arrays by value: loaded whole, stored whole, handed back; copy into a block; equality of arrays.
  What comes in: arrays of bytes.
  What the bound on the bulk gives.
  What the reach gives.
  Words for memory: a slice of a slice, its value behind a name.
  Words for memory: a slice of a row of one's own is one's own.
  Words for memory: append(s, make([]T, k)...), T of one cell.
  A region that draws its order, walked once in the order of the text: a general theorem (no program in sight).
  Every operation is of a class: free (its value hangs on its operands alone), plain (free where its operands are no aggregates, interface values or non-nil pointers), reading, or acting.
  Two operations that no edge orders must be apart, and one of them free, or both reading.
-/
import Derived.Below
import Derived.Laws.OwnMore
import Derived.Laws.MakeOwn
import Derived.Laws.BytesString
import Derived.Laws.CopyOwn
import Derived.Laws.Strings
import Derived.Laws.Concat
import Derived.Laws.Strings2
import Derived.Deep.AppendLies
import Derived.Deep.Draws
import Derived.Laws.Rows
import Derived.Maps.AppendAt
import Derived.RegionTactic
import Derived.OwnWalk
import Derived.Lib.Hide
import Derived.Lib.SlBytesConst
import Derived.WalkKit
import Derived.ProofKit
import Derived.OpenShut
import Derived.ShutString
import Derived.ChangeOld
import Derived.Deep.AppendSrc
import Derived.Deep.Upon
import Derived.Laws.Tables
import Derived.Laws.ResultCell
import Derived.Stop.BytesEq
import Derived.ChangeBears
import Derived.Test.YtdbngnlpafcogaaGreatRows
import Derived.SizedLaws
import Derived.Orders
import Derived.Still
import Derived.Tactics2
import Derived.Laws.Sem
set_option maxRecDepth 100000
namespace Go.Mem
open Go.RowKit
theorem _root_.hjd{p:Prop}(h:p):Go.RowKit.Hid p:=h
/-! ### Strings -/
def mkS(l:List UInt8):ByteArray:=⟨l.toArray⟩
theorem d6g:mkS []=ByteArray.empty:=rfl
def a1z(b:UInt8):Value:=.int .u8 b.toNat
abbrev bv(l:List UInt8):List Value:=l.map a1z
theorem a2x(l:List UInt8):∀u∈bv l,u.oneCell'=true:=by
 intro u hu;obtain⟨b,_,rfl⟩:=List.mem_map.1 hu;rfl
/-! ### What is kept -/
structure Kept (S:List Nat) (w w':World):Prop where
 os:w'.os=w.os
 tape:w'.tape=w.tape
 output:w'.output=w.output
 size:w.heap.size≤w'.heap.size
 block:∀k,k < w.heap.size→k∉S→w'.heap[k]?=w.heap[k]?
section
variable {S S1 S2:List Nat} {w w' w1 w2:World}
theorem Kept.refl(S:List Nat)(w:World):Kept S w w:=⟨rfl,rfl,rfl,Nat.le_refl _,fun _ _ _=>rfl⟩
theorem Kept.trans(h1:Kept S1 w w1)(h2:Kept S2 w1 w2)(hs1:∀k,k < w.heap.size→k∈S1→k∈S)(hs2:∀k,k < w.heap.size→k∈S2→k∈S):Kept S w w2:=
 ⟨h2.os.trans h1.os,h2.tape.trans h1.tape,h2.output.trans h1.output,Nat.le_trans h1.size h2.size,fun k hk hn=>
  (h2.block k (Nat.lt_of_lt_of_le hk h1.size) (fun h=>hn (hs2 k hk h))).trans (h1.block k hk (fun h=>hn (hs1 k hk h)))⟩
theorem Kept.trans'(h1:Kept S w w1)(h2:Kept S w1 w2):Kept S w w2:=h1.trans h2 (fun _ _ h=>h) (fun _ _ h=>h)
theorem Kept.a0g(h1:Kept S w w1)(h2:Kept [] w1 w2):Kept S w w2:=h1.trans h2 (fun _ _ h=>h) (fun _ _ h=>absurd h (by simp))
theorem Kept.of0(h1:Kept [] w w1):Kept S w w1:=(Kept.refl S w).a0g h1
theorem Kept.more(h:Kept S w w')(hs:∀k,k < w.heap.size→k∈S→k∈S1):Kept S1 w w':=⟨h.os,h.tape,h.output,h.size,fun k hk hn=>h.block k hk (fun hh=>hn (hs k hk hh))⟩
theorem Kept.drew(h:Kept S w w'):Kept S w w'.drew:=⟨h.os,h.tape,h.output,h.size,h.block⟩
theorem Kept.drewN(h:Kept S w w')(n:Nat):Kept S w (w'.drewN n):=⟨h.os,h.tape,h.output,h.size,h.block⟩
theorem Kept.a1r(h:Kept S w.drew w'):Kept S w w':=⟨h.os,h.tape,h.output,h.size,h.block⟩
theorem Kept.alloc(h:Kept S w w')(o:Obj):Kept S w (w'.alloc o):=
 ⟨h.os,h.tape,h.output,by have:=h.size;simp;omega,fun k hk hn=>(Below.heap_alloc w' o k (Nat.lt_of_lt_of_le hk h.size)).trans (h.block k hk hn)⟩
theorem Kept.setCell(h:Kept S w w'){p:Addr}(hp:p.block∈S∨w.heap.size≤p.block)(u:Value):Kept S w (w'.setCell p u):=
 ⟨h.os,h.tape,h.output,by simpa using h.size,fun k hk hn=>(Below.heap_setCell w' p u k (fun e=>by subst e;rcases hp with hp | hp;exact hn hp;omega)).trans (h.block k hk hn)⟩
theorem Kept.setRow(h:Kept S w w'){g:Nat}(hp:g∈S∨w.heap.size≤g)(cs:Array Value):Kept S w (w'.setRow g cs):=
 ⟨h.os,h.tape,h.output,by simpa using h.size,fun k hk hn=>(setRow_other w' g k _ (fun e=>by subst e;rcases hp with hp | hp;exact hn hp;omega)).trans (h.block k hk hn)⟩
theorem Kept.grown{row:Option Nat}(hg:w.grownBy w' row):Kept row.toList w w':=
 ⟨hg.os,hg.tape,hg.output,hg.size,fun k hk hn=>hg.block k hk (fun e=>hn (by rw [←e];simp))⟩
theorem Kept.below(h:Kept [] w w'):Below w.heap.size w w':=⟨h.os,h.tape,h.output,h.size,fun k hk=>h.block k hk (by simp)⟩
theorem Kept.fresh{w0:World}(h0:Kept [] w0 w)(h:Kept S w w')(hs:∀k,k∈S→w0.heap.size≤k):Kept [] w0 w':=
 h0.trans h (fun _ _ h=>h) (fun k hk h=>by have:=hs k h;omega)
theorem Kept.lt(h:Kept S w w'){k:Nat}(hk:k < w.heap.size):k < w'.heap.size:=Nat.lt_of_lt_of_le hk h.size
theorem Kept.cell(h:Kept S w w'){b o:Nat}{v:Value}(hc:w.cell? ⟨b,o,none⟩=some v)(hb:b∉S):w'.cell? ⟨b,o,none⟩=some v:=
 (World.cell?_of_block (a:=⟨b,o,none⟩) (h.block b (World.block_lt_of_cell? w _ hc) hb)).trans hc
theorem Kept.frozen(h:Kept S w w'){b o:Nat}(hlt:b < w.heap.size)(hb:b∉S):w'.frozen? ⟨b,o,none⟩=w.frozen? ⟨b,o,none⟩:=
 World.frozen?_of_block (a:=⟨b,o,none⟩) (h.block b hlt hb)
end
/-! ### A block known whole -/
def Blk(w:World)(g:Nat)(t:TypeId)(cs:Array Value):Prop:=w.heap[g]?=some (.cells cs t (0,0))
section
variable {S:List Nat} {w w':World} {g:Nat} {t:TypeId} {cs:Array Value}
theorem Blk.lt(h:Blk w g t cs):g < w.heap.size:=by
 rcases Nat.lt_or_ge g w.heap.size with hlt | hge
 ·exact hlt
 ·unfold Blk at h;rw [Array.getElem?_eq_none hge]at h;cases h
theorem Blk.cell(h:Blk w g t cs)(i:Nat):w.cell? ⟨g,i,none⟩=cs[i]?:=cell_of_row w g i cs t (0,0) h
theorem Blk.frozen(h:Blk w g t cs)(i:Nat):w.frozen? ⟨g,i,none⟩=false:=by
 unfold Blk at h;simp [World.frozen?,h]
theorem Blk.new(w:World)(t:TypeId)(cs:Array Value):Blk (w.alloc (.cells cs t)) w.heap.size t cs:=heap_alloc_new w _
theorem Blk.drew(h:Blk w g t cs):Blk w.drew g t cs:=h
theorem Blk.drewN(h:Blk w g t cs)(n:Nat):Blk (w.drewN n) g t cs:=h
theorem Blk.alloc(h:Blk w g t cs)(o:Obj):Blk (w.alloc o) g t cs:=(Below.heap_alloc w o g h.lt).trans h
theorem Blk.b3i(h:Blk w g t cs)(i:Nat)(u:Value):Blk (w.setCell ⟨g,i,none⟩ u) g t (cs.setIfInBounds i u):=by
 unfold Blk at h ⊢;simp [World.setCell,Array.getElem?_modify,h]
theorem Blk.far(h:Blk w g t cs){p:Addr}(hp:g≠p.block)(u:Value):Blk (w.setCell p u) g t cs:=(Below.heap_setCell w p u g hp).trans h
theorem Blk.kept(h:Blk w g t cs)(hk:Kept S w w')(hg:g∉S):Blk w' g t cs:=(hk.block g h.lt hg).trans h
theorem Blk.a5i(h:Blk w g t cs)(cs':Array Value):Blk (w.setRow g cs') g t cs':=by unfold Blk;exact setRow_heap w g cs cs' t (0,0) h
theorem Blk.ne_{g':Nat}{t':TypeId}{cs':Array Value}(h:Blk w g t cs)(h':Blk w g' t' cs')(hne:t≠t'):g≠g':=by
 rintro rfl;unfold Blk at h h';rw [h]at h';injection h' with h'
 injection h' with _ ht
 exact hne ht
end
/-! ### A slice that reads as a list of cells -/
def Rd(w:World)(s:Nat)(v:Value)(n:Nat)(xs:List Value):Prop:=
 ∃A c,v= .slice A n c∧xs.length=n * s∧n≤c∧(0 < n→∃b o,A=some ⟨b,o,none⟩∧∀j u,xs[j]?=some u→w.cell? ⟨b,o + j,none⟩=some u)
theorem a2w(b o n:Nat):(⟨b,o,none⟩:Addr).add n=⟨b,o + n,none⟩:=by
 unfold Addr.add;split
 ·simp_all
 ·rfl
section
variable {S:List Nat} {w w':World} {s n:Nat} {v:Value} {xs:List Value}
theorem Rd.nil(w:World)(s:Nat):Rd w s (.slice none 0 0) 0 []:=⟨none,0,rfl,by simp,Nat.le_refl _,fun h=>absurd h (by omega)⟩
theorem Rd.len(h:Rd w s v n xs):xs.length=n * s:=by obtain⟨_,_,_,h,_⟩:=h;exact h
theorem Rd.d1h(h:Rd w s v n xs)(hk:∀b o u,v.ownBlock=some b→w.cell? ⟨b,o,none⟩=some u→w'.cell? ⟨b,o,none⟩=some u):Rd w' s v n xs:=by
 obtain⟨A,c,rfl,hl,hc,hx⟩:=h;refine⟨A,c,rfl,hl,hc,fun hn=>?_⟩;obtain⟨b,o,rfl,hcell⟩:=hx hn;exact⟨b,o,rfl,fun j u hu=>hk b _ u rfl (hcell j u hu)⟩
theorem Rd.kept(h:Rd w s v n xs)(hk:Kept S w w')(hS:0 < n→∀k,v.ownBlock=some k→k∉S):Rd w' s v n xs:=by
 obtain⟨A,c,rfl,hl,hc,hx⟩:=h;refine⟨A,c,rfl,hl,hc,fun hn=>?_⟩;obtain⟨b,o,rfl,hcell⟩:=hx hn;exact⟨b,o,rfl,fun j u hu=>hk.cell (hcell j u hu) (hS hn _ rfl)⟩
theorem Rd.a0k(h:Rd w s v n xs)(hk:Kept [] w w'):Rd w' s v n xs:=h.kept hk (by simp)
theorem Rd.drew(h:Rd w s v n xs):Rd w.drew s v n xs:=h
theorem Rd.drewN(h:Rd w s v n xs)(k:Nat):Rd (w.drewN k) s v n xs:=h
theorem Rd.alloc(h:Rd w s v n xs)(o:Obj):Rd (w.alloc o) s v n xs:=h.a0k ((Kept.refl [] w).alloc o)
theorem Rd.lt(h:Rd w s v n xs)(hs:0 < s)(hn:0 < n):∃b,v.ownBlock=some b∧b < w.heap.size:=by
 obtain⟨A,c,rfl,hl,_,hx⟩:=h;obtain⟨b,o,rfl,hcell⟩:=hx hn;have h0:0 < xs.length:=by rw [hl];exact Nat.mul_pos hn hs
 exact⟨b,rfl,World.block_lt_of_cell? w _ (hcell 0 xs[0] (by simp [h0]))⟩
theorem Rd.old(h:Rd w s v n xs)(hs:0 < s)(hS:∀k∈S,w.heap.size≤k):0 < n→∀k,v.ownBlock=some k→k∉S:=by
 intro hn k hk hm;obtain⟨b,hb,hlt⟩:=h.lt hs hn;rw [hk]at hb
 cases hb
 have:=hS k hm;omega
theorem Rd.at_(h:Rd w s v n xs)(hn:0 < n):∃b o c,v= .slice (some ⟨b,o,none⟩) n c∧n≤c∧∀j u,xs[j]?=some u→w.cell? ⟨b,o + j,none⟩=some u:=by
 obtain⟨A,c,rfl,hl,hc,hx⟩:=h;obtain⟨b,o,rfl,hcell⟩:=hx hn;exact⟨b,o,c,rfl,hc,hcell⟩
theorem Rd.c8t{base:Nat}{e:TypeId}(h:w.ownsRow base e s v n xs):Rd w s v n xs:=by
 obtain⟨h1,h2⟩:=h;rcases h2 with⟨rfl,rfl⟩ | ⟨g,cap,cur,rfl,_,hg,hnc,_,hcs,htake⟩
 ·exact⟨none,0,rfl,h1,Nat.le_refl _,fun h=>absurd h (by omega)⟩
 ·refine⟨some ⟨g,0,none⟩,cap,rfl,h1,hnc,fun _=>⟨g,0,rfl,fun j u hu=>?_⟩⟩;rw [cell_of_row w g (0 + j) cur e (0,0) hg,Nat.zero_add];rw [←htake,List.getElem?_take]at hu;split at hu
  ·simpa using hu
  ·cases hu
theorem Rd.cut{A:Option Addr}{c:Nat}(h:Rd w s (.slice A n c) n xs){lo hi m:Nat}(hlo:lo≤hi)(hhi:hi≤n)(hm:hi≤m) :
 Rd w s (.slice (if m=lo then A else A.map (·.add (lo * s))) (hi - lo) (m - lo)) (hi - lo) ((xs.drop (lo * s)).take ((hi - lo) * s)):=by
 obtain⟨A',c',hv,hl,_,hx⟩:=h
 cases hv
 have hle:lo * s + (hi - lo) * s≤n * s:=by rw [←Nat.add_mul];exact Nat.mul_le_mul_right _ (by omega)
 refine⟨_,_,rfl,by rw [List.length_take,List.length_drop,hl];omega,by omega,fun hn=>?_⟩;obtain⟨b,o,rfl,hcell⟩:=hx (by omega);rw [if_neg (by omega)];refine⟨b,o + lo * s,by simp [a2w],fun j u hu=>?_⟩;rw [Nat.add_assoc];refine hcell _ u ?_;rw [List.getElem?_take]at hu;split at hu
 ·rw [←hu,List.getElem?_drop]
 ·cases hu
end
/-! ### New rows,marked or not -/
abbrev Own(w:World)(e:TypeId)(s:Nat)(v:Value)(n:Nat)(xs:List Value):Prop:=w.ownsRow 0 e s v n xs
theorem a8m(w:World)(o:Obj){n:Nat}(hn:n=w.heap.size):(w.alloc o).heap[n]?=some o:=by subst hn;exact heap_alloc_new w o
theorem Rd.c6x{w:World}{cs:Array Value}{e:TypeId}{fr:Nat × Nat}{g n c s:Nat}{xs:List Value}(hg:g=w.heap.size)(hx:cs.toList=xs)(hl:xs.length=n * s)(hc:n≤c) :
 Rd (w.alloc (.cells cs e fr)) s (.slice (some ⟨g,0,none⟩) n c) n xs:=by
 refine⟨_,_,rfl,hl,hc,fun _=>⟨g,0,rfl,fun j u hu=>?_⟩⟩;rw [cell_of_row _ g (0 + j) cs e fr (a8m w _ hg),Nat.zero_add,←hu,←hx];simp
theorem b4a{w:World}{cs:Array Value}{e:TypeId}{g n s:Nat}{xs:List Value}(hg:g=w.heap.size)(hx:cs.toList=xs)(hl:xs.length=n * s)(hm:n≤9223372036854775807) :
 Own (w.alloc (.cells cs e)) e s (.slice (some ⟨g,0,none⟩) n n) n xs:=by
 refine⟨hl,.inr ⟨g,n,cs,rfl,Nat.zero_le _,a8m w _ hg,Nat.le_refl _,by simp only [maxLen];exact hm,?_,?_⟩⟩
 ·rw [←hl,←hx];simp
 ·rw [hx,←hl];exact List.take_length
@[go_sem] theorem cell?_alloc_marked_at (w:World) (c:Array Value) (t:TypeId) (fr:Nat × Nat) (n i:Nat) (hn:n=w.heap.size):(w.alloc (.cells c t fr)).cell? ⟨n,i,none⟩=c[i]?:=
 cell_of_row _ n i c t fr (a8m w _ hn)
theorem d7v{P:Program}{t e:TypeId}(ht:P.underlying t=some (.slice e))(he:P.underlying e=some (.int .u8))(w:World)(C:Array Value)(m n c:Nat)(hm:m=w.heap.size) :
 (convert t t (.slice (some ⟨m,0,none⟩) n c)).run P (w.alloc (.cells C e))= .ok (.slice (some ⟨m,0,none⟩) n c) (w.alloc (.cells C e (C.size,C.size + 1))):=by
 subst hm;exact Lib.run_convert_bytes_const w t e C n c ht he
/-! ### Laws of operations -/
structure SliceT (P:Program) (t e:TypeId) (size bytes:Nat) (z:Value):Prop where
 under:P.underlying t=some (.slice e)
 info:(P.info? e).map (fun i=>(i.zero,i.size,i.bytes))=some (some z,size,bytes)
 zs:z.cells.size=size
 pos:0 < size
theorem SliceT.get{P:Program}{t e:TypeId}{size bytes:Nat}{z:Value}(T:SliceT P t e size bytes z):∃i,P.info? e=some i∧i.zero=some z∧i.size=size∧i.bytes=bytes:=by
 have h:=T.info
 cases hi:P.info? e with
 | none=>simp [hi]at h
 | some i=>
   simp only [hi,Option.map_some,Option.some.injEq,Prod.mk.injEq]at h;exact⟨i,rfl,h.1,h.2.1,h.2.2⟩
theorem e5p{v:Value}{b:Nat}(h:b∈v.ownBlock.toList):v.ownBlock=some b:=by
 cases hv:v.ownBlock with
 | none=>rw [hv]at h;simp at h
 | some g=>rw [hv]at h;simp at h;rw [h]
def d4e(vb:Option Nat)(H:Nat)(v:Value):Prop:=v.ownBlock=vb∨∃g,v.ownBlock=some g∧H≤g
theorem d4e.refl(H:Nat)(v:Value):d4e v.ownBlock H v:=.inl rfl
theorem d4e.step{vb:Option Nat}{H H':Nat}{v v':Value}(h:d4e vb H v)(h2:v'.ownBlock=v.ownBlock∨v'.ownBlock=some H')(hH:H≤H'):d4e vb H v':=by
 rcases h2 with h2 | h2
 ·rcases h with h | ⟨g,h,hg⟩
  ·exact .inl (h2.trans h)
  ·exact .inr ⟨g,h2.trans h,hg⟩
 ·exact .inr ⟨H',h2,hH⟩
theorem d4e.trans{vb:Option Nat}{H H':Nat}{v v':Value}(h:d4e vb H v)(h2:d4e v.ownBlock H' v')(hH:H≤H'):d4e vb H v':=by
 rcases h2 with h2 | ⟨g,h2,hg⟩
 ·exact h.step (.inl h2) (Nat.le_refl H)
 ·exact .inr ⟨g,h2,by omega⟩
section
variable {P:Program} {w:World} {ops:Array Oper} {rest:List Oper} {o:Oper} {a:Act} {Q:Exit→Act→World→Prop}
theorem run_app{t e:TypeId}{size bytes:Nat}{z:Value}(T:SliceT P t e size bytes z)(ty:TypeId){v:Value}{n:Nat}{xs:List Value}(hown:Own w e size v n xs)
 {x:Value} {m:Nat} {news:List Value} (hr:Rd w size x m news) (h1:∀u∈news,u.oneCell'=true) (hbytes:(n + m) * bytes≤140737488355328) (h63:n + m≤9223372036854775807) :
 ∃v' w',(Builtin.append_ #[t,t] ty #[v,x]).run P w= .ok v' w'∧Own w' e size v' (n + m) (xs ++ news)∧Kept v.ownBlock.toList w w'∧(v'.ownBlock=v.ownBlock∨v'.ownBlock=some w.heap.size):=by
 obtain⟨i,hi,hz,hsz,hby⟩:=T.get;obtain⟨A,c,rfl,hl,_,hx⟩:=hr;by_cases hm:m=0
 ·subst hm;have hn:news= []:=List.eq_nil_of_length_eq_zero (by simpa using hl);subst hn;refine⟨v,w,?_,by simpa using hown,Kept.refl _ _,.inl rfl⟩;rcases hown.2 with⟨rfl,rfl⟩ | ⟨g,cap,cur,rfl,_,_,hnc,_⟩
  ·cases A <;> simp [Builtin.append_,run_underlying T.under,sizeOf,typeInfo,hi,Builtin.lenOf,Builtin.firstCells,loadCells,loadCellsFrom]
  ·cases A <;> simp [Builtin.append_,run_underlying T.under,sizeOf,typeInfo,hi,Builtin.lenOf,Builtin.firstCells,hnc,storeCells,loadCells,loadCellsFrom]
 ·obtain⟨b,o,rfl,hcell⟩:=hx (by omega);obtain⟨v',w',hrun,h2,h3,_,h5⟩:=run_append_own_at (P:=P) w 0 t ty e i z size bytes T.under hi hz hsz hby T.zs T.pos v n xs hown ⟨b,o,none⟩ m c news hl
   (fun j u hu=>by rw [a2w];exact hcell j u hu) h1 (by simp only [maxLen];exact h63) hbytes (Nat.zero_le _)
  exact⟨v',w',hrun,h2,Kept.grown h3,h5⟩
theorem c3h{t e:TypeId}(h:P.underlying t=some (.slice e))(A:Option Addr)(n c n' c':Nat)(w:World):(binOp .eql t (.slice A n c) (.slice none n' c')).run P w= .ok (.bool A.isNone) w:=by
 have key:∀d,(Op.equalIn (d + 1) t (.slice A n c) (.slice none n' c')).run P w= .ok A.isNone w:=fun d=>by
  cases A <;> simp [Op.equalIn,run_underlying h]
 simp only [binOp,Op.equal,Op.maxDepth,Sem.run_bind];rw [key 9999];rfl
theorem d4i{s d e:TypeId}(hs:P.underlying s=some (.slice e))(he:P.underlying e=some (.int .u8))(hd:P.underlying d=some .string){v:Value}{bs:List UInt8}(hr:Rd w 1 v bs.length (bv bs)) :
 (convert s d v).run P w= .ok (.string (mkS bs)) w:=by
 obtain⟨A,c,rfl,hl,_,hx⟩:=hr;rw [run_convert_bytes_string w s d e A _ c hs he hd];have key:∀(l:List UInt8) (acc:ByteArray),(l.map (fun b:UInt8=>(b.toNat:Int))).foldl (fun r n=>r.push (UInt8.ofNat n.toNat)) acc=acc ++ mkS l:=by
  intro l
  induction l with
  | nil=>intro acc;show acc=acc ++ mkS [];rw [d6g];simp
  | cons b l ih=>
    intro acc;simp only [List.map_cons,List.foldl_cons,Int.toNat_natCast,UInt8.ofNat_toNat];rw [ih];apply ByteArray.ext;simp [mkS,ByteArray.push,ByteArray.data_append]
 rcases Nat.eq_zero_or_pos bs.length with h0 | h0
 ·have:bs= []:=List.eq_nil_of_length_eq_zero h0;subst this
  cases A <;> simp [Conv.bytesToString,d6g,loadCells,loadCellsFrom]
 ·obtain⟨b,o,rfl,hcell⟩:=hx h0;have hload:(loadCells ⟨b,o,none⟩ bs.length).run P w= .ok ((bs.map (fun b:UInt8=>(b.toNat:Int))).map (Value.int .u8)).toArray w:=by
   have:=run_firstCells_some (P:=P) w 1 bs.length ⟨b,o,none⟩ bs.length c (bv bs) (by simp) (fun j u hu=>by rw [a2w];exact hcell j u hu);simp only [Builtin.firstCells,Nat.mul_one]at this;rw [this];simp [bv,a1z,Function.comp_def]
  rw [run_bytesToString w ⟨b,o,none⟩ _ c _ hload,key];simp
theorem b3f{s d e:TypeId}(hs:P.underlying s=some (.slice e))(he:P.underlying e=some (.int .u8))(hd:P.underlying d=some .string)(hgd:Region.wanted o (yielded ops a.tmps)=true)(x:Operand)(ho:o.op= .convert s d x)
 {v:Value} (hx:a.eval x=v) {bs:List UInt8} (hr:Rd w 1 v bs.length (bv bs)) (h:wpList P ops Q rest (a.put o.dst (.string (mkS bs))) w):wpList P ops Q (o :: rest) a w:=by
 refine wpList_step fun K hK=>?_
 rw [if_pos hgd];unfold Oper.wp execOp;simp only [ho,hx,Sem.run_bind,d4i hs he hd hr,Result.andThen_ok,Sem.run_pure];exact hK _ _ h
end
end Go.Mem
namespace Go.Mem
open Go.ChangeShapes Go.WideShapes Go.ChangeAt Go.RowKit
section
variable {H:Type} {enc:TypeId × Value→H} {P:Program} {w:World} {base:Nat} {spare:Nat→Bool} {held:Bool}
theorem wf_u8{z:Int}(h:(Lit.int .u8 z).wf=true):0≤z∧z≤255:=by
 simp [Lit.wf,IntKind.min,IntKind.max,IntKind.signed,IntKind.bits]at h;omega
theorem c7l{z:Int}(h:0≤z∧z≤255):a1z (UInt8.ofNat z.toNat)= .int .u8 z:=by
 unfold a1z;have:(UInt8.ofNat z.toNat).toNat=z.toNat:=by
  rw [UInt8.toNat_ofNat'];omega
 rw [this];congr 1;omega
theorem b7z{t e:TypeId}(ht:P.underlying t=some (.slice e))(he:P.underlying e=some (.int .u8))(hc:P.cellsOf e=1){v:Value}{d:DataW H}{p:List MemPlace}
 (h:∃fuel,DataW.trod enc P w base spare held fuel t v.cells.toList=some (d,p)) (hv:∃A n c,v= .slice A n c) :
 ∃bs:List UInt8,Rd w 1 v bs.length (bv bs)∧(bs= []∧d= .nil∨∃el sp,d= .slice el sp∧el.length=bs.length)∧bs.length≤9223372036854775807:=by
 obtain⟨A,n,c,rfl⟩:=hv;obtain⟨fuel,hf⟩:=h;rcases open_ints ht he hc hf with⟨hcs,hx⟩ | ⟨x,l,cp,zs,hcs,_,hl,hm,hz,hx,hcell,hwz⟩
 ·simp [Value.cells]at hcs;obtain⟨rfl,rfl,rfl⟩:=hcs;exact⟨[],Rd.nil _ _,.inl ⟨rfl,by injection hx⟩,by simp⟩
 ·simp [Value.cells]at hcs;obtain⟨rfl,rfl,rfl⟩:=hcs;have hlz:n≤zs.length:=by rw [hz];split <;> omega
  refine⟨(zs.take n).map (fun z=>UInt8.ofNat z.toNat),?_,.inr ⟨_,_,by injection hx,by simp [lits]⟩,?_⟩
  ·have hlen:((zs.take n).map (fun z=>UInt8.ofNat z.toNat)).length=n:=by simp;omega
   rw [hlen];refine⟨_,_,rfl,by simp;omega,hl,fun hn=>?_⟩;have h0:=hcell 0 (by omega);obtain⟨b,o,sp⟩:=x;have hsp:sp=none:=by
    cases sp with
    | none=>rfl
    | some k=>
      simp only [Addr.add,if_true]at h0;unfold World.cell? at h0;split at h0 <;> simp at h0
   subst hsp;refine⟨b,o,rfl,fun j u hu=>?_⟩;have hj:j < n:=by
    rcases Nat.lt_or_ge j n with h | h
    ·exact h
    ·rw [List.getElem?_eq_none (by simp;omega)]at hu;cases hu
   have hjz:j < zs.length:=by omega
   have hc2:=hcell j hjz;rw [a2w]at hc2;rw [hc2];have hw:=wf_u8 (hwz zs[j] (List.getElem_mem _));simp only [List.getElem?_map,List.getElem?_take,hj,if_true,List.getElem?_eq_getElem hjz,Option.map_some,Option.some.injEq]at hu;rw [←hu,c7l hw];simp [hjz]
  ·simp only [List.length_map,List.length_take];have:c≤9223372036854775807:=by simpa [maxLen]using hm
   omega
end
end Go.Mem
namespace Go.Mem
open Go.RowKit
section
variable {P:Program}
theorem run_mk{t e:TypeId}{bytes:Nat}{z:Value}(T:SliceT P t e 1 bytes z)(k:Nat)(hk:bytes * k≤281474976710656)(h63:k≤9223372036854775807)(w:World) :
 (Instr.makeSlice t (.int .i64 k) (.int .i64 k)).run P w= .ok (.slice (some ⟨w.heap.size,0,none⟩) k k) (w.alloc (.cells (madeCells z.cells k) e)):=by
 obtain⟨i,hi,hz,hsz,hby⟩:=T.get;have hb:(bytes:Int) * (k:Int)≤281474976710656:=by rw [←Int.natCast_mul];omega
 have h:=run_make (P:=P) w t e i z T.under hi hz .i64 .i64 (k:Int) (k:Int) (by omega) (Int.le_refl _) (by rw [hby];exact hb) (by omega);simpa [hsz]using h
theorem c1v(v:Value)(k:Nat):(madeCells #[v] k).toList=List.replicate k v:=by
 apply List.ext_getElem
 ·simp [madeCells]
 ·intro i h1 h2;have:i % 1=0:=by omega
  simp [madeCells,this]
theorem d6s(k:Nat):(madeCells #[.int .u8 0] k).toList=bv (List.replicate k 0):=by
 rw [c1v];simp [bv,a1z]
end
end Go.Mem
namespace Go.Mem
open Go.RowKit
def Ow(w:World)(e:TypeId)(s:Nat)(v:Value)(n:Nat)(xs:List Value):Prop:=
 xs.length=n * s∧((v= .slice none 0 0∧n=0)∨
  ∃g o cap cur,v= .slice (some ⟨g,o,none⟩) n cap∧Blk w g e cur∧n≤cap∧cap≤9223372036854775807∧o + cap * s≤cur.size∧(cur.toList.drop o).take (n * s)=xs)
section
variable {S:List Nat} {w w':World} {e:TypeId} {s n:Nat} {v:Value} {xs:List Value}
theorem Ow.nil(w:World)(e:TypeId)(s:Nat):Ow w e s (.slice none 0 0) 0 []:=⟨by simp,.inl ⟨rfl,rfl⟩⟩
theorem Ow.c8t(h:Own w e s v n xs):Ow w e s v n xs:=by
 refine⟨h.1,?_⟩;rcases h.2 with hn | ⟨g,cap,cur,rfl,_,hg,hnc,hcm,hcs,ht⟩
 ·exact .inl hn
 ·exact .inr ⟨g,0,cap,cur,rfl,hg,hnc,by simpa [maxLen]using hcm,by omega,by simpa using ht⟩
theorem Rd.a6w(h:Ow w e s v n xs):Rd w s v n xs:=by
 obtain⟨h1,h2⟩:=h;rcases h2 with⟨rfl,rfl⟩ | ⟨g,o,cap,cur,rfl,hg,hnc,_,hcs,ht⟩
 ·exact⟨none,0,rfl,h1,Nat.le_refl _,fun h=>absurd h (by omega)⟩
 ·refine⟨some ⟨g,o,none⟩,cap,rfl,h1,hnc,fun _=>⟨g,o,rfl,fun j u hu=>?_⟩⟩;rw [hg.cell];rw [←ht,List.getElem?_take]at hu;split at hu
  ·rw [List.getElem?_drop]at hu;simpa using hu
  ·cases hu
theorem Ow.kept(h:Ow w e s v n xs)(hk:Kept S w w')(hS:∀k,v.ownBlock=some k→k∉S):Ow w' e s v n xs:=by
 refine⟨h.1,?_⟩;rcases h.2 with hn | ⟨g,o,cap,cur,rfl,hg,rest⟩
 ·exact .inl hn
 ·exact .inr ⟨g,o,cap,cur,rfl,hg.kept hk (hS g rfl),rest⟩
theorem Ow.a0k(h:Ow w e s v n xs)(hk:Kept [] w w'):Ow w' e s v n xs:=h.kept hk (by simp)
theorem Ow.drew(h:Ow w e s v n xs):Ow w.drew e s v n xs:=h
theorem Ow.drewN(h:Ow w e s v n xs)(k:Nat):Ow (w.drewN k) e s v n xs:=h
theorem Ow.alloc(h:Ow w e s v n xs)(o:Obj):Ow (w.alloc o) e s v n xs:=h.a0k ((Kept.refl [] w).alloc o)
theorem Ow.setCell(h:Ow w e s v n xs){p:Addr}(hp:v.ownBlock≠some p.block)(u:Value):Ow (w.setCell p u) e s v n xs:=
 h.kept ((Kept.refl [p.block] w).setCell (.inl (by simp)) u) (fun k hk hm=>hp (by simp at hm;rw [hk,hm]))
theorem Ow.lt(h:Ow w e s v n xs){k:Nat}(hk:v.ownBlock=some k):k < w.heap.size:=by
 rcases h.2 with⟨rfl,_⟩ | ⟨g,o,cap,cur,rfl,hg,_⟩
 ·simp [Value.ownBlock]at hk
 ·simp [Value.ownBlock]at hk;subst hk;exact hg.lt
theorem Ow.a2r{g:Nat}{t:TypeId}{cs:Array Value}(h:Ow w e s v n xs)(hg:Blk w g t cs)(hne:e≠t):v.ownBlock≠some g:=by
 rcases h.2 with⟨rfl,_⟩ | ⟨g',o,cap,cur,rfl,hh,_⟩
 ·simp [Value.ownBlock]
 ·intro he;have:g'=g:=by simpa [Value.ownBlock]using he
  subst this;exact Blk.ne_ hh hg hne rfl
theorem Ow.ne_{e':TypeId}{s' n':Nat}{v':Value}{xs':List Value}(h:Ow w e s v n xs)(h':Ow w e' s' v' n' xs')(hne:e≠e'):∀k,v.ownBlock=some k→v'.ownBlock≠some k:=by
 intro k hk;rcases h.2 with⟨rfl,_⟩ | ⟨g,o,cap,cur,rfl,hg,_⟩
 ·simp [Value.ownBlock]at hk
 ·simp [Value.ownBlock]at hk;subst hk;exact h'.a2r hg (Ne.symm hne)
theorem Ow.shape(h:Ow w e s v n xs):∃A c,v= .slice A n c∧n≤c:=by
 obtain⟨A,c,hv,_,hc,_⟩:=Rd.a6w h;exact⟨A,c,hv,hc⟩
theorem Ow.at_(h:Ow w e s v n xs)(hn:0 < n):∃g o c,v= .slice (some ⟨g,o,none⟩) n c∧n≤c∧(∀j u,xs[j]?=some u→w.cell? ⟨g,o + j,none⟩=some u)∧(∀i,w.frozen? ⟨g,i,none⟩=false)∧
 (∀j u,j < xs.length→Ow (w.setCell ⟨g,o + j,none⟩ u) e s v n (xs.set j u)):=by
 obtain⟨b,o,c,hv,hc,hcell⟩:=(Rd.a6w h).at_ hn;refine⟨b,o,c,hv,hc,hcell,?_⟩;rcases h.2 with⟨rfl,rfl⟩ | ⟨g,o',cap,cur,hv',hg,hnc,hcm,hcs,ht⟩
 ·omega
 ·subst hv
  cases hv'
  refine⟨fun i=>hg.frozen i,fun j u hj=>⟨by rw [List.length_set];exact h.1,.inr ⟨b,o,c,_,rfl,hg.b3i (o + j) u,hnc,hcm,by simpa using hcs,?_⟩⟩⟩;rw [←ht];apply List.ext_getElem?;intro i;have hj':j < n * s:=by rw [←h.1];exact hj
  have hle:n * s≤c * s:=Nat.mul_le_mul_right _ hnc;simp only [Array.toList_setIfInBounds,List.getElem?_take,List.getElem?_drop,List.getElem?_set,List.length_take,List.length_drop,Array.length_toList];by_cases hi:i < n * s
  ·by_cases hij:j=i
   ·subst hij;simp only [hi,if_true];rw [if_pos (by omega),if_pos (by omega)]
   ·simp only [hi,if_true];rw [if_neg (by omega),if_neg hij]
  ·simp only [hi,if_false];rw [if_neg (by omega)]
theorem Ow.cut{A:Option Addr}{c:Nat}(h:Ow w e s (.slice A n c) n xs){lo hi m:Nat}(hlo:lo≤hi)(hhi:hi≤n)(hm:hi≤m)(hmc:m≤c) :
 Ow w e s (.slice (if m=lo then A else A.map (·.add (lo * s))) (hi - lo) (m - lo)) (hi - lo) ((xs.drop (lo * s)).take ((hi - lo) * s)):=by
 obtain⟨h1,h2⟩:=h;have hle:lo * s + (hi - lo) * s≤n * s:=by rw [←Nat.add_mul];exact Nat.mul_le_mul_right _ (by omega)
 refine⟨by rw [List.length_take,List.length_drop,h1];omega,?_⟩;rcases h2 with⟨hv,hn⟩ | ⟨g,o,cap,cur,hv,hg,hnc,hcm,hcs,ht⟩
 ·cases hv
  have:m=lo:=by omega
  rw [if_pos this];exact .inl ⟨by rw [show hi - lo=0 from by omega,show m - lo=0 from by omega],by omega⟩
 ·cases hv
  have key:∀x:Nat,x=0∨x=lo→(m=lo→hi - lo=0)→o + x * s + (m - lo) * s≤cur.size→(hi - lo≠0→x=lo)→(cur.toList.drop (o + x * s)).take ((hi - lo) * s)=(xs.drop (lo * s)).take ((hi - lo) * s):=by
   intro x _ _ _ hx;by_cases h0:hi - lo=0
   ·simp [h0]
   ·rw [hx h0,←ht,List.drop_take,List.drop_drop,List.take_take];congr 1;omega
  have hmul:(m - lo) * s + lo * s≤c * s:=by rw [←Nat.add_mul];exact Nat.mul_le_mul_right _ (by omega)
  by_cases hml:m=lo
  ·rw [if_pos hml];refine .inr ⟨g,o,m - lo,cur,rfl,hg,by omega,by omega,?_,?_⟩
   ·rw [hml];simp;omega
   ·have:=key 0 (.inl rfl) (by omega) (by rw [hml];simp;omega) (by omega);simpa using this
  ·rw [if_neg hml];refine .inr ⟨g,o + lo * s,m - lo,cur,by simp [a2w],hg,by omega,by omega,by omega,?_⟩;exact key lo (.inr rfl) (by omega) (by omega) (by simp)
end
section
variable {P:Program} {w:World} {ops:Array Oper} {rest:List Oper} {o:Oper} {a:Act} {Q:Exit→Act→World→Prop}
theorem Blk.setCells{g:Nat}{t:TypeId}:∀(vs:List Value) (o:Nat) (cs:Array Value) (w:World),Blk w g t cs→∃cs',Blk (w.setCells g o vs) g t cs'∧cs'.size=cs.size∧
 ∀i,cs'[i]?=if o≤i∧i < o + vs.length∧i < cs.size then vs[i - o]? else cs[i]?
 | [],o,cs,w,h=>⟨cs,h,rfl,fun i=>by rw [if_neg (by simp;omega)]⟩
 | v :: vs,o,cs,w,h=>by
   obtain⟨cs',h1,h2,h3⟩:=Blk.setCells vs (o + 1) _ _ (h.b3i o v);refine⟨cs',h1,by simpa using h2,fun i=>?_⟩;rw [h3 i];simp only [Array.size_setIfInBounds,List.length_cons];by_cases hi:i=o
   ·subst hi;rw [if_neg (by omega)];by_cases hs:i < cs.size
    ·rw [if_pos (by omega)];simp [hs]
    ·rw [if_neg (by omega)];simp [hs]
   ·by_cases hc:o + 1≤i∧i < o + 1 + vs.length∧i < cs.size
    ·rw [if_pos hc,if_pos (by omega)];rw [show i - o=(i - (o + 1)) + 1 from by omega,List.getElem?_cons_succ]
    ·rw [if_neg hc,if_neg (by omega)];rw [Array.getElem?_setIfInBounds_ne (by omega)]
theorem Kept.setCells{g:Nat}:∀(vs:List Value) (o:Nat) (w:World),Kept [g] w (w.setCells g o vs)
 | [],_,w=>Kept.refl _ w
 | v :: vs,o,w=>(((Kept.refl [g] w).setCell (p:=⟨g,o,none⟩) (.inl (by simp)) v)).trans' (Kept.setCells vs (o + 1) _ |>.more (by simp))
theorem b9l{t e:TypeId}{size bytes:Nat}{z:Value}(T:SliceT P t e size bytes z)(ty:TypeId){v:Value}{n:Nat}{xs:List Value}(hown:Ow w e size v n xs)
 {x:Value} {m:Nat} {news:List Value} (hr:Rd w size x m news) (h1:∀u∈news,u.oneCell'=true) (hbytes:(n + m) * bytes≤140737488355328) (h63:n + m≤9223372036854775807) :
 ∃v' w',(Builtin.append_ #[t,t] ty #[v,x]).run P w= .ok v' w'∧Ow w' e size v' (n + m) (xs ++ news)∧Kept v.ownBlock.toList w w'∧(v'.ownBlock=v.ownBlock∨v'.ownBlock=some w.heap.size):=by
 obtain⟨i,hi,hz,hsz,hby⟩:=T.get;obtain⟨A,c,rfl,hl,_,hx⟩:=hr;have hsrc:Src P size t (.slice A m c) m news w:=by
  by_cases hm:m=0
  ·subst hm;have hn:news= []:=List.eq_nil_of_length_eq_zero (by simpa using hl);subst hn
   cases A with
   | none=>exact Src.ofNil w T.under c
   | some ad=>exact Src.ofSlice w T.under ad 0 c [] (by simp) (by simp) (by simp)
  ·obtain⟨b,o,rfl,hcell⟩:=hx (by omega);exact Src.ofSlice w T.under ⟨b,o,none⟩ m c news hl (fun j u hu=>by rw [a2w];exact hcell j u hu) h1
 have hlen:(xs ++ news).length=(n + m) * size:=by rw [List.length_append,hown.1,hl,Nat.add_mul]
 have hgrow:∀(base:Option Addr) (cap:Nat),v= .slice base n cap→cap < n + m→(Builtin.firstCells i.size n (.slice base n cap)).run P w.drew= .ok xs.toArray w.drew→
  ∃v' w',(Builtin.append_ #[t,t] ty #[v,.slice A m c]).run P w= .ok v' w'∧Ow w' e size v' (n + m) (xs ++ news)∧Kept v.ownBlock.toList w w'∧(v'.ownBlock=v.ownBlock∨v'.ownBlock=some w.heap.size):=by
  intro base cap hv hcap hold;subst hv;have hrun:=run_append_grow_src (P:=P) w t t ty e i z T.under hi hz base n cap xs hold (.slice A m c) m news (by rw [hsz];exact hsrc) hcap (by omega) (by rw [hby];exact growslice_fits hcap hbytes);have hge:=grownCap_ge w (n + m) cap e;have hcm:grownCap w (n + m) cap e≤maxLen:=grownCap_le_maxLen w (n + m) cap e (by simp only [maxLen];exact h63);refine⟨_,_,hrun,⟨hlen,.inr ⟨w.heap.size,0,_,_,rfl,heap_alloc_new w.drew _,hge,by simpa [maxLen]using hcm,?_,?_⟩⟩,?_,.inr rfl⟩
  ·simp only [Array.size_append,List.size_toArray,size_zeroCells,T.zs,hlen,←Nat.add_mul];have:(n + m + (grownCap w (n + m) cap e - (n + m)))=grownCap w (n + m) cap e:=by omega
   rw [this];omega
  ·simp only [Array.toList_append,List.drop_zero];rw [←hlen];exact List.take_left
  ·exact(Kept.refl [] w).drew.alloc _ |> Kept.of0
 rcases hown.2 with⟨hv,h0⟩ | ⟨g,o',cap,cur,hv,hg,hnc,hcm,hcs,ht⟩
 ·subst h0;have hx0:xs= []:=List.eq_nil_of_length_eq_zero (by simpa using hown.1);by_cases hm:m=0
  ·subst hm;have hn:news= []:=List.eq_nil_of_length_eq_zero (by simpa using hl);subst hn;subst hv;refine⟨.slice none 0 0,w,?_,by simpa using hown,Kept.refl _ _,.inl rfl⟩
   cases A <;> simp [Builtin.append_,run_underlying T.under,sizeOf,typeInfo,hi,Builtin.lenOf,Builtin.firstCells,loadCells,loadCellsFrom]
  ·exact hgrow none 0 hv (by omega) (by rw [hx0];exact run_firstCells_none w.drew _ _ _ _)
 ·by_cases hroom:n + m≤cap
  ·subst hv;have hfit:(n + m) * size≤cap * size:=Nat.mul_le_mul_right _ hroom;rw [Nat.add_mul]at hfit;have hrun:=run_append_room_src (P:=P) w t t ty e i T.under hi g o' n cap (.slice A m c) m news (by rw [hsz];exact hsrc) hroom
    (fun j hj=>by rw [hg.cell,hsz];simp;omega) (fun j _=>hg.frozen _)
   obtain⟨cs',b1,b2,b3⟩:=Blk.setCells news (o' + n * i.size) cur w hg;refine⟨_,_,hrun,⟨hlen,.inr ⟨g,o',cap,cs',rfl,b1,hroom,hcm,by omega,?_⟩⟩,(Kept.setCells _ _ _).more (by simp [Value.ownBlock]),.inl rfl⟩;rw [hsz]at b3;apply List.ext_getElem?;intro j;have hxl:=hown.1;rw [List.getElem?_take,List.getElem?_append,List.getElem?_drop];have b4:cs'.toList[o' + j]?=cs'[o' + j]?:=by simp
   rw [b4,b3,Nat.add_mul];by_cases hj:j < n * size
   ·rw [if_pos (by omega),if_neg (by omega),if_pos (by omega),←ht,List.getElem?_take,if_pos hj,List.getElem?_drop];simp
   ·by_cases hj2:j < n * size + m * size
    ·rw [if_pos hj2,if_pos (by omega),if_neg (by omega)];congr 1;omega
    ·rw [if_neg hj2,if_neg (by omega),List.getElem?_eq_none (by omega)]
  ·refine hgrow _ cap hv (by omega) ?_;subst hv
   have:=run_firstCells_some (P:=P) w.drew i.size n ⟨g,o',none⟩ n cap xs (by rw [hsz];exact hown.1) (fun j u hu=>by
    rw [a2w]
    obtain⟨b2,o2,c2,hv2,_,hcell⟩:=(Rd.a6w hown).at_ (by
     rcases Nat.eq_zero_or_pos n with h | h
     ·subst h;have:=hown.1;simp at this;subst this;simp at hu
     ·exact h)
    cases hv2
    exact hcell j u hu)
   exact this
theorem a1q{t e:TypeId}{size bytes:Nat}{z:Value}(T:SliceT P t e size bytes z)(hgd:o.guard=none)(s x:Operand)
 (ho:o.op= .call {callee:=.builtin .append,args:=#[s,x],argTypes:=#[t,t]}) {v:Value} (hs:a.eval s=v) {n:Nat} {xs:List Value} (hown:Ow w e size v n xs)
 {xv:Value} (hx:a.eval x=xv) {m:Nat} {news:List Value} (hr:Rd w size xv m news) (h1:∀u∈news,u.oneCell'=true) (hbytes:(n + m) * bytes≤140737488355328) (h63:n + m≤9223372036854775807)
 (h:∀v' w',Ow w' e size v' (n + m) (xs ++ news)→Kept v.ownBlock.toList w w'→(v'.ownBlock=v.ownBlock∨v'.ownBlock=some w.heap.size)→wpList P ops Q rest (a.put o.dst v') w'):wpList P ops Q (o :: rest) a w:=by
 refine wpList_plain hgd fun K hK=>?_
 obtain⟨v',w',hrun,h2,h3,h4⟩:=b9l T o.type hown hr h1 hbytes h63;unfold Oper.wp execOp;simp only [ho,resolve,invoke,builtin,Sem.run_bind,Sem.run_pure,Result.andThen_ok,List.map_toArray,List.map_cons,List.map_nil,hs,hx,hrun];exact hK _ _ (h v' w' h2 h3 h4)
end
end Go.Mem
namespace Go.Mem
open Go.RowKit
structure ArrT (P:Program) (t e:TypeId) (n:Nat):Prop where
 under:P.underlying t=some (.array n e)
 size:(P.info? t).map (·.size)=some n
section
variable {P:Program} {w:World} {ops:Array Oper} {rest:List Oper} {o:Oper} {a:Act} {Q:Exit→Act→World→Prop} {t e:TypeId} {n:Nat}
theorem a1u(hw:Region.wanted o (yielded ops a.tmps)=true)(h:∀K:Act→World→Prop,(∀a w,wpList P ops Q rest a w→K a w)→o.wp P a w K Q):wpList P ops Q (o :: rest) a w:=
 wpList_step fun K hK=>by rw [if_pos hw];exact h K hK
theorem a0t(T:ArrT P t e n)(hgd:Region.wanted o (yielded ops a.tmps)=true)(x:Operand)(ho:o.op= .load t x){g:Nat}(hx:a.eval x= .pointer (some ⟨g,0,none⟩)){bt:TypeId}{cs:Array Value}
 (hb:Blk w g bt cs) (hn:cs.size=n) (h:wpList P ops Q rest (a.put o.dst (.agg cs)) w):wpList P ops Q (o :: rest) a w:=
 a1u hgd fun _ hK=>wp_load_row t x ho g hx bt cs (0,0) _ hb T.under rfl (by rw [T.size,hn]) (hK _ _ h)
theorem a1p(T:ArrT P t e n)(hgd:Region.wanted o (yielded ops a.tmps)=true)(x y:Operand)(ho:o.op= .store t x y){g:Nat}{cs old:Array Value}(hx:a.eval x= .pointer (some ⟨g,0,none⟩))(hy:a.eval y= .agg cs)
 {bt:TypeId} (hb:Blk w g bt old) (hold:old.size=n) (hn:cs.size=n) (h1:cs.all (·.oneCell')=true)
 (h:∀w',Blk w' g bt cs→Kept [g] w w'→wpList P ops Q rest (a.put o.dst undef) w'):wpList P ops Q (o :: rest) a w:=
 a1u hgd fun _ hK=>wp_store_row t x y ho g cs hx hy bt old hb (by rw [T.size,hn]) (by omega) h1 (hK _ _ (h _ (hb.a5i cs) ((Kept.refl [g] w).setRow (.inl (by simp)) cs)))
theorem a6l{fn:Func}{R:Ending→World→Prop}(T:ArrT P t e n){p:Tmp}(hres:fn.results= #[.cell p t]){g:Nat}(hp:a.tmps.getD p undef= .pointer (some ⟨g,0,none⟩)){bt:TypeId}{cs:Array Value}
 (hb:Blk w g bt cs) (hn:cs.size=n) (hd:a.defers= []) (h:R (.returned (.agg cs)) w):bodyPost P fn R .ret a w:=
 bodyPost_ret (results_cell_row hres a.tmps w g bt cs (0,0) _ hp hb T.under rfl (by rw [T.size,hn])) hd h
structure Made (w w':World) (g:Nat) (t:TypeId) (cs:Array Value):Prop where
 blk:Blk w' g t cs
 kept:Kept [] w w'
 le:w.heap.size≤g
theorem Made.ne{w w':World}{g k:Nat}{t:TypeId}{cs:Array Value}(h:Made w w' g t cs)(hk:k < w.heap.size):k≠g:=by have:=h.le;omega
theorem a0h(hgd:o.guard=none)(ho:o.op= .alloc t){z:Value}(hz:(P.info? t).map (·.zero)=some (some z))
 (h:∀g w',Made w w' g t z.cells→wpList P ops Q rest (a.put o.dst (.pointer (some ⟨g,0,none⟩))) w'):wpList P ops Q (o :: rest) a w:=by
 refine wpList_plain hgd fun K hK=>?_
 cases hi:P.info? t with
 | none=>simp [hi]at hz
 | some i=>
   have hz':i.zero=some z:=by simpa [hi]using hz
   unfold Oper.wp execOp;simp [ho,Instr.alloc,zeroValue,typeInfo,hi,hz',newVar,newRow];exact hK _ _ (h _ _ ⟨Blk.new _ _ _,(Kept.refl [] w).alloc _,Nat.le_refl _⟩)
theorem a0q(hgd:o.guard=none)(x:Operand)(ho:o.op= .box t x){v:Value}(hx:a.eval x=v)
 (h:∀g w',Made w w' g t v.cells→wpList P ops Q rest (a.put o.dst (.pointer (some ⟨g,0,none⟩))) w'):wpList P ops Q (o :: rest) a w:=by
 refine wpList_plain hgd fun K hK=>?_
 unfold Oper.wp execOp;simp [ho,hx,Instr.box,newVar,newRow];exact hK _ _ (h _ _ ⟨Blk.new _ _ _,(Kept.refl [] w).alloc _,Nat.le_refl _⟩)
theorem Kept.a0r{S:List Nat}{w0 w w':World}{g:Nat}(h0:Kept S w0 w)(h:Kept [g] w w')(hg:w0.heap.size≤g):Kept S w0 w':=
 h0.trans h (fun _ _ h=>h) (fun k hk hm=>by simp at hm;omega)
theorem a3x(hgd:Region.wanted o (yielded ops a.tmps)=true)(i:Nat)(x:Operand)(ho:o.op= .build t #[(i,x)]){v:Value}(hx:a.eval x=v){cs:Array Value}(hb:P.built t [(i,v)]=some cs)(h:wpList P ops Q rest (a.put o.dst (.agg cs)) w):wpList P ops Q (o :: rest) a w:=by
 have e:(#[(i,x)].map fun(p:Nat × Operand)=>(p.1,a.eval p.2)).toList= [(i,v)]:=by simp [hx]
 refine a1u hgd fun _ hK=>wp_build t #[(i,x)] ho (by rw [e,hb];rfl) (hK _ _ ?_)
 rw [e,hb];exact h
theorem a0y(hgd:Region.wanted o (yielded ops a.tmps)=true)(ho:o.op= .build t #[]){cs:Array Value}(hb:P.built t []=some cs)(h:wpList P ops Q rest (a.put o.dst (.agg cs)) w):wpList P ops Q (o :: rest) a w:=by
 have e:((#[]:Array (Nat × Operand)).map fun(p:Nat × Operand)=>(p.1,a.eval p.2)).toList= []:=by simp
 refine a1u hgd fun _ hK=>wp_build t #[] ho (by rw [e,hb];rfl) (hK _ _ ?_)
 rw [e,hb];exact h
structure RowT (P:Program) (t:TypeId) (n:Nat):Prop where
 under:∃d,P.underlying t=some d∧(match d with | .struct _ | .array _ _=>true | _=>false)=true
 size:(P.info? t).map (·.size)=some n
theorem ArrT.row(T:ArrT P t e n):RowT P t n:=⟨⟨_,T.under,rfl⟩,T.size⟩
theorem a0d(T:RowT P t n)(hgd:Region.wanted o (yielded ops a.tmps)=true)(x:Operand)(ho:o.op= .load t x){g:Nat}(hx:a.eval x= .pointer (some ⟨g,0,none⟩)){bt:TypeId}{cs:Array Value}
 (hb:Blk w g bt cs) (hn:cs.size=n) (h:wpList P ops Q rest (a.put o.dst (.agg cs)) w):wpList P ops Q (o :: rest) a w:=by
 obtain⟨⟨d,hu,hd⟩,hs⟩:=T;exact a1u hgd fun _ hK=>wp_load_row t x ho g hx bt cs (0,0) _ hb hu (by cases d <;> simp_all) (by rw [hs,hn]) (hK _ _ h)
theorem a0a(T:RowT P t n)(hgd:Region.wanted o (yielded ops a.tmps)=true)(x y:Operand)(ho:o.op= .store t x y){g:Nat}{cs old:Array Value}(hx:a.eval x= .pointer (some ⟨g,0,none⟩))(hy:a.eval y= .agg cs)
 {bt:TypeId} (hb:Blk w g bt old) (hold:old.size=n) (hn:cs.size=n) (h1:cs.all (·.oneCell')=true)
 (h:∀w',Blk w' g bt cs→Kept [g] w w'→wpList P ops Q rest (a.put o.dst undef) w'):wpList P ops Q (o :: rest) a w:=
 a1u hgd fun _ hK=>wp_store_row t x y ho g cs hx hy bt old hb (by rw [T.size,hn]) (by omega) h1 (hK _ _ (h _ (hb.a5i cs) ((Kept.refl [g] w).setRow (.inl (by simp)) cs)))
theorem a1m{fn:Func}{R:Ending→World→Prop}(T:RowT P t n){p:Tmp}(hres:fn.results= #[.cell p t]){g:Nat}(hp:a.tmps.getD p undef= .pointer (some ⟨g,0,none⟩)){bt:TypeId}{cs:Array Value}
 (hb:Blk w g bt cs) (hn:cs.size=n) (hd:a.defers= []) (h:R (.returned (.agg cs)) w):bodyPost P fn R .ret a w:=by
 obtain⟨⟨d,hu,hd2⟩,hs⟩:=T;exact bodyPost_ret (results_cell_row hres a.tmps w g bt cs (0,0) _ hp hb hu (by cases d <;> simp_all) (by rw [hs,hn])) hd h
theorem a1j{fn:Func}{R:Ending→World→Prop}(T:RowT P t n){p u:Tmp}(hres:fn.results= #[.cell p t,.tmp u]){g:Nat}(hp:a.tmps.getD p undef= .pointer (some ⟨g,0,none⟩)){bt:TypeId}{cs:Array Value}
 (hb:Blk w g bt cs) (hn:cs.size=n) (hd:a.defers= []) (h:R (.returned (.tuple #[.agg cs,a.tmps.getD u undef])) w):bodyPost P fn R .ret a w:=by
 obtain⟨⟨d,hu,hd2⟩,hs⟩:=T;refine bodyPost_ret ?_ hd h;rw [results_cell_tmp hres,hp];simp only [asAddr,Sem.run_pure,Result.andThen_ok,run_loadVar_row (P:=P) w g bt t cs (0,0) d hb hu (by cases d <;> simp_all) (by rw [hs,hn])]
def a5y{α:Type}(cur:List α)(off:Nat)(xs:List α):List α:=cur.take off ++ (xs ++ cur.drop (off + xs.length))
theorem a8f{α:Type}(cur:List α)(off:Nat)(xs:List α)(h:off + xs.length≤cur.length):(a5y cur off xs).length=cur.length:=by
 unfold a5y;simp;omega
theorem c0d{α:Type}(cur xs:List α)(h:xs.length=cur.length):a5y cur 0 xs=xs:=by
 unfold a5y;simp [h]
theorem e5o{α:Type}(cur xs:List α):a5y cur 0 xs=xs ++ cur.drop xs.length:=by
 unfold a5y;simp
theorem b6n(cur xs:List UInt8)(off:Nat):a5y (bv cur) off (bv xs)=bv (a5y cur off xs):=by
 unfold a5y;simp [bv]
theorem c6h{α:Type}(cur xs:List α)(_:xs.length≤cur.length)(i:Nat):(a5y cur 0 xs)[i]?=if i < xs.length then xs[i]? else cur[i]?:=by
 rw [e5o,List.getElem?_append,List.getElem?_drop];split
 ·rfl
 ·congr 1;omega
theorem c3b{α:Type}(cur xs:List α)(k:Nat)(h:k < xs.length)(hl:xs.length≤cur.length):(a5y cur 0 (xs.take k)).set k xs[k]=a5y cur 0 (xs.take (k + 1)):=by
 apply List.ext_getElem?;intro i;rw [List.getElem?_set,c6h _ _ (by simp;omega),c6h _ _ (by simp;omega),a8f _ _ _ (by simp;omega)];simp only [List.length_take,List.getElem?_take];by_cases hi:k=i
 ·subst hi;rw [if_pos rfl,if_pos (by omega),if_pos (by omega),if_pos (by omega)];simp [h]
 ·rw [if_neg hi];by_cases h2:i < k
  ·simp [h2,show i < xs.length from by omega,show i < k + 1 from by omega];rw [if_pos (by omega),if_pos (by omega)]
  ·simp [h2,show ¬i < k + 1 from by omega];rw [if_neg (by omega),if_neg (by omega)]
theorem b7m{α:Type}(f:α→Value)(cur xs:List α)(k:Nat)(h:k < xs.length)(hl:xs.length≤cur.length):((a5y cur 0 (xs.take k)).map f).toArray.setIfInBounds k (f xs[k])=((a5y cur 0 (xs.take (k + 1))).map f).toArray:=by
 rw [←c3b cur xs k h hl];simp
theorem a9y(cur xs:List UInt8)(k:Nat)(h:k < xs.length)(hl:xs.length≤cur.length):(bv (a5y cur 0 (xs.take k))).toArray.setIfInBounds k (a1z xs[k])=(bv (a5y cur 0 (xs.take (k + 1)))).toArray:=by
 rw [←c3b cur xs k h hl];simp [bv]
theorem e4v{t t2 e:TypeId}{bytes:Nat}{z:Value}(T:SliceT P t e 1 bytes z)(ty:TypeId){g off n c:Nat}{bt:TypeId}{cur:Array Value}(hb:Blk w g bt cur)(hfit:off + n≤cur.size)
 {x:Value} {m:Nat} {xs:List Value} (hr:Rd w 1 x m xs) (h1:∀u∈xs,u.oneCell'=true) :
 ∃w',(Builtin.copy_ #[t,t2] ty #[.slice (some ⟨g,off,none⟩) n c,x]).run P w= .ok (goInt (min m n:Nat)) w'∧Blk w' g bt (a5y cur.toList off (xs.take n)).toArray∧Kept [g] w w':=by
 obtain⟨i,hi,hz,hsz,hby⟩:=T.get;obtain⟨A,sc,rfl,hl,_,hx⟩:=hr;have hs:(P.info? e).map (·.size)=some 1:=by rw [hi];simp [hsz]
 have hxl:xs.length=m:=by omega
 by_cases h0:min m n=0
 ·refine⟨w,by rw [h0];exact run_copy_none w t t2 ty e _ A n c m sc T.under hs (show min m n=0 from h0),?_,Kept.refl _ _⟩;have:xs.take n= []:=List.eq_nil_of_length_eq_zero (by rw [List.length_take,hxl];omega);rw [this];simpa [a5y]using hb
 ·obtain⟨b,o,rfl,hcell⟩:=hx (by omega);have hlen:(xs.take n).length=min m n:=by rw [List.length_take,hxl];omega
  have hrun:=run_copy_row (P:=P) w t t2 ty e g off n c ⟨b,o,none⟩ m sc cur bt (xs.take n) T.under hs hb (show _=min m n from hlen) (fun j u hu=>by
   rw [a2w];refine hcell j u ?_;rw [List.getElem?_take]at hu;split at hu
   ·exact hu
   ·cases hu) (by rw [hlen];omega) (fun u hu=>h1 u (List.mem_of_mem_take hu))
  rw [hlen]at hrun;refine⟨_,hrun,?_,(Kept.refl [g] w).setRow (.inl (by simp)) _⟩;have:=hb.a5i (cur.toList.take off ++ xs.take n ++ cur.toList.drop (off + min m n)).toArray;unfold a5y;rw [hlen,←List.append_assoc];exact this
theorem b6b{t t2 e:TypeId}{bytes:Nat}{z:Value}(T:SliceT P t e 1 bytes z)(hgd:Region.wanted o (yielded ops a.tmps)=true)(d s:Operand)
 (ho:o.op= .call {callee:=.builtin .copy,args:=#[d,s],argTypes:=#[t,t2]}) {g off n c:Nat} (hd:a.eval d= .slice (some ⟨g,off,none⟩) n c) {bt:TypeId} {cur:Array Value} (hb:Blk w g bt cur) (hfit:off + n≤cur.size)
 {x:Value} (hs:a.eval s=x) {m:Nat} {xs:List Value} (hr:Rd w 1 x m xs) (h1:∀u∈xs,u.oneCell'=true)
 (h:∀w',Blk w' g bt (a5y cur.toList off (xs.take n)).toArray→Kept [g] w w'→wpList P ops Q rest (a.put o.dst (goInt (min m n:Nat))) w'):wpList P ops Q (o :: rest) a w:=by
 refine a1u hgd fun K hK=>?_
 obtain⟨w',hrun,h2,h3⟩:=e4v (t2:=t2) T o.type hb hfit (c:=c) hr h1;unfold Oper.wp execOp;simp only [ho,resolve,invoke,builtin,Sem.run_bind,Sem.run_pure,Result.andThen_ok,List.map_toArray,List.map_cons,List.map_nil,hd,hs,hrun];exact hK _ _ (h w' h2 h3)
abbrev uv(l:List Nat):List Value:=l.map fun(z:Nat)=>Value.int .u64 (z:Int)
abbrev iv(l:List Int):List Value:=l.map fun(z:Int)=>Value.int .i64 z
theorem e3w(l:List Nat):∀u∈uv l,u.oneCell'=true:=by
 intro u hu;obtain⟨b,_,rfl⟩:=List.mem_map.1 hu;rfl
theorem a2e(l:List Nat):(uv l).toArray.all (·.oneCell')=true:=by
 rw [Array.all_eq_true_iff_forall_mem];intro v hv;exact e3w l v (by simpa using hv)
theorem Blk.mget{α:Type}{f:α→Value}{l:List α}{g:Nat}{bt:TypeId}(h:Blk w g bt (l.map f).toArray)(k:Nat)(hk:k < l.length):w.cell? ⟨g,k,none⟩=some (f l[k]):=by
 rw [h.cell];simp [hk]
theorem Blk.uget{l:List Nat}{g:Nat}{bt:TypeId}(h:Blk w g bt (uv l).toArray)(k:Nat)(hk:k < l.length):w.cell? ⟨g,k,none⟩=some (.int .u64 (l[k]:Int)):=h.mget k hk
theorem Blk.bget{l:List UInt8}{g:Nat}{bt:TypeId}(h:Blk w g bt (bv l).toArray)(k:Nat)(hk:k < l.length):w.cell? ⟨g,k,none⟩=some (.int .u8 (l[k].toNat:Int)):=h.mget k hk
theorem a6f(T:ArrT P t e n){d:TypeDesc}(he:P.underlying e=some d)(hd:(match d with | .struct _ | .array _ _=>false | _=>true)=true)(hsz:(P.info? e).map (·.size)=some 1){cs:Array Value}{v:Value}(kd:IntKind)(k:Nat)(hk:k < n)(hv:cs[k]?=some v)(w:World) :
 (Instr.index t (.agg cs) (.int kd k)).run P w= .ok v w:=by
 have h1:∀w,(sizeOf e).run P w= .ok 1 w:=fun w=>by
  cases hq:P.info? e with
  | none=>simp [hq]at hsz
  | some i=>simp [hq]at hsz;simp [sizeOf,typeInfo,hq,hsz]
 have h2:(isAgg e).run P w= .ok false w:=by
  unfold isAgg;rw [Sem.run_bind,run_underlying he w]
  cases d <;> simp_all
 unfold Instr.index;have h3:(0:Int)≤(k:Int)∧(k:Int) < (n:Int):=by omega
 simp [asIntOf,run_underlying T.under,h1,part,h2,hv];intro h;omega
abbrev ab(l:List UInt8):Value:=.agg (bv l).toArray
abbrev a0m(n:Nat):List UInt8:=List.replicate n 0
theorem a3o(l:List UInt8):(bv l).toArray.all (·.oneCell')=true:=by
 rw [Array.all_eq_true_iff_forall_mem];intro v hv;exact a2x l v (by simpa using hv)
theorem a3r{t e:TypeId}{n:Nat}(T:ArrT P t e n)(he:P.underlying e=some (.int .u8))(hsz:(P.info? e).map (·.size)=some 1)(xs ys:List UInt8)(hx:xs.length=n)(hy:ys.length=n)(w:World) :
 (Op.equalIn 10000 t (ab xs) (ab ys)).run P w= .ok (xs == ys) w:=by
 refine run_equalIn_bytes w 9998 t e n T.under he (fun w=>?_) xs ys hx hy
 cases hq:P.info? e with
 | none=>simp [hq]at hsz
 | some i=>simp [hq]at hsz;simp [sizeOf,typeInfo,hq,hsz]
theorem c0q{α:Type}[BEq α][LawfulBEq α](xs ys:List α)(h:xs.length=ys.length):((List.range' 0 xs.length 1).all fun i=>xs[i]? == ys[i]?)=(xs == ys):=by
 rw [Bool.eq_iff_iff,List.all_eq_true,beq_iff_eq];constructor
 ·intro hh;apply List.ext_getElem?;intro i;by_cases hi:i < xs.length
  ·exact eq_of_beq (hh i (by simp [List.mem_range'_1];exact hi))
  ·rw [List.getElem?_eq_none (by omega),List.getElem?_eq_none (by omega)]
 ·rintro rfl i _;simp
theorem b9o{α:Type}[BEq α][LawfulBEq α](T:ArrT P t e n)(f:α→Value){d:TypeDesc}(he:P.underlying e=some d)(hd:(match d with | .struct _ | .array _ _=>false | _=>true)=true)(hsz:(P.info? e).map (·.size)=some 1)(m:Nat)
 (hf:∀a b w,(Op.equalIn (m + 1) e (f a) (f b)).run P w= .ok (a == b) w) (xs ys:List α) (hx:xs.length=n) (hy:ys.length=n) (w:World) :
 (Op.equalIn (m + 2) t (.agg (xs.map f).toArray) (.agg (ys.map f).toArray)).run P w= .ok (xs == ys) w:=by
 have h1:∀w,(sizeOf e).run P w= .ok 1 w:=fun w=>by
  cases hq:P.info? e with
  | none=>simp [hq]at hsz
  | some i=>simp [hq]at hsz;simp [sizeOf,typeInfo,hq,hsz]
 have h2:∀w,(isAgg e).run P w= .ok false w:=fun w=>by
  unfold isAgg;rw [Sem.run_bind,run_underlying he w]
  cases d <;> simp_all
 rw [←c0q xs ys (hx.trans hy.symm),hx,Op.equalIn];simp only [Sem.run_bind,run_underlying T.under,Result.andThen_ok,h1,Std.Legacy.Range.forIn_eq_forIn_range',Std.Legacy.Range.size,Nat.sub_zero,Nat.add_sub_cancel,Nat.div_one];have hl:∀i∈List.range' 0 n 1,i < n:=fun i hi=>by simpa using(List.mem_range'_1.1 hi).2
 generalize List.range' 0 n 1=l at hl ⊢
 induction l with
 | nil=>simp
 | cons i l ih=>
   have hi:i < n:=hl i (by simp);have px:(part e (xs.map f).toArray (i * 1)).run P w= .ok (f (xs[i]'(by omega))) w:=by
    simp [part,h2,List.getElem?_eq_getElem (show i < xs.length by omega)]
   have py:(part e (ys.map f).toArray (i * 1)).run P w= .ok (f (ys[i]'(by omega))) w:=by
    simp [part,h2,List.getElem?_eq_getElem (show i < ys.length by omega)]
   have pe:=hf (xs[i]'(by omega)) (ys[i]'(by omega)) w;have pq:(xs[i]? == ys[i]?)=(xs[i]'(by omega) == ys[i]'(by omega)):=by
    rw [List.getElem?_eq_getElem (show i < xs.length by omega),List.getElem?_eq_getElem (show i < ys.length by omega)];rfl
   simp only [List.forIn_cons,Sem.run_bind,px,py,pe,Result.andThen_ok,List.all_cons,pq]
   cases hb:(xs[i]'(by omega) == ys[i]'(by omega))
   ·simp
   ·simp only [Bool.not_true,Bool.false_eq_true,if_false,Sem.run_pure,Result.andThen_ok,Bool.true_and];exact ih fun j hj=>hl j (by simp [hj])
theorem b6t(T:ArrT P t e n)(he:P.underlying e=some (.int .u64))(hsz:(P.info? e).map (·.size)=some 1)(xs ys:List Nat)(hx:xs.length=n)(hy:ys.length=n)(w:World) :
 (Op.equalIn 10000 t (.agg (uv xs).toArray) (.agg (uv ys).toArray)).run P w= .ok (xs == ys) w:=
 b9o T (fun z:Nat=>Value.int .u64 (z:Int)) he rfl hsz 9998 (fun a b w=>by
  rw [run_equalIn_int w 9998 e .u64 .u64 _ _ he];congr 1;rw [Bool.eq_iff_iff];simp;omega) xs ys hx hy w
theorem Blk.rd{g:Nat}{bt:TypeId}{cs:List Value}(h:Blk w g bt cs.toArray){n c:Nat}(hn:cs.length=n)(hc:n≤c):Rd w 1 (.slice (some ⟨g,0,none⟩) n c) n cs:=
 ⟨_,_,rfl,by omega,hc,fun _=>⟨g,0,rfl,fun j u hu=>by rw [h.cell,Nat.zero_add];simpa using hu⟩⟩
end
end Go.Mem
namespace Go.Mem
open Go.ChangeShapes Go.WideShapes Go.ChangeAt Go.RowKit
section
variable {H:Type} {enc:TypeId × Value→H} {P:Program} {w:World} {base:Nat} {spare:Nat→Bool} {held:Bool}
theorem e5f{e:TypeId}(he:P.underlying e=some (.int .u8)){fuel:Nat}{c:Value}{y:DataW H × List MemPlace}(h:DataW.trod enc P w base spare held fuel e [c]=some y):∃b:UInt8,c=a1z b:=by
 cases fuel with
 | zero=>simp [DataW.trod]at h
 | succ n=>
   unfold DataW.trod at h;rw [he]at h
   cases c <;> simp at h
   obtain⟨⟨rfl,hw⟩,_⟩:=h;exact⟨_,(c7l (wf_u8 hw)).symm⟩
end
end Go.Mem
namespace Go.Proofs.YtdbngnlpafcogaaGreat.bulks
theorem one_le{H:Type}(d:DataW H):1≤Rows.uptoBulk d:=by
 cases d with
 | lit l=>cases l <;> simp [Rows.uptoBulk]
 | nil=>simp [Rows.uptoBulk]
 | ptr d=>simp [Rows.uptoBulk]
 | slice elems spare=>simp [Rows.uptoBulk]
 | agg parts=>simp [Rows.uptoBulk]
 | iface t d=>simp [Rows.uptoBulk]
 | map entries=>simp [Rows.uptoBulk]
 | held h=>simp [Rows.uptoBulk]
theorem d2j{H:Type}{d:DataW H}{l:List (DataW H)}(h:d∈l):Rows.uptoBulk d≤Rows.uptoBulkAll l:=by
 induction l with
 | nil=>cases h
 | cons x r ih=>
   simp only [Rows.uptoBulkAll]
   cases List.mem_cons.1 h with
   | inl e=>subst e;omega
   | inr e=>have:=ih e;omega
theorem length_le{H:Type}(l:List (DataW H)):l.length≤Rows.uptoBulkAll l:=by
 induction l with
 | nil=>simp [Rows.uptoBulkAll]
 | cons x r ih=>have:=one_le x;simp only [Rows.uptoBulkAll,List.length_cons];omega
theorem b6d{H:Type}(elems spare:List (DataW H)):Rows.uptoBulkAll elems + 1≤Rows.uptoBulk (.slice elems spare):=by
 simp only [Rows.uptoBulk];omega
theorem bound{H:Type}{l:List (DataW H)}(hk:Rows.uptoSmall H l=true):Rows.uptoBulkAll l≤1048576:=of_decide_eq_true hk
theorem d9o{H:Type}{l:List (DataW H)}(hk:Rows.uptoSmall H l=true){d:DataW H}(hd:d∈l){bs:List UInt8}
 (h:bs= []∧d= .nil∨∃el sp,d= .slice el sp∧el.length=bs.length):bs.length≤1048576:=by
 rcases h with⟨rfl,_⟩ | ⟨el,sp,rfl,he⟩
 ·simp
 ·have h1:=bound hk;have h2:=d2j hd;have h3:=b6d el sp;have h4:=length_le el;omega
end Go.Proofs.YtdbngnlpafcogaaGreat.bulks
namespace Go.Mem
end Go.Mem
namespace Go.Mem
open Go.RowKit
section
variable {P:Program} {w:World} {t e:TypeId} {s bytes n:Nat} {z v:Value} {xs:List Value}
theorem a5e(k:IntKind)(i y:Nat)(c:BoundsCode)(h:i≤y)(w:World):(Instr.sliceBound (.int k i) y c).run P w= .ok i w:=by
 unfold Instr.sliceBound;have:(0:Int)≤(i:Int)∧(i:Int)≤(y:Int):=by omega
 simp [asIntOf,this]
theorem a6s(T:SliceT P t e s bytes z)(A:Option Addr)(n c:Nat)(lo hi mx:Option Value)(l h m:Nat)(w:World)
 (hb:(Instr.sliceBounds true n c lo hi mx).run P w= .ok (l,h,m) w) :
 (Instr.sliceAt t (.slice A n c) lo hi mx).run P w= .ok (.slice (if m=l then A else A.map (·.add (l * s))) (h - l) (m - l)) w:=by
 obtain⟨i,hi,_,hsz,_⟩:=T.get;unfold Instr.sliceAt Instr.slice;simp [run_underlying T.under,hb,Go.sizeOf,typeInfo,hi,hsz]
theorem cut_to(T:SliceT P t e s bytes z)(hr:Rd w s v n xs)(kd:IntKind)(k:Nat)(hk:k≤n) :
 ∃B d,(∀W,(Instr.sliceAt t v none (some (.int kd k)) none).run P W= .ok (.slice B k d) W)∧Rd w s (.slice B k d) k (xs.take (k * s))∧(Value.slice B k d).ownBlock=v.ownBlock∧k≤d:=by
 have hr0:=hr;obtain⟨A,c,rfl,_,hnc,_⟩:=hr;have hcut:=hr0.cut (lo:=0) (hi:=k) (m:=c) (Nat.zero_le _) hk (by omega);have ha:(if c=0 then A else A.map (·.add (0 * s)))=A:=by
  rw [Nat.zero_mul];have:A.map (fun x=>x.add 0)=A:=by cases A <;> rfl
  rw [this,ite_self]
 rw [ha]at hcut;refine⟨A,c,fun W=>?_,by simpa using hcut,by cases A <;> rfl,by omega⟩;rw [a6s T A n c none _ none 0 k c W (by unfold Instr.sliceBounds;simp [a5e kd k c _ (by omega) W]),ha];simp
theorem c9c(T:SliceT P t e s bytes z)(hr:Rd w s v n xs)(kd:IntKind)(k:Nat)(hk:k≤n) :
 ∃B d,(∀W,(Instr.sliceAt t v (some (.int kd k)) none none).run P W= .ok (.slice B (n - k) d) W)∧Rd w s (.slice B (n - k) d) (n - k) (xs.drop (k * s))∧(0 < n - k→(Value.slice B (n - k) d).ownBlock=v.ownBlock)∧n - k≤d:=by
 have hr0:=hr;obtain⟨A,c,rfl,hl,hnc,hx⟩:=hr;have hcut:=hr0.cut (lo:=k) (hi:=n) (m:=c) hk (Nat.le_refl _) hnc;refine⟨_,_,fun W=>a6s T A n c _ none none k n c W (by unfold Instr.sliceBounds;simp [a5e kd k n _ hk W]),?_,fun hn=>?_,by omega⟩
 ·have e:(xs.drop (k * s)).take ((n - k) * s)=xs.drop (k * s):=by
   apply List.take_of_length_le;rw [List.length_drop,hl,Nat.sub_mul];omega
  rw [←e];exact hcut
 ·obtain⟨b,o,rfl,_⟩:=hx (by omega);rw [if_neg (by omega)];simp [Value.ownBlock,a2w]
theorem c6z(T:SliceT P t e s bytes z)(hr:Rd w s v n xs)(kd kd':IntKind)(k m:Nat)(hk:k≤m)(hm:m≤n) :
 ∃B d,(∀W,(Instr.sliceAt t v (some (.int kd k)) (some (.int kd' m)) none).run P W= .ok (.slice B (m - k) d) W)∧Rd w s (.slice B (m - k) d) (m - k) ((xs.drop (k * s)).take ((m - k) * s))∧(0 < m - k→(Value.slice B (m - k) d).ownBlock=v.ownBlock)∧m - k≤d:=by
 have hr0:=hr;obtain⟨A,c,rfl,hl,hnc,hx⟩:=hr;have hcut:=hr0.cut (lo:=k) (hi:=m) (m:=c) hk hm (by omega);refine⟨_,_,fun W=>a6s T A n c _ _ none k m c W (by unfold Instr.sliceBounds;simp [a5e kd' m c _ (by omega) W,a5e kd k m _ hk W]),hcut,fun hn=>?_,by omega⟩;obtain⟨b,o,rfl,_⟩:=hx (by omega);rw [if_neg (by omega)];simp [Value.ownBlock,a2w]
end
end Go.Mem
namespace Go.Mem
open Go.RowKit
section
variable {P:Program} {w:World} {t e:TypeId} {s bytes n:Nat} {z v:Value} {xs:List Value}
theorem ow_to3(T:SliceT P t e s bytes z)(hr:Ow w e s v n xs)(kd:IntKind)(k:Nat)(hk:k≤n) :
 ∃B d,(∀W,(Instr.sliceAt t v none (some (.int kd k)) (some (.int kd k))).run P W= .ok (.slice B k d) W)∧Ow w e s (.slice B k d) k (xs.take (k * s)):=by
 have hr0:=hr;obtain⟨A,c,rfl,hnc⟩:=hr.shape;have hcut:=hr0.cut (lo:=0) (hi:=k) (m:=k) (Nat.zero_le _) hk (Nat.le_refl _) (by omega);have ha:(if k=0 then A else A.map (·.add (0 * s)))=A:=by
  rw [Nat.zero_mul];have:A.map (fun x=>x.add 0)=A:=by cases A <;> rfl
  rw [this,ite_self]
 rw [ha]at hcut;refine⟨A,k,fun W=>?_,by simpa using hcut⟩;rw [a6s T A n c none _ _ 0 k k W (by unfold Instr.sliceBounds;simp [a5e kd k c _ (by omega) W,a5e kd k k _ (Nat.le_refl _) W]),ha];simp
theorem ow_to(T:SliceT P t e s bytes z)(hr:Ow w e s v n xs)(kd:IntKind)(k:Nat)(hk:k≤n) :
 ∃B d,(∀W,(Instr.sliceAt t v none (some (.int kd k)) none).run P W= .ok (.slice B k d) W)∧Ow w e s (.slice B k d) k (xs.take (k * s))∧(Value.slice B k d).ownBlock=v.ownBlock:=by
 have hr0:=hr;obtain⟨A,c,rfl,hnc⟩:=hr.shape;have hcut:=hr0.cut (lo:=0) (hi:=k) (m:=c) (Nat.zero_le _) hk (by omega) (Nat.le_refl _);have ha:(if c=0 then A else A.map (·.add (0 * s)))=A:=by
  rw [Nat.zero_mul];have:A.map (fun x=>x.add 0)=A:=by cases A <;> rfl
  rw [this,ite_self]
 rw [ha]at hcut;refine⟨A,c,fun W=>?_,by simpa using hcut,by cases A <;> rfl⟩;rw [a6s T A n c none _ none 0 k c W (by unfold Instr.sliceBounds;simp [a5e kd k c _ (by omega) W]),ha];simp
theorem e6u(T:SliceT P t e s bytes z)(hr:Ow w e s v n xs)(kd:IntKind)(k:Nat)(hk:k≤n) :
 ∃B d,(∀W,(Instr.sliceAt t v (some (.int kd k)) none none).run P W= .ok (.slice B (n - k) d) W)∧Ow w e s (.slice B (n - k) d) (n - k) (xs.drop (k * s)):=by
 have hr0:=hr;obtain⟨A,c,rfl,hnc⟩:=hr.shape;have hcut:=hr0.cut (lo:=k) (hi:=n) (m:=c) hk (Nat.le_refl _) hnc (Nat.le_refl _);refine⟨_,_,fun W=>a6s T A n c _ none none k n c W (by unfold Instr.sliceBounds;simp [a5e kd k n _ hk W]),?_⟩;have e:(xs.drop (k * s)).take ((n - k) * s)=xs.drop (k * s):=by
  apply List.take_of_length_le;rw [List.length_drop,hr0.1,Nat.sub_mul];omega
 rw [←e];exact hcut
end
end Go.Mem
namespace Go.Mem
open Go.RowKit
section
variable {P:Program} {w:World} {ops:Array Oper} {rest:List Oper} {o:Oper} {a:Act} {Q:Exit→Act→World→Prop}
theorem c1b(u:Value)(k:Nat):(Builtin.zeroCells #[u] k).toList=List.replicate k u:=by
 apply List.ext_getElem
 ·simp [Builtin.zeroCells]
 ·intro i h1 h2;have:i % 1=0:=by omega
  simp [Builtin.zeroCells,this]
theorem c1c{t ti e:TypeId}{bytes:Nat}{z u:Value}{kd:IntKind}(T:SliceT P t e 1 bytes z)(hz1:z.cells= #[u])(hu:u.oneCell'=true)(hti:P.underlying ti=some (.int kd))(ty:TypeId){v:Value}{n:Nat}{xs:List Value}
 (hown:Ow w e 1 v n xs) (k:Nat) (hbytes:(n + k) * bytes≤140737488355328) (h63:n + k≤9223372036854775807) :
 ∃v' w',(Builtin.append_ #[t,ti] ty #[v,.int .i64 k]).run P w= .ok v' w'∧Ow w' e 1 v' (n + k) (xs ++ List.replicate k u)∧Kept v.ownBlock.toList w w'∧(v'.ownBlock=v.ownBlock∨v'.ownBlock=some w.heap.size):=by
 obtain⟨i,hi,hz,hsz,hby⟩:=T.get;have hw:IntKind.i64.wrap (k:Int)=k:=by rw [IntKind.wrap_i64];omega
 have hlen:(xs ++ List.replicate k u).length=(n + k) * 1:=by rw [List.length_append,hown.1,List.length_replicate];omega
 have hk0:¬((k:Int) < 0):=by omega
 have hkb:¬(281474976710656 < (k:Int) * (bytes:Int)):=by
  have h1:k * bytes≤(n + k) * bytes:=Nat.mul_le_mul_right _ (by omega);have:(k:Int) * (bytes:Int)=((k * bytes:Nat):Int):=by simp
  rw [this];omega
 have hxs:∀(b o2 cap:Nat),v= .slice (some ⟨b,o2,none⟩) n cap→(Builtin.firstCells 1 n (.slice (some ⟨b,o2,none⟩) n cap)).run P w.drew= .ok xs.toArray w.drew:=by
  intro b o2 cap hv;subst hv
  exact run_firstCells_some (P:=P) w.drew 1 n ⟨b,o2,none⟩ n cap xs hown.1 (fun j x hx=>by
   rw [a2w]
   obtain⟨b2,o3,c2,hv2,_,hcell⟩:=(Rd.a6w hown).at_ (by
    rcases Nat.eq_zero_or_pos n with h | h
    ·subst h;have:=hown.1;simp at this;subst this;simp at hx
    ·exact h)
   cases hv2
   exact hcell j x hx)
 have hgrow:∀(base:Option Addr) (cap:Nat),k≠0→v= .slice base n cap→cap < n + k→(Builtin.firstCells 1 n (.slice base n cap)).run P w.drew= .ok xs.toArray w.drew→
  ∃v' w',(Builtin.append_ #[t,ti] ty #[v,.int .i64 k]).run P w= .ok v' w'∧Ow w' e 1 v' (n + k) (xs ++ List.replicate k u)∧Kept v.ownBlock.toList w w'∧(v'.ownBlock=v.ownBlock∨v'.ownBlock=some w.heap.size):=by
  intro base cap hkz hv hcap hold;subst hv;have hn:¬(n + k≤cap):=by omega
  have h63':¬(9223372036854775807 < ((n:Int) + (k:Int))):=by omega
  have hfit:Builtin.nextslicecap (n + k) cap * i.bytes≤281474976710656:=by rw [hby];exact growslice_fits hcap hbytes
  have h48':¬(281474976710656 < Builtin.nextslicecap (n + k) cap * i.bytes):=by omega
  have hge:=grownCap_ge w (n + k) cap e;have hcm:grownCap w (n + k) cap e≤maxLen:=grownCap_le_maxLen w (n + k) cap e (by simp only [maxLen];exact h63);have hrun:(Builtin.append_ #[t,ti] ty #[.slice base n cap,.int .i64 k]).run P w =
   .ok (.slice (some ⟨w.heap.size,0,none⟩) (n + k) (grownCap w (n + k) cap e)) (w.drew.alloc (.cells ((xs ++ List.replicate k u).toArray ++ Builtin.zeroCells z.cells (grownCap w (n + k) cap e - (n + k))) e)):=by
   have hkb':¬(281474976710656 < (k:Int) * (i.bytes:Int)):=by rw [hby];exact hkb
   have hz2:Builtin.zeroCells z.cells k=(List.replicate k u).toArray:=by apply Array.ext';rw [hz1,c1b]
   simp [Builtin.append_,run_underlying T.under,run_underlying hti,sizeOf,typeInfo,zeroValue,hi,hz,hn,h63',h48',Question.forced,hold,newRow,grownCap,asInt,asIntOf,hw,hk0,hkb',hsz,hkz,hz2];congr 2;apply Array.ext';simp [List.append_assoc]
  refine⟨_,_,hrun,⟨hlen,.inr ⟨w.heap.size,0,_,_,rfl,heap_alloc_new w.drew _,hge,by simpa [maxLen]using hcm,?_,?_⟩⟩,?_,.inr rfl⟩
  ·simp only [Array.size_append,List.size_toArray,size_zeroCells,T.zs,hlen];omega
  ·simp only [Array.toList_append,List.drop_zero];rw [←hlen];exact List.take_left
  ·exact(Kept.refl [] w).drew.alloc _ |> Kept.of0
 rcases hown.2 with⟨hv,h0⟩ | ⟨g,o',cap,cur,hv,hg,hnc,hcm,hcs,ht⟩
 ·subst h0;have hx0:xs= []:=List.eq_nil_of_length_eq_zero (by simpa using hown.1);by_cases hm:k=0
  ·subst hm;subst hv;refine⟨.slice none 0 0,w,?_,by simpa using hown,Kept.refl _ _,.inl rfl⟩;simp [Builtin.append_,run_underlying T.under,run_underlying hti,sizeOf,typeInfo,hi,asInt,asIntOf,show IntKind.i64.wrap 0=0 from by simpa using hw]
  ·exact hgrow none 0 hm hv (by omega) (by rw [hx0];exact run_firstCells_none w.drew _ _ _ _)
 ·by_cases hroom:n + k≤cap
  ·subst hv;have hst:=run_storeCells_cells (P:=P) g (o' + n) (List.replicate k u) 0 w (fun j hj=>by rw [hg.cell];simp at hj ⊢;omega) (fun j _=>hg.frozen _) (fun x hx=>by rw [(List.mem_replicate.1 hx).2];exact hu);simp only [Nat.add_zero]at hst;obtain⟨cs',b1,b2,b3⟩:=Blk.setCells (List.replicate k u) (o' + n) cur w hg;have hrun:(Builtin.append_ #[t,ti] ty #[.slice (some ⟨g,o',none⟩) n cap,.int .i64 k]).run P w= .ok (.slice (some ⟨g,o',none⟩) (n + k) cap) (w.setCells g (o' + n) (List.replicate k u)):=by
    by_cases hkz:k=0
    ·subst hkz;have hw0:IntKind.i64.wrap 0=0:=by simpa using hw
     simp [Builtin.append_,run_underlying T.under,run_underlying hti,sizeOf,typeInfo,hi,asInt,asIntOf,hw0,hnc,storeCells,World.setCells]
    ·have hkb':¬(281474976710656 < (k:Int) * (i.bytes:Int)):=by rw [hby];exact hkb
     have hz2:Builtin.zeroCells z.cells k=(List.replicate k u).toArray:=by apply Array.ext';rw [hz1,c1b]
     simp [Builtin.append_,run_underlying T.under,run_underlying hti,sizeOf,typeInfo,zeroValue,hi,hz,asInt,asIntOf,hw,hk0,hkb',hsz,hkz,hroom,hz2,a2w,hst]
   refine⟨_,_,hrun,⟨hlen,.inr ⟨g,o',cap,cs',rfl,b1,hroom,hcm,by omega,?_⟩⟩,(Kept.setCells _ _ _).more (by simp [Value.ownBlock]),.inl rfl⟩;apply List.ext_getElem?;intro j;have hxl:=hown.1;rw [List.getElem?_take,List.getElem?_append,List.getElem?_drop];have b4:cs'.toList[o' + j]?=cs'[o' + j]?:=by simp
   rw [b4,b3,List.length_replicate];by_cases hj:j < n
   ·rw [if_pos (by omega),if_neg (by omega),if_pos (by omega),←ht,List.getElem?_take,if_pos (by omega),List.getElem?_drop];simp
   ·by_cases hj2:j < n + k
    ·rw [if_pos (by omega),if_pos (by omega),if_neg (by omega)];congr 1;omega
    ·rw [if_neg (by omega),if_neg (by omega),List.getElem?_eq_none (by rw [List.length_replicate];omega)]
  ·exact hgrow _ cap (by omega) hv (by omega) (hv▸hxs g o' cap hv)
theorem a9f{t ti e:TypeId}{bytes:Nat}{z u:Value}{kd:IntKind}(T:SliceT P t e 1 bytes z)(hz1:z.cells= #[u])(hu:u.oneCell'=true)(hti:P.underlying ti=some (.int kd))(hgd:o.guard=none)(s x:Operand)
 (ho:o.op= .call {callee:=.builtin .append,args:=#[s,x],argTypes:=#[t,ti]}) {v:Value} (hs:a.eval s=v) {n:Nat} {xs:List Value} (hown:Ow w e 1 v n xs)
 (k:Nat) (hx:a.eval x= .int .i64 k) (hbytes:(n + k) * bytes≤140737488355328) (h63:n + k≤9223372036854775807)
 (h:∀v' w',Ow w' e 1 v' (n + k) (xs ++ List.replicate k u)→Kept v.ownBlock.toList w w'→(v'.ownBlock=v.ownBlock∨v'.ownBlock=some w.heap.size)→wpList P ops Q rest (a.put o.dst v') w'):wpList P ops Q (o :: rest) a w:=by
 refine wpList_plain hgd fun K hK=>?_
 obtain⟨v',w',hrun,h2,h3,h4⟩:=c1c T hz1 hu hti o.type hown k hbytes h63;unfold Oper.wp execOp;simp only [ho,resolve,invoke,builtin,Sem.run_bind,Sem.run_pure,Result.andThen_ok,List.map_toArray,List.map_cons,List.map_nil,hs,hx,hrun];exact hK _ _ (h v' w' h2 h3 h4)
end
end Go.Mem
namespace Go.Txt
def a0b{α:Type}(P:Program)(s:Sem α):Prop:=∀w r w',s.run P w= .ok r w'→w'=w∧∀w2,s.run P w2= .ok r w2
def Reads{α:Type}(P:Program)(s:Sem α):Prop:=∀w r w',s.run P w= .ok r w'→w'=w
section
variable {α β:Type} {P:Program}
theorem a0b.reads{s:Sem α}(h:a0b P s):Reads P s:=fun w r w' e=>(h w r w' e).1
theorem a0b.pure(a:α):a0b P (Pure.pure a:Sem α):=by
 intro w r w' h;simp only [Sem.run_pure,Result.ok.injEq]at h;obtain⟨rfl,rfl⟩:=h;exact⟨rfl,fun _=>rfl⟩
theorem a0b.bind{s:Sem α}{f:α→Sem β}(h:a0b P s)(hf:∀a,a0b P (f a)):a0b P (s >>= f):=by
 intro w r w' e;simp only [Sem.run_bind]at e
 cases hs:s.run P w with
 | halt x w1=>rw [hs]at e;simp at e
 | ok a w1=>
   rw [hs]at e;simp only [Result.andThen_ok]at e;obtain⟨rfl,h2⟩:=h _ _ _ hs;obtain⟨rfl,h3⟩:=hf _ _ _ _ e;exact⟨rfl,fun w2=>by simp only [Sem.run_bind,h2 w2,Result.andThen_ok];exact h3 w2⟩
theorem a0b.map{s:Sem α}{f:α→β}(h:a0b P s):a0b P (f <$> s):=by
 have:=a0b.bind (f:=fun a=>(Pure.pure (f a):Sem β)) h (fun a=>a0b.pure _);intro w r w' e;have hh:=this w r w';simp only [Sem.run_map,Sem.run_bind,Sem.run_pure]at *;exact hh e
theorem Reads.bind{s:Sem α}{f:α→Sem β}(h:Reads P s)(hf:∀a,Reads P (f a)):Reads P (s >>= f):=by
 intro w r w' e;simp only [Sem.run_bind]at e
 cases hs:s.run P w with
 | halt x w1=>rw [hs]at e;simp at e
 | ok a w1=>
   rw [hs]at e;simp only [Result.andThen_ok]at e;exact(hf _ _ _ _ e).trans (h _ _ _ hs)
def a0s(P:Program)(s:Sem α):Prop:=∀w r w',s.run P w≠.ok r w'
theorem a0s.steady{s:Sem α}(h:a0s P s):a0b P s:=fun w r w' e=>(h w r w' e).elim
theorem a0s.stuck(why:String):a0s P (stuck why:Sem α):=fun w r w' e=>by simp at e
theorem a0s.unsupported(u:Unsupported):a0s P (unsupported u:Sem α):=fun w r w' e=>by simp at e
theorem a0s.bind{s:Sem α}{f:α→Sem β}(hf:∀a,a0s P (f a)):a0s P (s >>= f):=by
 intro w r w' e;simp only [Sem.run_bind]at e
 cases hs:s.run P w with
 | halt x w1=>rw [hs]at e;simp at e
 | ok a w1=>rw [hs]at e;simp only [Result.andThen_ok]at e;exact hf _ _ _ _ e
theorem a0s.a1s{s:Sem α}{f:α→Sem β}(hs:a0s P s):a0s P (s >>= f):=by
 intro w r w' e;simp only [Sem.run_bind]at e
 cases h:s.run P w with
 | halt x w1=>rw [h]at e;simp at e
 | ok a w1=>exact hs _ _ _ h
theorem a0s.runtimePanic(e:RuntimeError):a0s P (runtimePanic e:Sem α):=by
 intro w r w' h;unfold Go.runtimePanic at h
 cases e <;> simp at h
 all_goals (revert h;generalize (elemOf _).run P w=x;intro h;cases x <;> simp at h;revert h;generalize Sem.run P (newVar _ _) _=y;intro h;cases y <;> simp at h)
theorem a0s.boundsPanic(k:IntKind)(x y:Int)(c:BoundsCode):a0s P (boundsPanic k x y c:Sem α):=by
 unfold Go.boundsPanic
 dsimp only
 split <;> exact a0s.bind fun _=>a0s.runtimePanic _
theorem a0b.program:a0b P Go.program:=by
 intro w r w' h;simp at h;obtain⟨rfl,rfl⟩:=h;exact⟨rfl,fun _=>by simp⟩
theorem a0b.typeInfo(t:TypeId):a0b P (typeInfo t):=by
 unfold Go.typeInfo;refine a0b.program.bind fun p=>?_
 split
 ·exact a0b.pure _
 ·exact(a0s.stuck _).steady
theorem a0b.underlying(t:TypeId):a0b P (underlying t):=by
 unfold Go.underlying;refine a0b.program.bind fun p=>?_
 split
 ·exact a0b.pure _
 ·exact(a0s.stuck _).steady
theorem a0b.sizeOf(t:TypeId):a0b P (Go.sizeOf t):=by
 unfold Go.sizeOf;exact(a0b.typeInfo t).bind fun i=>a0b.pure _
theorem a0b.isAgg(t:TypeId):a0b P (isAgg t):=by
 unfold Go.isAgg;refine(a0b.underlying t).bind fun d=>?_
 split <;> exact a0b.pure _
theorem a0b.asIntOf(v:Value):a0b P (Go.asIntOf v):=by
 unfold Go.asIntOf
 repeat' (first | exact a0b.pure _ | exact(a0s.stuck _).steady | exact(a0s.unsupported _).steady | exact(a0s.runtimePanic _).steady | exact(a0s.boundsPanic _ _ _ _).steady | exact(a0s.stuck _).a1s.steady | exact a0b.program | exact a0b.typeInfo _ | exact a0b.underlying _ | exact a0b.sizeOf _ | exact a0b.isAgg _ | (refine a0b.bind ?_ fun _=>?_) | (dsimp only;split) | split | dsimp only)
theorem a0b.asBool(v:Value):a0b P (Go.asBool v):=by
 unfold Go.asBool
 repeat' (first | exact a0b.pure _ | exact(a0s.stuck _).steady | exact(a0s.unsupported _).steady | exact(a0s.runtimePanic _).steady | exact(a0s.boundsPanic _ _ _ _).steady | exact(a0s.stuck _).a1s.steady | exact a0b.program | exact a0b.typeInfo _ | exact a0b.underlying _ | exact a0b.sizeOf _ | exact a0b.isAgg _ | exact a0b.asIntOf _ | (refine a0b.bind ?_ fun _=>?_) | (dsimp only;split) | split | dsimp only)
theorem a0b.asAgg(v:Value):a0b P (Go.asAgg v):=by
 unfold Go.asAgg
 repeat' (first | exact a0b.pure _ | exact(a0s.stuck _).steady | exact(a0s.unsupported _).steady | exact(a0s.runtimePanic _).steady | exact(a0s.boundsPanic _ _ _ _).steady | exact(a0s.stuck _).a1s.steady | exact a0b.program | exact a0b.typeInfo _ | exact a0b.underlying _ | exact a0b.sizeOf _ | exact a0b.isAgg _ | exact a0b.asIntOf _ | exact a0b.asBool _ | (refine a0b.bind ?_ fun _=>?_) | (dsimp only;split) | split | dsimp only)
theorem a0b.asAddr(v:Value):a0b P (Go.asAddr v):=by
 unfold Go.asAddr
 repeat' (first | exact a0b.pure _ | exact(a0s.stuck _).steady | exact(a0s.unsupported _).steady | exact(a0s.runtimePanic _).steady | exact(a0s.boundsPanic _ _ _ _).steady | exact(a0s.stuck _).a1s.steady | exact a0b.program | exact a0b.typeInfo _ | exact a0b.underlying _ | exact a0b.sizeOf _ | exact a0b.isAgg _ | exact a0b.asIntOf _ | exact a0b.asBool _ | exact a0b.asAgg _ | (refine a0b.bind ?_ fun _=>?_) | (dsimp only;split) | split | dsimp only)
theorem a0b.sureAddr(v:Value):a0b P (Instr.sureAddr v):=by
 unfold Instr.sureAddr
 repeat' (first | exact a0b.pure _ | exact(a0s.stuck _).steady | exact(a0s.unsupported _).steady | exact(a0s.runtimePanic _).steady | exact(a0s.boundsPanic _ _ _ _).steady | exact(a0s.stuck _).a1s.steady | exact a0b.program | exact a0b.typeInfo _ | exact a0b.underlying _ | exact a0b.sizeOf _ | exact a0b.isAgg _ | exact a0b.asIntOf _ | exact a0b.asBool _ | exact a0b.asAgg _ | exact a0b.asAddr _ | (refine a0b.bind ?_ fun _=>?_) | (dsimp only;split) | split | dsimp only)
theorem a0b.part(t:TypeId)(cs:Array Value)(off:Nat):a0b P (Go.part t cs off):=by
 unfold Go.part
 repeat' (first | exact a0b.pure _ | exact(a0s.stuck _).steady | exact(a0s.unsupported _).steady | exact(a0s.runtimePanic _).steady | exact(a0s.boundsPanic _ _ _ _).steady | exact(a0s.stuck _).a1s.steady | exact a0b.program | exact a0b.typeInfo _ | exact a0b.underlying _ | exact a0b.sizeOf _ | exact a0b.isAgg _ | exact a0b.asIntOf _ | exact a0b.asBool _ | exact a0b.asAgg _ | exact a0b.asAddr _ | exact a0b.sureAddr _ | (refine a0b.bind ?_ fun _=>?_) | (dsimp only;split) | split | dsimp only)
theorem a0b.extract(v:Value)(i:Nat):a0b P (Instr.extract v i):=by
 unfold Instr.extract
 repeat' (first | exact a0b.pure _ | exact(a0s.stuck _).steady | exact(a0s.unsupported _).steady | exact(a0s.runtimePanic _).steady | exact(a0s.boundsPanic _ _ _ _).steady | exact(a0s.stuck _).a1s.steady | exact a0b.program | exact a0b.typeInfo _ | exact a0b.underlying _ | exact a0b.sizeOf _ | exact a0b.isAgg _ | exact a0b.asIntOf _ | exact a0b.asBool _ | exact a0b.asAgg _ | exact a0b.asAddr _ | exact a0b.sureAddr _ | exact a0b.part _ _ _ | (refine a0b.bind ?_ fun _=>?_) | (dsimp only;split) | split | dsimp only)
theorem a0b.field(t:TypeId)(v:Value)(i:Nat):a0b P (Instr.field t v i):=by
 unfold Instr.field
 repeat' (first | exact a0b.pure _ | exact(a0s.stuck _).steady | exact(a0s.unsupported _).steady | exact(a0s.runtimePanic _).steady | exact(a0s.boundsPanic _ _ _ _).steady | exact(a0s.stuck _).a1s.steady | exact a0b.program | exact a0b.typeInfo _ | exact a0b.underlying _ | exact a0b.sizeOf _ | exact a0b.isAgg _ | exact a0b.asIntOf _ | exact a0b.asBool _ | exact a0b.asAgg _ | exact a0b.asAddr _ | exact a0b.sureAddr _ | exact a0b.part _ _ _ | exact a0b.extract _ _ | (refine a0b.bind ?_ fun _=>?_) | (dsimp only;split) | split | dsimp only)
theorem a0b.index(t:TypeId)(v i:Value):a0b P (Instr.index t v i):=by
 unfold Instr.index
 repeat' (first | exact a0b.pure _ | exact(a0s.stuck _).steady | exact(a0s.unsupported _).steady | exact(a0s.runtimePanic _).steady | exact(a0s.boundsPanic _ _ _ _).steady | exact(a0s.stuck _).a1s.steady | exact a0b.program | exact a0b.typeInfo _ | exact a0b.underlying _ | exact a0b.sizeOf _ | exact a0b.isAgg _ | exact a0b.asIntOf _ | exact a0b.asBool _ | exact a0b.asAgg _ | exact a0b.asAddr _ | exact a0b.sureAddr _ | exact a0b.part _ _ _ | exact a0b.extract _ _ | exact a0b.field _ _ _ | (refine a0b.bind ?_ fun _=>?_) | (dsimp only;split) | split | dsimp only)
theorem a0b.indexAt(t:TypeId)(v i:Value):a0b P (Instr.indexAt t v i):=by
 unfold Instr.indexAt
 repeat' (first | exact a0b.pure _ | exact(a0s.stuck _).steady | exact(a0s.unsupported _).steady | exact(a0s.runtimePanic _).steady | exact(a0s.boundsPanic _ _ _ _).steady | exact(a0s.stuck _).a1s.steady | exact a0b.program | exact a0b.typeInfo _ | exact a0b.underlying _ | exact a0b.sizeOf _ | exact a0b.isAgg _ | exact a0b.asIntOf _ | exact a0b.asBool _ | exact a0b.asAgg _ | exact a0b.asAddr _ | exact a0b.sureAddr _ | exact a0b.part _ _ _ | exact a0b.extract _ _ | exact a0b.field _ _ _ | exact a0b.index _ _ _ | (refine a0b.bind ?_ fun _=>?_) | (dsimp only;split) | split | dsimp only)
theorem a0b.sliceBound(v:Value)(y:Nat)(c:BoundsCode):a0b P (Instr.sliceBound v y c):=by
 unfold Instr.sliceBound
 repeat' (first | exact a0b.pure _ | exact(a0s.stuck _).steady | exact(a0s.unsupported _).steady | exact(a0s.runtimePanic _).steady | exact(a0s.boundsPanic _ _ _ _).steady | exact(a0s.stuck _).a1s.steady | exact a0b.program | exact a0b.typeInfo _ | exact a0b.underlying _ | exact a0b.sizeOf _ | exact a0b.isAgg _ | exact a0b.asIntOf _ | exact a0b.asBool _ | exact a0b.asAgg _ | exact a0b.asAddr _ | exact a0b.sureAddr _ | exact a0b.part _ _ _ | exact a0b.extract _ _ | exact a0b.field _ _ _ | exact a0b.index _ _ _ | exact a0b.indexAt _ _ _ | (refine a0b.bind ?_ fun _=>?_) | (dsimp only;split) | split | dsimp only)
theorem a0b.sliceBounds(b:Bool)(l c:Nat)(lo hi mx:Option Value):a0b P (Instr.sliceBounds b l c lo hi mx):=by
 unfold Instr.sliceBounds
 repeat' (first | exact a0b.pure _ | exact(a0s.stuck _).steady | exact(a0s.unsupported _).steady | exact(a0s.runtimePanic _).steady | exact(a0s.boundsPanic _ _ _ _).steady | exact(a0s.stuck _).a1s.steady | exact a0b.program | exact a0b.typeInfo _ | exact a0b.underlying _ | exact a0b.sizeOf _ | exact a0b.isAgg _ | exact a0b.asIntOf _ | exact a0b.asBool _ | exact a0b.asAgg _ | exact a0b.asAddr _ | exact a0b.sureAddr _ | exact a0b.part _ _ _ | exact a0b.extract _ _ | exact a0b.field _ _ _ | exact a0b.index _ _ _ | exact a0b.indexAt _ _ _ | exact a0b.sliceBound _ _ _ | (refine a0b.bind ?_ fun _=>?_) | (dsimp only;split) | split | dsimp only)
theorem a0b.slice(t:TypeId)(x:Value)(lo hi mx:Option Value):a0b P (Instr.slice t x lo hi mx):=by
 unfold Instr.slice
 repeat' (first | exact a0b.pure _ | exact(a0s.stuck _).steady | exact(a0s.unsupported _).steady | exact(a0s.runtimePanic _).steady | exact(a0s.boundsPanic _ _ _ _).steady | exact(a0s.stuck _).a1s.steady | exact a0b.program | exact a0b.typeInfo _ | exact a0b.underlying _ | exact a0b.sizeOf _ | exact a0b.isAgg _ | exact a0b.asIntOf _ | exact a0b.asBool _ | exact a0b.asAgg _ | exact a0b.asAddr _ | exact a0b.sureAddr _ | exact a0b.part _ _ _ | exact a0b.extract _ _ | exact a0b.field _ _ _ | exact a0b.index _ _ _ | exact a0b.indexAt _ _ _ | exact a0b.sliceBound _ _ _ | exact a0b.sliceBounds _ _ _ _ _ _ | (refine a0b.bind ?_ fun _=>?_) | (dsimp only;split) | split | dsimp only)
theorem a0b.sliceAt(t:TypeId)(x:Value)(lo hi mx:Option Value):a0b P (Instr.sliceAt t x lo hi mx):=by
 unfold Instr.sliceAt
 repeat' (first | exact a0b.pure _ | exact(a0s.stuck _).steady | exact(a0s.unsupported _).steady | exact(a0s.runtimePanic _).steady | exact(a0s.boundsPanic _ _ _ _).steady | exact(a0s.stuck _).a1s.steady | exact a0b.program | exact a0b.typeInfo _ | exact a0b.underlying _ | exact a0b.sizeOf _ | exact a0b.isAgg _ | exact a0b.asIntOf _ | exact a0b.asBool _ | exact a0b.asAgg _ | exact a0b.asAddr _ | exact a0b.sureAddr _ | exact a0b.part _ _ _ | exact a0b.extract _ _ | exact a0b.field _ _ _ | exact a0b.index _ _ _ | exact a0b.indexAt _ _ _ | exact a0b.sliceBound _ _ _ | exact a0b.sliceBounds _ _ _ _ _ _ | exact a0b.slice _ _ _ _ _ | (refine a0b.bind ?_ fun _=>?_) | (dsimp only;split) | split | dsimp only)
theorem a0b.makeInterface(t:TypeId)(x:Value):a0b P (Instr.makeInterface t x):=by
 unfold Instr.makeInterface
 repeat' (first | exact a0b.pure _ | exact(a0s.stuck _).steady | exact(a0s.unsupported _).steady | exact(a0s.runtimePanic _).steady | exact(a0s.boundsPanic _ _ _ _).steady | exact(a0s.stuck _).a1s.steady | exact a0b.program | exact a0b.typeInfo _ | exact a0b.underlying _ | exact a0b.sizeOf _ | exact a0b.isAgg _ | exact a0b.asIntOf _ | exact a0b.asBool _ | exact a0b.asAgg _ | exact a0b.asAddr _ | exact a0b.sureAddr _ | exact a0b.part _ _ _ | exact a0b.extract _ _ | exact a0b.field _ _ _ | exact a0b.index _ _ _ | exact a0b.indexAt _ _ _ | exact a0b.sliceBound _ _ _ | exact a0b.sliceBounds _ _ _ _ _ _ | exact a0b.slice _ _ _ _ _ | exact a0b.sliceAt _ _ _ _ _ | (refine a0b.bind ?_ fun _=>?_) | (dsimp only;split) | split | dsimp only)
theorem a0b.arrayAt(t:TypeId)(x:Value):a0b P (Instr.arrayAt t x):=by
 unfold Instr.arrayAt
 repeat' (first | exact a0b.pure _ | exact(a0s.stuck _).steady | exact(a0s.unsupported _).steady | exact(a0s.runtimePanic _).steady | exact(a0s.boundsPanic _ _ _ _).steady | exact(a0s.stuck _).a1s.steady | exact a0b.program | exact a0b.typeInfo _ | exact a0b.underlying _ | exact a0b.sizeOf _ | exact a0b.isAgg _ | exact a0b.asIntOf _ | exact a0b.asBool _ | exact a0b.asAgg _ | exact a0b.asAddr _ | exact a0b.sureAddr _ | exact a0b.part _ _ _ | exact a0b.extract _ _ | exact a0b.field _ _ _ | exact a0b.index _ _ _ | exact a0b.indexAt _ _ _ | exact a0b.sliceBound _ _ _ | exact a0b.sliceBounds _ _ _ _ _ _ | exact a0b.slice _ _ _ _ _ | exact a0b.sliceAt _ _ _ _ _ | exact a0b.makeInterface _ _ | (refine a0b.bind ?_ fun _=>?_) | (dsimp only;split) | split | dsimp only)
theorem a0b.unary(o:UnOp)(x:Value):a0b P (Op.unary o x):=by
 unfold Op.unary Op.intArith Op.intBits
 repeat' (first | exact a0b.pure _ | exact(a0s.stuck _).steady | exact(a0s.unsupported _).steady | exact(a0s.runtimePanic _).steady | exact(a0s.boundsPanic _ _ _ _).steady | exact(a0s.stuck _).a1s.steady | exact a0b.program | exact a0b.typeInfo _ | exact a0b.underlying _ | exact a0b.sizeOf _ | exact a0b.isAgg _ | exact a0b.asIntOf _ | exact a0b.asBool _ | exact a0b.asAgg _ | exact a0b.asAddr _ | exact a0b.sureAddr _ | exact a0b.part _ _ _ | exact a0b.extract _ _ | exact a0b.field _ _ _ | exact a0b.index _ _ _ | exact a0b.indexAt _ _ _ | exact a0b.sliceBound _ _ _ | exact a0b.sliceBounds _ _ _ _ _ _ | exact a0b.slice _ _ _ _ _ | exact a0b.sliceAt _ _ _ _ _ | exact a0b.makeInterface _ _ | exact a0b.arrayAt _ _ | (refine a0b.bind ?_ fun _=>?_) | (dsimp only;split) | split | dsimp only)
theorem a0b.intArith(o:BinOp)(k:IntKind)(x y:Int):a0b P (Op.intArith o k x y):=by
 unfold Op.intArith
 repeat' (first | exact a0b.pure _ | exact(a0s.stuck _).steady | exact(a0s.unsupported _).steady | exact(a0s.runtimePanic _).steady | exact(a0s.boundsPanic _ _ _ _).steady | exact(a0s.stuck _).a1s.steady | exact a0b.program | exact a0b.typeInfo _ | exact a0b.underlying _ | exact a0b.sizeOf _ | exact a0b.isAgg _ | exact a0b.asIntOf _ | exact a0b.asBool _ | exact a0b.asAgg _ | exact a0b.asAddr _ | exact a0b.sureAddr _ | exact a0b.part _ _ _ | exact a0b.extract _ _ | exact a0b.field _ _ _ | exact a0b.index _ _ _ | exact a0b.indexAt _ _ _ | exact a0b.sliceBound _ _ _ | exact a0b.sliceBounds _ _ _ _ _ _ | exact a0b.slice _ _ _ _ _ | exact a0b.sliceAt _ _ _ _ _ | exact a0b.makeInterface _ _ | exact a0b.arrayAt _ _ | exact a0b.unary _ _ | (refine a0b.bind ?_ fun _=>?_) | (dsimp only;split) | split | dsimp only)
theorem a0b.intBits(o:BinOp)(k:IntKind)(x y:Int):a0b P (Op.intBits o k x y):=by
 unfold Op.intBits
 repeat' (first | exact a0b.pure _ | exact(a0s.stuck _).steady | exact(a0s.unsupported _).steady | exact(a0s.runtimePanic _).steady | exact(a0s.boundsPanic _ _ _ _).steady | exact(a0s.stuck _).a1s.steady | exact a0b.program | exact a0b.typeInfo _ | exact a0b.underlying _ | exact a0b.sizeOf _ | exact a0b.isAgg _ | exact a0b.asIntOf _ | exact a0b.asBool _ | exact a0b.asAgg _ | exact a0b.asAddr _ | exact a0b.sureAddr _ | exact a0b.part _ _ _ | exact a0b.extract _ _ | exact a0b.field _ _ _ | exact a0b.index _ _ _ | exact a0b.indexAt _ _ _ | exact a0b.sliceBound _ _ _ | exact a0b.sliceBounds _ _ _ _ _ _ | exact a0b.slice _ _ _ _ _ | exact a0b.sliceAt _ _ _ _ _ | exact a0b.makeInterface _ _ | exact a0b.arrayAt _ _ | exact a0b.unary _ _ | exact a0b.intArith _ _ _ _ | (refine a0b.bind ?_ fun _=>?_) | (dsimp only;split) | split | dsimp only)
theorem a0b.intCmp(o:BinOp)(x y:Int):a0b P (Op.intCmp o x y):=by
 unfold Op.intCmp
 repeat' (first | exact a0b.pure _ | exact(a0s.stuck _).steady | exact(a0s.unsupported _).steady | exact(a0s.runtimePanic _).steady | exact(a0s.boundsPanic _ _ _ _).steady | exact(a0s.stuck _).a1s.steady | exact a0b.program | exact a0b.typeInfo _ | exact a0b.underlying _ | exact a0b.sizeOf _ | exact a0b.isAgg _ | exact a0b.asIntOf _ | exact a0b.asBool _ | exact a0b.asAgg _ | exact a0b.asAddr _ | exact a0b.sureAddr _ | exact a0b.part _ _ _ | exact a0b.extract _ _ | exact a0b.field _ _ _ | exact a0b.index _ _ _ | exact a0b.indexAt _ _ _ | exact a0b.sliceBound _ _ _ | exact a0b.sliceBounds _ _ _ _ _ _ | exact a0b.slice _ _ _ _ _ | exact a0b.sliceAt _ _ _ _ _ | exact a0b.makeInterface _ _ | exact a0b.arrayAt _ _ | exact a0b.unary _ _ | exact a0b.intArith _ _ _ _ | exact a0b.intBits _ _ _ _ | (refine a0b.bind ?_ fun _=>?_) | (dsimp only;split) | split | dsimp only)
theorem a0b.intDiv(o:BinOp)(k:IntKind)(x y:Int):a0b P (Op.intDiv o k x y):=by
 unfold Op.intDiv
 repeat' (first | exact a0b.pure _ | exact(a0s.stuck _).steady | exact(a0s.unsupported _).steady | exact(a0s.runtimePanic _).steady | exact(a0s.boundsPanic _ _ _ _).steady | exact(a0s.stuck _).a1s.steady | exact a0b.program | exact a0b.typeInfo _ | exact a0b.underlying _ | exact a0b.sizeOf _ | exact a0b.isAgg _ | exact a0b.asIntOf _ | exact a0b.asBool _ | exact a0b.asAgg _ | exact a0b.asAddr _ | exact a0b.sureAddr _ | exact a0b.part _ _ _ | exact a0b.extract _ _ | exact a0b.field _ _ _ | exact a0b.index _ _ _ | exact a0b.indexAt _ _ _ | exact a0b.sliceBound _ _ _ | exact a0b.sliceBounds _ _ _ _ _ _ | exact a0b.slice _ _ _ _ _ | exact a0b.sliceAt _ _ _ _ _ | exact a0b.makeInterface _ _ | exact a0b.arrayAt _ _ | exact a0b.unary _ _ | exact a0b.intArith _ _ _ _ | exact a0b.intBits _ _ _ _ | exact a0b.intCmp _ _ _ | (refine a0b.bind ?_ fun _=>?_) | (dsimp only;split) | split | dsimp only)
theorem a0b.shift(o:BinOp)(k:IntKind)(x:Int)(j:IntKind)(y:Int):a0b P (Op.shift o k x j y):=by
 unfold Op.shift
 repeat' (first | exact a0b.pure _ | exact(a0s.stuck _).steady | exact(a0s.unsupported _).steady | exact(a0s.runtimePanic _).steady | exact(a0s.boundsPanic _ _ _ _).steady | exact(a0s.stuck _).a1s.steady | exact a0b.program | exact a0b.typeInfo _ | exact a0b.underlying _ | exact a0b.sizeOf _ | exact a0b.isAgg _ | exact a0b.asIntOf _ | exact a0b.asBool _ | exact a0b.asAgg _ | exact a0b.asAddr _ | exact a0b.sureAddr _ | exact a0b.part _ _ _ | exact a0b.extract _ _ | exact a0b.field _ _ _ | exact a0b.index _ _ _ | exact a0b.indexAt _ _ _ | exact a0b.sliceBound _ _ _ | exact a0b.sliceBounds _ _ _ _ _ _ | exact a0b.slice _ _ _ _ _ | exact a0b.sliceAt _ _ _ _ _ | exact a0b.makeInterface _ _ | exact a0b.arrayAt _ _ | exact a0b.unary _ _ | exact a0b.intArith _ _ _ _ | exact a0b.intBits _ _ _ _ | exact a0b.intCmp _ _ _ | exact a0b.intDiv _ _ _ _ | (refine a0b.bind ?_ fun _=>?_) | (dsimp only;split) | split | dsimp only)
theorem a0b.stringOp(o:BinOp)(x y:ByteArray):a0b P (Op.stringOp o x y):=by
 unfold Op.stringOp
 repeat' (first | exact a0b.pure _ | exact(a0s.stuck _).steady | exact(a0s.unsupported _).steady | exact(a0s.runtimePanic _).steady | exact(a0s.boundsPanic _ _ _ _).steady | exact(a0s.stuck _).a1s.steady | exact a0b.program | exact a0b.typeInfo _ | exact a0b.underlying _ | exact a0b.sizeOf _ | exact a0b.isAgg _ | exact a0b.asIntOf _ | exact a0b.asBool _ | exact a0b.asAgg _ | exact a0b.asAddr _ | exact a0b.sureAddr _ | exact a0b.part _ _ _ | exact a0b.extract _ _ | exact a0b.field _ _ _ | exact a0b.index _ _ _ | exact a0b.indexAt _ _ _ | exact a0b.sliceBound _ _ _ | exact a0b.sliceBounds _ _ _ _ _ _ | exact a0b.slice _ _ _ _ _ | exact a0b.sliceAt _ _ _ _ _ | exact a0b.makeInterface _ _ | exact a0b.arrayAt _ _ | exact a0b.unary _ _ | exact a0b.intArith _ _ _ _ | exact a0b.intBits _ _ _ _ | exact a0b.intCmp _ _ _ | exact a0b.intDiv _ _ _ _ | exact a0b.shift _ _ _ _ _ | (refine a0b.bind ?_ fun _=>?_) | (dsimp only;split) | split | dsimp only)
end
/-! ### The classes -/
def dry:Value→Bool
 | .int .. | .bool _ | .string _ | .slice ..=>true
 | _=>false
def b4w(P:Program)(s f:Nat):Bool:=
 match P.underlying s with
 | some (.struct fs)=>match fs[f]? with
   | some fd=>match P.info? fd.type with
     | some i=>i.size !=0
     | none=>false
   | none=>false
 | _=>false
def b2h(P:Program)(t:TypeId):Bool:=match P.underlying t with | some (.int _)=>true | _=>false
def c6n(P:Program)(t:TypeId):Bool:=match P.underlying t with | some .string=>true | _=>false
def b5d(P:Program)(t:TypeId):Bool:=match P.underlying t with | some (.slice _)=>true | _=>false
def a3s(P:Program):Op→Nat
 | .move _ | .assign _ | .pick .. | .extract .. | .field .. | .index .. | .indexAddr .. | .slice .. | .makeInterface .. | .sliceToArrayPointer .. | .unOp ..=>0
 | .fieldAddr s _ f=>if b4w P s f then 0 else 3
 | .nilCheck _=>1
 | .binOp ..=>1
 | .convert s d _=>if b2h P s && b2h P d then 1 else if b5d P s && c6n P d then 2 else 3
 | .load ..=>2
 | .call {callee:=.builtin b,args,..}=>
   match b with
   | .len=>1
   | .min | .max=>if args.size=2 then 1 else 3
   | _=>3
 | _=>3
def a8r(ρ:Operand→Value):Op→Bool
 | .nilCheck x=>match ρ x with | .pointer _=>true | v=>dry v
 | .binOp op _ x y _=>
   (match op,ρ x,ρ y with
   | .eql,.pointer none,.pointer _ | .neq,.pointer none,.pointer _ | .eql,.pointer _,.pointer none | .neq,.pointer _,.pointer none=>true
   | _,a,b=>dry a && dry b)
 | .convert _ _ x=>dry (ρ x)
 | .call c=>c.args.toList.all fun x=>dry (ρ x)
 | _=>true
section
variable {P:Program}
theorem d0c{s f:Nat}(hs:b4w P s f=true)(v:Value):a0b P (Instr.fieldAt s v f):=by
 unfold b4w at hs;intro w r w' e;unfold Instr.fieldAt at e ⊢
 cases hu:P.underlying s with
 | none=>simp [hu]at hs
 | some d=>
   simp only [hu]at hs
   cases d <;> simp only [Bool.false_eq_true]at hs
   case struct fs=>
   cases hf:fs[f]? with
   | none=>simp [hf]at hs
   | some fd=>
     simp only [hf]at hs
     cases hi:P.info? fd.type with
     | none=>simp [hi]at hs
     | some i=>
       simp only [hi,bne_iff_ne,ne_eq]at hs
       have key:a0b P (do
        let a←Instr.sureAddr v
        pure (Value.pointer (some (←fieldPlace a fd))):Sem Value):=by
        refine(a0b.sureAddr v).bind fun a=>?_
        refine a0b.bind ?_ fun _=>a0b.pure _
        have e2:∀w,(fieldPlace a fd).run P w= .ok (a.add fd.offset) w:=by
         intro w;simp [fieldPlace,Go.sizeOf,typeInfo,hi,hs]
        intro w r w' h;rw [e2]at h;simp only [Result.ok.injEq]at h;obtain⟨rfl,rfl⟩:=h;exact⟨rfl,fun w2=>e2 w2⟩
       have hun:∀w,(underlying s).run P w= .ok (.struct fs) w:=by intro w;simp [underlying,hu]
       simp only [Sem.run_bind,hun,Result.andThen_ok,hf]at e ⊢;have:=key w r w' (by simpa only [Sem.run_bind]using e);refine⟨this.1,fun w2=>?_⟩;simpa only [Sem.run_bind]using this.2 w2
theorem c1x(t:TypeId){x y:Value}(hx:dry x=true)(hy:dry y=true):a0b P (Op.equal t x y):=by
 unfold Op.equal Op.maxDepth;unfold Op.equalIn;refine(a0b.underlying t).bind fun d=>?_
 cases x <;> simp only [dry,Bool.false_eq_true]at hx <;> cases y <;> simp only [dry,Bool.false_eq_true]at hy <;>
  (cases d <;> (dsimp only;repeat' (first | exact a0b.pure _ | exact(a0s.stuck _).steady | exact(a0s.unsupported _).steady | contradiction | split)))
theorem b3x(t:TypeId)(a:Option Addr):a0b P (Op.equal t (.pointer none) (.pointer a)):=by
 unfold Op.equal Op.maxDepth;unfold Op.equalIn;refine(a0b.underlying t).bind fun d=>?_
 cases d <;> (dsimp only [samePointer];repeat' (first | exact a0b.pure _ | exact(a0s.stuck _).steady | exact(a0s.unsupported _).steady | contradiction | split))
theorem b2q(t:TypeId)(a:Option Addr):a0b P (Op.equal t (.pointer a) (.pointer none)):=by
 unfold Op.equal Op.maxDepth;unfold Op.equalIn;refine(a0b.underlying t).bind fun d=>?_
 cases a <;> cases d <;> (dsimp only [samePointer];repeat' (first | exact a0b.pure _ | exact(a0s.stuck _).steady | exact(a0s.unsupported _).steady | contradiction | split))
theorem b6y(op:BinOp)(t:TypeId)(x y:Operand){a b:Value}(ha:dry a=true):a0b P (eqGuard op t x y a b):=by
 unfold eqGuard
 cases a <;> simp only [dry,Bool.false_eq_true]at ha <;>
  (dsimp only;repeat' (first | exact a0b.pure _ | split))
theorem a5t(op:BinOp)(t:TypeId)(x y:Operand)(a:Option Addr)(b:Value):a0b P (eqGuard op t x y (.pointer a) b):=by
 unfold eqGuard
 dsimp only
 repeat' (first | exact a0b.pure _ | split)
theorem c3m(op:BinOp)(t:TypeId){a b:Value}(ha:dry a=true)(hb:dry b=true):a0b P (binOp op t a b):=by
 cases a <;> simp only [dry,Bool.false_eq_true]at ha <;> cases b <;> simp only [dry,Bool.false_eq_true]at hb <;> cases op <;>
  (dsimp only [binOp]
   repeat' (first
    | exact a0b.pure _ | exact(a0s.stuck _).steady | exact(a0s.unsupported _).steady
    | exact a0b.shift _ _ _ _ _ | exact a0b.intArith _ _ _ _ | exact a0b.intBits _ _ _ _ | exact a0b.intCmp _ _ _ | exact a0b.intDiv _ _ _ _ | exact a0b.stringOp _ _ _
    | exact(c1x _ rfl rfl).bind fun _=>a0b.pure _
    | split))
theorem st_len{args:Array Value}(h:args.toList.all dry=true)(ts:Array TypeId)(t:TypeId):a0b P (Builtin.len_ ts t args):=by
 unfold Builtin.len_
 cases h0:ts[0]? <;> cases h1:args[0]? <;> dsimp only
 case some.some t x=>
  have hx:dry x=true:=by
   have:=List.all_eq_true.1 h x (by
    have:args.toList[0]?=some x:=by simpa using h1
    exact List.mem_of_getElem? this)
   exact this
  refine(a0b.underlying t).bind fun d=>?_
  cases x <;> simp only [dry,Bool.false_eq_true]at hx <;> cases d <;> dsimp only <;>
   repeat' (first | exact a0b.pure _ | exact(a0s.stuck _).steady | exact a0b.underlying _ | contradiction | (refine a0b.bind ?_ fun _=>?_) | split)
 all_goals exact(a0s.stuck _).steady
theorem e7k{x y:Value}(hx:dry x=true)(hy:dry y=true):a0b P (Builtin.min2 x y):=by
 cases x <;> simp only [dry,Bool.false_eq_true]at hx <;> cases y <;> simp only [dry,Bool.false_eq_true]at hy <;> dsimp only [Builtin.min2]
 all_goals repeat' (first | exact a0b.pure _ | exact(a0s.stuck _).steady | exact a0b.stringOp _ _ _ | exact a0b.asBool _ | (refine a0b.bind ?_ fun _=>?_))
theorem e4q{x y:Value}(hx:dry x=true)(hy:dry y=true):a0b P (Builtin.max2 x y):=by
 cases x <;> simp only [dry,Bool.false_eq_true]at hx <;> cases y <;> simp only [dry,Bool.false_eq_true]at hy <;> dsimp only [Builtin.max2]
 all_goals repeat' (first | exact a0b.pure _ | exact(a0s.stuck _).steady | exact a0b.stringOp _ _ _ | exact a0b.asBool _ | (refine a0b.bind ?_ fun _=>?_))
theorem c5u{α:Type}{a:Array α}(h:a.size=2):∃x y,a= #[x,y]:=by
 obtain⟨l⟩:=a
 match l,h with
 | [x,y],_=>exact⟨x,y,rfl⟩
theorem b7d{s d:TypeId}(hs:b2h P s=true)(hd:b2h P d=true){x:Value}(hx:dry x=true):a0b P (convert s d x):=by
 unfold b2h at hs hd
 cases h1:P.underlying s with
 | none=>simp [h1]at hs
 | some ds=>
   cases h2:P.underlying d with
   | none=>simp [h2]at hd
   | some dd=>
     rw [h1]at hs;rw [h2]at hd
     cases ds <;> simp only [Bool.false_eq_true]at hs
     cases dd <;> simp only [Bool.false_eq_true]at hd
     have e1:∀w,(underlying s).run P w= .ok (.int _) w:=fun w=>by simp [underlying,h1];rfl
     have e2:∀w,(underlying d).run P w= .ok (.int _) w:=fun w=>by simp [underlying,h2];rfl
     intro w r w' e;unfold convert at e ⊢;simp only [Sem.run_bind,e1,e2,Result.andThen_ok]at e ⊢
     cases x <;> simp only [dry,Bool.false_eq_true]at hx <;> simp [Conv.intToInt]at e ⊢
     obtain⟨rfl,rfl⟩:=e;exact⟨rfl,rfl⟩
def d1l(P:Program)(s:Sem Next):Prop:=∀w r w',s.run P w= .ok r w'→w'=w∧∃v,r= .value v∧∀w2,s.run P w2= .ok (.value v) w2
theorem a8z(v:Value):d1l P (pure (Next.value v)):=by
 intro w r w' h;simp only [Sem.run_pure,Result.ok.injEq]at h;obtain⟨rfl,rfl⟩:=h;exact⟨rfl,_,rfl,fun _=>rfl⟩
theorem a3k{s:Sem Value}(h:a0b P s):d1l P (do pure (Next.value (←s))):=by
 intro w r w' e;simp only [Sem.run_bind]at e
 cases hs:s.run P w with
 | halt x w1=>rw [hs]at e;simp at e
 | ok a w1=>
   rw [hs]at e;simp only [Result.andThen_ok,Sem.run_pure,Result.ok.injEq]at e;obtain⟨rfl,rfl⟩:=e;obtain⟨rfl,h2⟩:=h _ _ _ hs;exact⟨rfl,a,rfl,fun w2=>by simp only [Sem.run_bind,h2 w2,Result.andThen_ok,Sem.run_pure]⟩
theorem d5h{α:Type}{s:Sem α}{f:α→Sem Next}(h:a0b P s)(hf:∀a,d1l P (f a)):d1l P (s >>= f):=by
 intro w r w' e;simp only [Sem.run_bind]at e
 cases hs:s.run P w with
 | halt x w1=>rw [hs]at e;simp at e
 | ok a w1=>
   rw [hs]at e;simp only [Result.andThen_ok]at e;obtain⟨rfl,h2⟩:=h _ _ _ hs;obtain⟨rfl,v,rfl,h3⟩:=hf _ _ _ _ e;exact⟨rfl,v,rfl,fun w2=>by simp only [Sem.run_bind,h2 w2,Result.andThen_ok];exact h3 w2⟩
theorem a0s.free{s:Sem Next}(h:a0s P s):d1l P s:=fun w r w' e=>(h w r w' e).elim
theorem e5q{op:Op}(h:a3s P op=0)(ρ:Operand→Value)(dst:Option Tmp)(t:TypeId)(pos:String)(af:Array Edge)(g:Option (Nat × Bool)) :
 d1l P (execOp ρ ⟨dst,op,t,pos,af,g⟩):=by
 cases op <;> simp only [a3s]at h <;> first
  | exact absurd h (by decide)
  | (exfalso;revert h;repeat' split
     all_goals (simp;done))
  | skip
 case fieldAddr s x f=>
  by_cases hs:b4w P s f=true
  ·exact a3k (d0c hs _)
  ·simp [hs]at h
 case move=>exact a8z _
 case assign=>exact a8z _
 case extract=>exact a3k (a0b.extract _ _)
 case field=>exact a3k (a0b.field _ _ _)
 case index=>exact a3k (a0b.index _ _ _)
 case indexAddr=>exact a3k (a0b.indexAt _ _ _)
 case slice=>exact a3k (a0b.sliceAt _ _ _ _ _)
 case makeInterface=>exact a3k (a0b.makeInterface _ _)
 case sliceToArrayPointer=>exact a3k (a0b.arrayAt _ _)
 case unOp=>exact a3k (a0b.unary _ _)
 case pick c x y=>exact d5h (a0b.asBool _) fun b=>a8z _
 case call c=>
  exfalso
  obtain⟨callee,args,ts⟩:=c
  cases callee with
  | value f=>simp at h
  | invoke r m=>simp at h
  | builtin b=>
    cases b <;> simp only at h <;> first
     | exact absurd h (by decide)
     | (revert h;split <;> simp)
theorem d0d(ρ:Operand→Value)(b:Builtin)(args:Array Operand)(ts:Array TypeId)(t:TypeId) :
 resolve ρ {callee:=.builtin b,args,argTypes:=ts} t=pure {target:=.builtin b ts t (args.map fun | .const _=>true | _=>false),args:=args.map ρ}:=rfl
theorem e6z{op:Op}(h:a3s P op=1){ρ:Operand→Value}(hf:a8r ρ op=true)(dst:Option Tmp)(t:TypeId)(pos:String)(af:Array Edge)(g:Option (Nat × Bool)) :
 d1l P (execOp ρ ⟨dst,op,t,pos,af,g⟩):=by
 cases op <;> simp only [a3s]at h <;> first
  | exact absurd h (by decide)
  | skip
 case fieldAddr s x f=>exfalso;revert h;split <;> simp
 case nilCheck x=>
  simp only [a8r]at hf;unfold execOp
  dsimp only
  cases hx:ρ x <;> simp only [hx,dry,Bool.false_eq_true]at hf
  case pointer a=>cases a <;> first | exact a8z _ | exact(a0s.runtimePanic _).free
  all_goals exact a8z _
 case binOp o t x y t2=>
  refine a3k ?_;simp only [a8r]at hf;split at hf
  ·rename_i h1 h2;rw [h1,h2];exact(a5t _ _ _ _ _ _).bind fun _=>(b3x _ _).bind fun _=>a0b.pure _
  ·rename_i h1 h2;rw [h1,h2];exact(a5t _ _ _ _ _ _).bind fun _=>(b3x _ _).bind fun _=>a0b.pure _
  ·rename_i h1 h2;rw [h1,h2];exact(a5t _ _ _ _ _ _).bind fun _=>(b2q _ _).bind fun _=>a0b.pure _
  ·rename_i h1 h2;rw [h1,h2];exact(a5t _ _ _ _ _ _).bind fun _=>(b2q _ _).bind fun _=>a0b.pure _
  ·simp only [Bool.and_eq_true]at hf;exact(b6y _ _ _ _ hf.1).bind fun _=>c3m _ _ hf.1 hf.2
 case convert s d x=>
  refine a3k ?_;simp only [a8r]at hf;by_cases hs:(b2h P s && b2h P d)=true
  ·simp only [Bool.and_eq_true]at hs;exact b7d hs.1 hs.2 hf
  ·exfalso;revert h;rw [if_neg hs];split <;> simp
 case call c=>
  obtain⟨callee,args,ts⟩:=c
  cases callee with
  | value f=>simp at h
  | invoke r m=>simp at h
  | builtin b=>
    simp only [a8r]at hf;have hall:(args.map ρ).toList.all dry=true:=by
     rw [Array.toList_map,List.all_map];exact hf
    unfold execOp;simp only [d0d,pure_bind];unfold invoke
    dsimp only
    cases b <;> simp only at h <;> first
     | exact absurd h (by decide)
     | exact a3k (st_len hall _ _)
     | skip
    all_goals
     have hsz:args.size=2:=by
      by_cases hsz:args.size=2
      ·exact hsz
      ·simp [hsz]at h
     obtain⟨x,y,rfl⟩:=c5u hsz;simp only [List.map_toArray,List.map_cons,List.map_nil,List.all_cons,List.all_nil,Bool.and_true,Bool.and_eq_true]at hall;refine a3k ?_;first
      | (unfold Builtin.max_;simp only [List.map_toArray,List.map_cons,List.map_nil,List.foldlM_cons,List.foldlM_nil];exact(e4q hall.1 hall.2).bind fun _=>a0b.pure _)
      | (unfold Builtin.min_;simp only [List.map_toArray,List.map_cons,List.map_nil,List.foldlM_cons,List.foldlM_nil];exact(e7k hall.1 hall.2).bind fun _=>a0b.pure _)
/-! ### Class 2:it reads -/
theorem Reads.load(a:Addr)(m:Go.Mode):Reads P (Go.load a m):=by
 intro w r w' h;simp only [run_load]at h
 repeat' split at h
 all_goals simp at h
 all_goals exact h.2.symm
theorem Reads.loadCellsFrom(a:Addr):∀(n i:Nat) (acc:Array Value),Reads P (Go.loadCellsFrom a i n acc)
 | 0,_,_=>(a0b.pure _).reads
 | n + 1,i,acc=>by
   unfold Go.loadCellsFrom;exact(Reads.load _ _).bind fun _=>Reads.loadCellsFrom a n _ _
theorem Reads.loadCells(a:Addr)(n:Nat):Reads P (Go.loadCells a n):=Reads.loadCellsFrom a n 0 #[]
theorem Reads.loadVar(t:TypeId)(a:Addr):Reads P (Go.loadVar t a):=by
 unfold Go.loadVar;refine(a0b.isAgg t).reads.bind fun b=>?_
 split
 ·exact(a0b.sizeOf t).reads.bind fun n=>(Reads.loadCells _ _).bind fun _=>(a0b.pure _).reads
 ·exact Reads.load _ _
theorem Reads.b8k{α β:Type}(l:List α)(f:α→β→Sem (ForInStep β))(hf:∀a b,Reads P (f a b)):∀b,Reads P (forIn l b f):=by
 induction l with
 | nil=>intro b;simp only [List.forIn_nil];exact(a0b.pure _).reads
 | cons x l ih=>
   intro b;simp only [List.forIn_cons];refine(hf _ _).bind fun s=>?_
   cases s with
   | done b=>exact(a0b.pure _).reads
   | yield b=>exact ih b
theorem Reads.bytesToString(v:Value):Reads P (Conv.bytesToString v):=by
 unfold Conv.bytesToString
 cases v <;> dsimp only <;> try exact(a0s.stuck _).steady.reads
 case slice a len cap=>
  cases a with
  | none=>exact(a0b.pure _).reads
  | some a=>
    dsimp only
    refine(Reads.loadCells _ _).bind fun cs=>?_
    refine Reads.bind ?_ fun _=>(a0b.pure _).reads
    rw [←Array.forIn_toList];refine Reads.b8k _ _ (fun c b=>?_) _;split
    ·exact(a0b.pure _).reads
    ·exact(a0s.stuck _).steady.reads
theorem Reads.runesToString(v:Value):Reads P (Conv.runesToString v):=by
 unfold Conv.runesToString
 cases v <;> dsimp only <;> try exact(a0s.stuck _).steady.reads
 case slice a len cap=>
  cases a with
  | none=>exact(a0b.pure _).reads
  | some a=>
    dsimp only
    refine(Reads.loadCells _ _).bind fun cs=>?_
    refine Reads.bind ?_ fun _=>(a0b.pure _).reads
    rw [←Array.forIn_toList];refine Reads.b8k _ _ (fun c b=>?_) _;split
    ·exact(a0b.pure _).reads
    ·exact(a0s.stuck _).steady.reads
def Peeks(P:Program)(s:Sem Next):Prop:=∀w r w',s.run P w= .ok r w'→w'=w∧∃v,r= .value v
theorem b7t{s:Sem Value}(h:Reads P s):Peeks P (do pure (Next.value (←s))):=by
 intro w r w' e;simp only [Sem.run_bind]at e
 cases hs:s.run P w with
 | halt x w1=>rw [hs]at e;simp at e
 | ok a w1=>
   rw [hs]at e;simp only [Result.andThen_ok,Sem.run_pure,Result.ok.injEq]at e;obtain⟨rfl,rfl⟩:=e;exact⟨h _ _ _ hs,a,rfl⟩
theorem Reads.c4r{s d:TypeId}(hs:b5d P s=true)(hd:c6n P d=true)(x:Value):Reads P (convert s d x):=by
 unfold b5d at hs;unfold c6n at hd
 cases h1:P.underlying s with
 | none=>simp [h1]at hs
 | some ds=>
   cases h2:P.underlying d with
   | none=>simp [h2]at hd
   | some dd=>
     rw [h1]at hs;rw [h2]at hd
     cases ds <;> simp only [Bool.false_eq_true]at hs
     cases dd <;> simp only [Bool.false_eq_true]at hd
     have e1:∀w,(underlying s).run P w= .ok (.slice _) w:=fun w=>by simp [underlying,h1];rfl
     have e2:∀w,(underlying d).run P w= .ok .string w:=fun w=>by simp [underlying,h2]
     intro w r w' e;unfold convert at e;simp only [Sem.run_bind,e1,e2,Result.andThen_ok]at e
     revert e
     have key:∀(y:Sem Value),Reads P y→(y.run P w= .ok r w'→w'=w):=fun y hy=>hy w r w'
     cases x <;> dsimp only
     case int k n=>exact key _ (by unfold Conv.intToString;exact(a0b.pure _).reads)
     case string=>exact key _ (a0b.pure _).reads
     all_goals
      refine key _ ((a0b.underlying _).reads.bind fun d=>?_);split
      ·exact Reads.bytesToString _
      ·exact Reads.runesToString _
      ·exact(a0s.stuck _).steady.reads
theorem c7m{op:Op}(h:a3s P op=2)(ρ:Operand→Value)(dst:Option Tmp)(t:TypeId)(pos:String)(af:Array Edge)(g:Option (Nat × Bool)) :
 Peeks P (execOp ρ ⟨dst,op,t,pos,af,g⟩):=by
 cases op <;> simp only [a3s]at h <;> first
  | exact absurd h (by decide)
  | skip
 case fieldAddr s x f=>exfalso;revert h;split <;> simp
 case load t x=>exact b7t ((a0b.sureAddr _).reads.bind fun a=>Reads.loadVar _ _)
 case convert s d x=>
  by_cases hs:(b2h P s && b2h P d)=true
  ·exfalso;revert h;rw [if_pos hs];simp
  ·rw [if_neg hs]at h;by_cases hs2:(b5d P s && c6n P d)=true
   ·simp only [Bool.and_eq_true]at hs2;exact b7t (Reads.c4r hs2.1 hs2.2 _)
   ·exfalso;revert h;rw [if_neg hs2];simp
 case call c=>
  exfalso
  obtain⟨callee,args,ts⟩:=c
  cases callee with
  | value f=>simp at h
  | invoke r m=>simp at h
  | builtin b=>
    cases b <;> simp only at h <;> first
     | exact absurd h (by decide)
     | (revert h;split <;> simp)
/-! ### The order -/
def c3f(P:Program)(ops:Array Oper)(x y:Oper):Bool:=
 x.apart ops y && (a3s P x.op≤1 || a3s P y.op≤1 || (a3s P x.op == 2 && a3s P y.op == 2))
def settled(P:Program)(ops:Array Oper):Bool:=
 ops.toList.all fun o=>a3s P o.op !=1 || (List.range ops.size).all fun k=>
  match (ops[k]?).bind (·.dst)with
  | some t=>!(o.looksAt ops).contains t || o.after.toList.any fun e=>Region.binds .any e && e.on == k
  | none=>true
def behind(i:Nat):List Oper→Array Bool→Array Bool
 | [],acc=>acc
 | o :: l,acc=>behind i l (acc.push (o.after.toList.any fun e=>Region.binds .any e && (e.on == i || acc.getD e.on false)))
def a4z(ops:Array Oper)(listed:Array Bool):Prop:=
 ∀k ok,ops[k]?=some ok→listed.getD k true=true→∀e∈ok.after,Region.binds .any e=true→listed.getD e.on true=true
def b9r(ops:Array Oper)(i:Nat)(o:Oper):Prop:=
 ∀listed,a4z ops listed→listed.getD i true=false→∃e∈o.after,Region.binds .any e=true∧listed.getD e.on true=false
theorem b1f{ops:Array Oper}{i:Nat}:∀(l:List Oper) (acc:Array Bool),(∀j,l[j]?=ops[acc.size + j]?)→(∀j oj,ops[j]?=some oj→acc.getD j false=true→b9r ops i oj)→
 ∀j oj,ops[j]?=some oj→(behind i l acc).getD j false=true→b9r ops i oj
 | [],_,_,h=>h
 | o :: l,acc,hl,h=>by
   unfold behind;refine b1f l _ (fun j=>by have:=hl (j + 1);simpa [Nat.add_assoc,Nat.add_comm 1 j]using this) ?_;intro j oj hj hg;rcases Nat.lt_trichotomy j acc.size with hlt | rfl | hgt
   ·refine h j oj hj ?_;simp [Array.getElem_push,hlt,Nat.lt_succ_of_lt hlt]at hg ⊢;exact hg
   ·have ho:ops[acc.size]?=some o:=by have:=hl 0;simpa using this.symm
    rw [hj]at ho
    cases ho
    simp only [Array.getD_eq_getD_getElem?,Array.getElem?_push_size,Option.getD_some]at hg;obtain⟨e,he,hb⟩:=List.any_eq_true.1 hg;simp only [Bool.and_eq_true,Bool.or_eq_true,beq_iff_eq]at hb;intro listed hc hi;refine⟨e,by simpa using he,hb.1,?_⟩;rcases hb.2 with hb2 | hb2
    ·rw [hb2];exact hi
    ·have hlt:e.on < acc.size:=by
      rcases Nat.lt_or_ge e.on acc.size with h' | h'
      ·exact h'
      ·simp [Array.getElem?_eq_none h']at hb2
     have hle:acc.size < ops.size:=(Array.getElem?_eq_some_iff.1 hj).1;have hoe:ops[e.on]?=some ops[e.on]:=Array.getElem?_eq_getElem (by omega);obtain⟨e2,he2,hb3,hg2⟩:=h e.on _ hoe (by simpa using hb2) listed hc hi
     cases hx:listed.getD e.on true with
     | false=>rfl
     | true=>rw [hc e.on _ hoe hx e2 he2 hb3]at hg2;cases hg2
   ·rw [Array.getD_eq_getD_getElem?,Array.getElem?_eq_none (by rw [Array.size_push];omega)]at hg
    cases hg
theorem d6w{listed:Array Bool}{k:Nat}(h:listed.getD k false=true):listed.getD k true=true:=by
 rcases Nat.lt_or_ge k listed.size with h' | h'
 ·simp [h']at h ⊢;exact h
 ·simp [Array.getElem?_eq_none h']at h
theorem a4z.set{ops:Array Oper}{listed:Array Bool}(h:a4z ops listed){j:Nat}(hj:j∈Region.ready .any ops listed):a4z ops (listed.setIfInBounds j true):=by
 intro k ok hk hl e he hb;have up:listed.getD e.on true=true→(listed.setIfInBounds j true).getD e.on true=true:=by
  intro hx;by_cases hje:j=e.on
  ·subst hje;rcases Nat.lt_or_ge e.on listed.size with h' | h' <;> simp [h']
  ·rw [getD_set_ne true hje];exact hx
 by_cases hjk:j=k
 ·subst hjk;obtain⟨_,o,ho,hall⟩:=mem_ready.1 hj;rw [hk]at ho
  cases ho
  exact up (d6w (hall e he hb))
 ·rw [getD_set_ne true hjk]at hl;exact up (h k ok hk hl e he hb)
theorem a4z.start(ops:Array Oper):a4z ops (Array.replicate ops.size false):=by
 intro k ok hk hl;have hlt:k < ops.size:=(Array.getElem?_eq_some_iff.1 hk).1;simp [hlt]at hl
theorem c6e{ops:Array Oper}{listed:Array Bool}(h:a4z ops listed){i j:Nat}{oj:Oper}(hoj:ops[j]?=some oj)(hj:j∈Region.ready .any ops listed)(hi:listed.getD i true=false):¬b9r ops i oj:=by
 intro hl;obtain⟨e,he,hb,hg⟩:=hl listed h hi;obtain⟨_,o,ho,hall⟩:=mem_ready.1 hj;rw [hoj]at ho
 cases ho
 rw [d6w (hall e he hb)]at hg
 cases hg
def b9f(P:Program)(ops:Array Oper)(listed:Array Bool)(i:Nat):Bool:=
 match ops[i]? with
 | none=>false
 | some oi=>(List.range ops.size).all fun j=>j == i || listed.getD j true ||
   match ops[j]? with
   | none=>true
   | some oj=>(behind i ops.toList #[]).getD j false || c3f P ops oi oj
def b2i(P:Program)(ops:Array Oper):Nat→Nat→Array Bool→Bool
 | 0,_,listed=>(Region.ready .any ops listed).isEmpty
 | fuel + 1,k,listed=>(Region.ready .any ops listed).contains k && b9f P ops listed k && b2i P ops fuel (k + 1) (listed.setIfInBounds k true)
def textB(P:Program)(ops:Array Oper):Bool:=
 Region.noSelect ops && settled P ops && b2i P ops ops.size 0 (Array.replicate ops.size false)
def b3l(P:Program)(ops:Array Oper)(a:Act):Bool:=
 ops.toList.all fun o=>a3s P o.op !=1 || !Region.wanted o (yielded ops a.tmps) || a8r a.eval o.op
section
variable {ops:Array Oper} {T:Exit→Act→World→Prop}
theorem b1e{o:Oper}{a:Act}(h:a3s P o.op≤1)(hf:a3s P o.op=1→a8r a.eval o.op=true):d1l P (execOp a.eval o):=by
 obtain⟨dst,op,t,pos,af,g⟩:=o
 dsimp only at h hf
 by_cases h0:a3s P op=0
 ·exact e5q h0 _ _ _ _ _ _
 ·have h1:a3s P op=1:=by omega
  exact e6z h1 (hf h1) _ _ _ _ _
theorem a2k(hT:∀e a w,T e a w→e= .normal):¬LetsOut T:=by
 rintro⟨a,w,h⟩;have:=hT _ _ _ h
 cases this
theorem a5j(hT:∀e a w,T e a w→e= .normal){i:Nat}{o:Oper}(ho:ops[i]?=some o){K:Act→World→Prop}{a:Act}{w:World}(h:wpOp P ops T i K a w) :
 ∃a1 w1,K a1 w1∧∀t,o.dst≠some t→a1.tmps[t]?=a.tmps[t]?:=by
 have d1h:∀(d:List Deferred) (v:Value) (t:Nat),o.dst≠some t→(({a with defers:=d}:Act).put o.dst v).tmps[t]?=a.tmps[t]?:=by
  intro d v t ht
  cases hd:o.dst with
  | none=>rfl
  | some x=>
    have hne:x≠t:=fun e=>ht (by rw [hd,e])
    simp [Act.put,Array.getElem?_setIfInBounds_ne hne]
 unfold wpOp at h;simp only [ho]at h;split at h
 ·rcases h with h | ⟨_,hl⟩
  case inr=>exact(a2k hT hl).elim
  unfold Oper.wp at h;generalize (execOp a.eval o).run P w=r at h
  cases r with
  | ok n w'=>
    cases n <;> simp only [Oper.upon]at h
    case value u=>exact⟨_,_,h,d1h a.defers u⟩
    case skip=>exact⟨_,_,h,d1h a.defers _⟩
    case defer d=>exact⟨_,_,h,d1h _ _⟩
    case enter f args=>
     obtain⟨e,w'',fr,hR,_⟩:=h []
     cases e with
     | returned v=>exact⟨_,_,hR,d1h a.defers v⟩
     | panicked c=>have:=hT _ _ _ hR;cases this
     | outgrown=>exact(a2k hT hR).elim
    case row row args=>
     obtain⟨v,w'',hR,_⟩:=h default [];exact⟨_,_,hR,d1h a.defers v⟩
  | halt x w'=>
    cases x <;> simp only [Oper.upon]at h
    case panic u=>have:=hT _ _ _ h;cases this
 ·exact⟨_,_,h,d1h a.defers _⟩
theorem b8q(hT:∀e a w,T e a w→e= .normal):∀(fuel:Nat) (listed:Array Bool) (a:Act) (w:World),wpAny P .any ops T fuel listed a w→
 ∃a' w',T .normal a' w'∧∀t,(∀j o,ops[j]?=some o→listed.getD j true=false→o.dst≠some t)→a'.tmps[t]?=a.tmps[t]?
 | 0,_,a,w,h=>⟨a,w,h.2,fun _ _=>rfl⟩
 | fuel + 1,listed,a,w,h=>by
   cases hr:Region.ready .any ops listed with
   | nil=>exact⟨a,w,h.1 hr,fun _ _=>rfl⟩
   | cons i rs=>
     have hi:i∈Region.ready .any ops listed:=by rw [hr];simp
     obtain⟨hun,oi,hoi,_⟩:=mem_ready.1 hi;obtain⟨a1,w1,h1,k1⟩:=a5j hT hoi (h.2 i hi);obtain⟨a2,w2,h2,k2⟩:=b8q hT fuel _ a1 w1 h1;refine⟨a2,w2,h2,fun t ht=>?_⟩;rw [k2 t fun j o hj hu=>?_,k1 t (ht i oi hoi hun)];refine ht j o hj ?_;by_cases hij:i=j
     ·subst hij;exact hun
     ·rw [getD_set_ne true hij]at hu;exact hu
theorem c1j{oj:Oper}{j:Nat}(hoj:ops[j]?=some oj)(hT:∀e a w,T e a w→e= .normal){a:Act}{w:World}{K:Act→World→Prop}(hf:Region.wanted oj (yielded ops a.tmps)=true→d1l P (execOp a.eval oj))
 (h:wpOp P ops T j K a w):∃v,Yields P ops oj v a∧K (a.put oj.dst v) w:=by
 unfold wpOp at h;simp only [hoj]at h;split at h
 ·rename_i hw
  rcases h with h | ⟨_,hl⟩
  case inr=>exact(a2k hT hl).elim
  unfold Oper.wp at h
  cases hr:(execOp a.eval oj).run P w with
  | ok n w'=>
    obtain⟨rfl,v,rfl,h2⟩:=hf hw _ _ _ hr;rw [hr]at h;exact⟨v,.inl ⟨hw,h2⟩,h⟩
  | halt x w'=>
    rw [hr]at h
    cases x <;> simp only [Oper.upon]at h
    case panic u=>have:=hT _ _ _ h;cases this
 ·rename_i hw
  exact⟨undef,.inr ⟨by simpa using hw,rfl⟩,h⟩
theorem d4j{oj:Oper}{j:Nat}(hoj:ops[j]?=some oj)(hT:∀e a w,T e a w→e= .normal){a:Act}{w:World}{K:Act→World→Prop}{v:Value}(hy:Yields P ops oj v a)
 (h:wpOp P ops T j K a w):K (a.put oj.dst v) w:=by
 unfold wpOp at h;simp only [hoj]at h;rcases hy with⟨hw,hv⟩ | ⟨hw,rfl⟩
 ·rw [if_pos hw]at h;rcases h with h | ⟨_,hl⟩
  case inr=>exact(a2k hT hl).elim
  unfold Oper.wp at h;rw [hv w]at h;exact h
 ·rw [if_neg (by simp [hw])]at h;exact h
theorem d0r{i j:Nat}{oi oj:Oper}{v:Value}(hoi:ops[i]?=some oi)(hoj:ops[j]?=some oj)(hap:oi.apart ops oj=true)
 (hsi:∀cs b,oi.op≠.select cs b) (hsj:∀cs b,oj.op≠.select cs b) (hT:∀e a w,T e a w→e= .normal) {K:Act→World→Prop} {a:Act} {w:World}
 (hy:Yields P ops oj v a) (h:wpOp P ops T i (fun a' w'=>wpOp P ops T j K a' w') a w):wpOp P ops T i K (a.put oj.dst v) w:=by
 obtain⟨h1,h2,h3⟩:=Oper.apart_spec hap;have d1h:∀(d:List Deferred) (u:Value),Yields P ops oj v (({a with defers:=d}:Act).put oi.dst u):=fun d u=>
  hy.of_same (execOp_put oj hsj {a with defers:=d} oi.dst u h1) (wanted_put oj {a with defers:=d} oi.dst u h1)
 have comm:∀(d:List Deferred) (u:Value),(({a with defers:=d}:Act).put oi.dst u).put oj.dst v=({a.put oj.dst v with defers:=d}:Act).put oi.dst u:=fun d u=>by
  rw [Act.put_comm _ u v h2]
  cases oj.dst <;> rfl
 have go:∀(d:List Deferred) (u:Value) (w':World),wpOp P ops T j K (({a with defers:=d}:Act).put oi.dst u) w'→K (({a.put oj.dst v with defers:=d}:Act).put oi.dst u) w':=fun d u w' hh=>by
  rw [←comm d u];exact d4j hoj hT (d1h d u) hh
 have hdef:(a.put oj.dst v).defers=a.defers:=by cases oj.dst <;> rfl
 have same:∀u,({a.put oj.dst v with defers:=a.defers}:Act).put oi.dst u=(a.put oj.dst v).put oi.dst u:=fun u=>by
  cases hd:oj.dst <;> rfl
 unfold wpOp at h;unfold wpOp;simp only [hoi]at h ⊢;rw [wanted_put oi a oj.dst v h3];split
 ·rename_i hw
  rw [if_pos hw]at h;rcases h with h | ⟨_,hl⟩
  case inr=>exact(a2k hT hl).elim
  refine .inl ?_;unfold Oper.wp at *;rw [execOp_put oi hsi a oj.dst v h3];generalize (execOp a.eval oi).run P w=r at *
  cases r with
  | ok n w'=>
    cases n <;> simp only [Oper.upon]at h ⊢
    case value u=>have:=go a.defers u w' h;rwa [same]at this
    case skip=>have:=go a.defers undef w' h;rwa [same]at this
    case defer d=>have:=go (d :: a.defers) undef w' h;rw [hdef];exact this
    case enter f args=>
     refine Calls.mono h fun e w'' he=>?_
     cases e with
     | returned u=>have:=go a.defers u w'' he;rwa [same]at this
     | panicked c=>have:=hT _ _ _ he;cases this
     | outgrown=>exact he
    case row row args=>
     refine Rows.mono h fun u w'' he=>?_
     have:=go a.defers u w'' he;rwa [same]at this
  | halt x w'=>
    cases x <;> simp only [Oper.upon]at h ⊢
    case panic u=>have:=hT _ _ _ h;cases this
 ·rename_i hw
  rw [if_neg hw]at h;have:=go a.defers undef w h;rwa [same]at this
theorem c9o{i j:Nat}{oi oj:Oper}(hoi:ops[i]?=some oi)(hoj:ops[j]?=some oj)(hap:oi.apart ops oj=true)
 (hsi:∀cs b,oi.op≠.select cs b) (hsj:∀cs b,oj.op≠.select cs b) (hT:∀e a w,T e a w→e= .normal) {K:Act→World→Prop} {a:Act} {w:World}
 (hi:a3s P oi.op=2) (hj:a3s P oj.op=2) (h:wpOp P ops T i (fun a' w'=>wpOp P ops T j K a' w') a w):wpOp P ops T j (fun a' w'=>wpOp P ops T i K a' w') a w:=by
 obtain⟨h1,h2,h3⟩:=Oper.apart_spec hap;have look:∀(k:Nat) (o:Oper) (b:Act) (u:World) (K:Act→World→Prop),ops[k]?=some o→a3s P o.op=2→wpOp P ops T k K b u→
  ∃v,K (b.put o.dst v) u∧((Region.wanted o (yielded ops b.tmps)=true∧(execOp b.eval o).run P u= .ok (.value v) u)∨(Region.wanted o (yielded ops b.tmps)=false∧v=undef)):=by
  intro k o b u K hk hc h;obtain⟨dst,op,t,pos,af,g⟩:=o;unfold wpOp at h;simp only [hk]at h;split at h
  ·rename_i hw
   rcases h with h | ⟨_,hl⟩
   case inr=>exact(a2k hT hl).elim
   unfold Oper.wp at h
   cases hr:(execOp b.eval ⟨dst,op,t,pos,af,g⟩).run P u with
   | ok n w'=>
     obtain⟨rfl,v,rfl⟩:=c7m hc b.eval dst t pos af g _ _ _ hr;rw [hr]at h;exact⟨v,h,.inl ⟨hw,rfl⟩⟩
   | halt x w'=>
     rw [hr]at h
     cases x <;> simp only [Oper.upon]at h
     case panic u=>have:=hT _ _ _ h;cases this
  ·rename_i hw
   exact⟨undef,h,.inr ⟨by simpa using hw,rfl⟩⟩
 have back:∀(k:Nat) (o:Oper) (b:Act) (u:World) (K:Act→World→Prop) (v:Value),ops[k]?=some o→K (b.put o.dst v) u→
  ((Region.wanted o (yielded ops b.tmps)=true∧(execOp b.eval o).run P u= .ok (.value v) u)∨(Region.wanted o (yielded ops b.tmps)=false∧v=undef))→wpOp P ops T k K b u:=by
  intro k o b u K v hk hK hh;unfold wpOp;simp only [hk];rcases hh with⟨hw,hv⟩ | ⟨hw,rfl⟩
  ·simp only [hw,if_true,Oper.wp,hv,Oper.upon];exact .inl hK
  ·simp only [hw,Bool.false_eq_true,if_false];exact hK
 obtain⟨u,hu,ru⟩:=look i oi a w _ hoi hi h;obtain⟨v,hv,rv⟩:=look j oj _ w _ hoj hj hu;rw [wanted_put oj a oi.dst u h1,execOp_put oj hsj a oi.dst u h1]at rv;refine back j oj a w _ v hoj (back i oi _ w _ u hoi ?_ ?_) rv
 ·rw [←Act.put_comm a u v h2];exact hv
 ·rw [wanted_put oi a oj.dst v h3,execOp_put oi hsi a oj.dst v h3];exact ru
theorem a9i{o:Oper}{a a':Act}(hs:∀t∈o.looksAt ops,a'.tmps[t]?=a.tmps[t]?) :
 Region.wanted o (yielded ops a'.tmps)=Region.wanted o (yielded ops a.tmps)∧∀x∈o.op.operands,a'.eval x=a.eval x:=by
 constructor
 ·unfold Region.wanted
  cases hg:o.guard with
  | none=>rfl
  | some gw=>
    obtain⟨g,want⟩:=gw;have hy:yielded ops a'.tmps g=yielded ops a.tmps g:=by
     unfold yielded
     cases ht:(ops[g]?).bind (·.dst)with
     | none=>rfl
     | some t=>
       have:=hs t (by simp [Oper.looksAt,hg,ht]);simp [this]
    simp only [hy]
 ·intro x hx
  cases x with
  | tmp t=>
    have:=hs t (List.mem_append_left _ (List.mem_filterMap.2 ⟨.tmp t,by simpa using hx,rfl⟩));simp [Act.eval,this]
  | _=>rfl
theorem b3r{ρ ρ':Operand→Value}{op:Op}(h:∀x∈op.operands,ρ x=ρ' x):a8r ρ op=a8r ρ' op:=by
 cases op <;> simp only [Op.operands]at h <;> simp only [a8r]
 case nilCheck x=>rw [h x (by simp)]
 case binOp o t x y t2=>rw [h x (by simp),h y (by simp)]
 case convert s d x=>rw [h x (by simp)]
 case call c=>
  rw [Bool.eq_iff_iff];simp only [List.all_eq_true];have hc:∀x∈c.args.toList,ρ x=ρ' x:=fun x hx=>h x (by simp only [Call.operands];exact Array.mem_append.2 (.inr (by simpa using hx)))
  exact⟨fun hh x hx=>by rw [←hc x hx];exact hh x hx,fun hh x hx=>by rw [hc x hx];exact hh x hx⟩
end
end
end Go.Txt
