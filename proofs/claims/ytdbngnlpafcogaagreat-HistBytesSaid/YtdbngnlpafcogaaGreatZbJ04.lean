/-
  The ring: rows of keys: Clone, Index, Contains.
  The ring: New.
  The ring's laws: what must be answered ahead of everything else.
  An identity's keys: what an owner signs.
  The document's number: its eight bytes.
  Drawn statements: literals of parts that other operations gave.
  An identity's keys: an update in memory; Signed.
  An identity's keys: Signed, where the version is none; Make.
  An identity's keys: Make.
  The zero key's literal.
  An identity's keys: a history's value.
  An identity's keys: rows cloned, whatever there is of them.
  An identity's keys: Next, where it says no.
  A statement that draws its order: the last two operations are bound to all ahead of them.
  A statement that draws its order: a tail whose operations are each bound to all ahead of them.
  An identity's keys: Next, where it says yes.
  An identity's keys: Make as a whole; Next in words.
  Digests: Sum256 of known bytes, so that the kernel can reckon it.
  An identity's keys: two values that differ, by the kernel.
  An identity's keys: what must be answered ahead of everything else.
-/
import Derived.Test.YtdbngnlpafcogaaGreatZbRg4
import Derived.Test.YtdbngnlpafcogaaGreatZbJ00
import Derived.Test.YtdbngnlpafcogaaGreatZbFam
import Derived.Test.YtdbngnlpafcogaaGreatZbSh5
import Derived.Test.YtdbngnlpafcogaaGreatZbJ03
set_option maxRecDepth 100000
namespace Go.Proofs.YtdbngnlpafcogaaGreat
open Go.RowKit Go.Mem Go.Txt
theorem c5a(keys:List (List UInt8)):∀u∈keys.flatMap bv,u.oneCell'=true:=by
 intro u hu
 obtain⟨k,_,hk⟩:=List.mem_flatMap.1 hu
 exact a2q k u hk
theorem getD_eq{keys:List (List UInt8)}{i:Nat}(h:i < keys.length):keys.getD i []=keys[i]:=by simp [List.getD_eq_getElem?_getD,h]
end Go.Proofs.YtdbngnlpafcogaaGreat
namespace Go.Proofs.YtdbngnlpafcogaaGreat
open Go.RowKit Go.Mem Go.Txt
end Go.Proofs.YtdbngnlpafcogaaGreat
namespace Go.Proofs.YtdbngnlpafcogaaGreat
open Go.RowKit Go.Mem Go.Txt
theorem lit_b{w:World}{g:Nat}{a:UInt8}{cs:Array Value}{fr:Nat × Nat}(hg:g=w.heap.size)(hc:cs=(bv [a]).toArray):a2g [a] (.slice (some ⟨g,0,none⟩) 1 1) (w.alloc (.cells cs 5 fr)):=by
 subst hg hc
 exact Rd.c7u rfl rfl (by simp) (by simp)
abbrev SeC(l S body:List UInt8)(tag:Int):Prop:=∀u v,a2g body v u→Calls Tryz.prog 78 #[ab l,.int .u8 tag,v] u fun e w'=>e= .returned (ab S)∧Kept [] u w'
theorem seal_c{l body:List UInt8}(tag:UInt8)(z:Int)(hz:(tag.toNat:Int)=z)(hl:l.length=32)(hb:body.length≤140737488351232):SeC l (b9g l (b4e tag body)) body z:=by
 subst hz
 intro u v hv
 exact d7k tag hl v body u hv hb
theorem d4q{w:World}{g:Nat}{t:TypeId}{K:List UInt8}(hb:Blk w g t (bv K).toArray)(hK:K.length=32):Rd w 32 (.slice (some ⟨g,0,none⟩) 1 1) [K].length ([K].flatMap bv):=
 ⟨_,_,rfl,by simp [hK],by simp,fun _=>⟨g,0,rfl,fun j u hu=>by rw [hb.cell,Nat.zero_add];simpa using hu⟩⟩
end Go.Proofs.YtdbngnlpafcogaaGreat
namespace Go.Proofs.YtdbngnlpafcogaaGreat
open Go.RowKit Go.Mem Go.Txt
theorem d0j{w:World}{g:Nat}{t:TypeId}{v1 v2:Value}{x1 x2:List UInt8}(hb:Blk w g t #[v1,v2])(h1:a2g x1 v1 w)(h2:a2g x2 v2 w):Parts w (.slice (some ⟨g,0,none⟩) 2 2) [(v1,x1),(v2,x2)]:=by
 refine⟨⟨_,_,rfl,rfl,Nat.le_refl _,fun _=>⟨g,0,rfl,fun j u hu=>?_⟩⟩,?_⟩
 ·rw [hb.cell,Nat.zero_add]
  simpa using hu
 ·intro x hx
  rcases List.mem_cons.1 hx with rfl | hx
  ·exact h1
  ·rcases List.mem_cons.1 hx with rfl | hx
   ·exact h2
   ·cases hx
def b3g(v:Int):Nat:=(v % 18446744073709551616).toNat
theorem c2s(v:Int):b3g v < 18446744073709551616:=by unfold b3g;omega
def b5r(v:Int)(key:List UInt8):List UInt8:=be8 (b3g v) ++ key
theorem c7a{key:List UInt8}(hk:key.length=32)(v:Int):(b5r v key).length=40:=by
 unfold b5r
 rw [List.length_append,a1p,hk]
theorem a9h{w:World}{g:Nat}{t:TypeId}{l:List UInt8}{n:Nat}(hb:Blk w g t (bv l).toArray)(hl:l.length=n):a2g l (.slice (some ⟨g,0,none⟩) n n) w:=by
 subst hl
 exact⟨_,_,rfl,by simp,Nat.le_refl _,fun _=>⟨g,0,rfl,fun j u hu=>by rw [hb.cell,Nat.zero_add];simpa using hu⟩⟩
set_option maxHeartbeats 1600000 in
theorem c0c{key:List UInt8}(ver:Int)(hk:key.length=32)(w:World) :
 Calls Tryz.prog 124 #[.int .i64 ver,ab key] w fun e w'=>∃v',e= .returned v'∧a2g (b5r ver key) v' w'∧Kept [] w w':=by
 have hk:=hjd hk
 obtain⟨n,hn⟩:∃n,n=b3g ver:=⟨_,rfl⟩
 have hnl:=hjd (show n < 18446744073709551616 from by rw [hn];exact c2s ver)
 have ew:IntKind.u64.wrap ver=(n:Int):=by
  rw [hn]
  show ver % 18446744073709551616=_
  unfold b3g
  omega
 have hj:=hjd (show b5r ver key=be8 n ++ key from by rw [hn];rfl)
 clear hn
 go_enter Tryz.func124,Tryz.ntmps124
 go_wp2_with (first
  | ((with_reducible refine a0l 3 ?_);(refine a0q (o:=⟨some 3,_,_,_,_,_⟩) (v:=ab key) rfl (.tmp 1) rfl rfl ?_);intro g3 w3 m3;have B3:=hjd (show Blk w3 g3 22 (bv key).toArray from m3.blk);have KK:=hjd m3.kept;clear m3))
 refine Txt.a2o (by kernel_rfl) (by kernel_rfl) ?_
 go_wp2_with (first
  | (go_at_call 63;(with_reducible refine(a6x (.slice none 0 0) [] n _ (Rd.nil _ _) (by simp) hnl.out).mono ?_);rintro e v7 ⟨x7,rfl,h7⟩
     obtain⟨NA,nc,rfl,_⟩:=h7.ow.shape
     have R7:=hjd h7.rd
     replace KK:=hjd (KK.out.a0g h7.kept.a2p)
     replace B3:=hjd (B3.out.kept h7.kept.a2p (by simp))
     clear h7)
  | ((with_reducible refine a0l 9 ?_);(refine a6p (o:=⟨some 9,_,_,_,_,_⟩) (v1:=.slice (some ⟨g3,0,none⟩) 32 32) rfl a3a rfl rfl rfl rfl rfl ?_);intro g9 w9 m9
     have PP:=hjd (d0j m9.blk (R7.out.a0o m9.kept) (a9h (B3.out.kept m9.kept (by simp)) hk.out))
     replace KK:=hjd (KK.out.a0g m9.kept)
     clear m9)
  | (go_at_call 64;(with_reducible refine(c0d _ _ _ PP.out (by simp) (by simp [a0u,bytesOf,a1p,hk.out])).mono ?_);rintro e v10 ⟨x10,rfl,h10⟩
     have R10:=hjd h10.rd
     replace KK:=hjd (KK.out.a0g h10.kept)
     clear h10))
 refine⟨rfl,by kernel_rfl,?_⟩
 go_wp2_with fail
 go_ret
 refine⟨_,rfl,?_,KK.out⟩
 rw [hj.out]
 simpa [a0u,bytesOf]using R10.out
end Go.Proofs.YtdbngnlpafcogaaGreat
namespace Go.Proofs.YtdbngnlpafcogaaGreat
open Go.RowKit Go.Mem Go.Txt
def tl8(v m i:Nat):UInt8:=if m≤i then UInt8.ofNat (v / 256 ^ (7 - i))else 0
theorem e3x(v:Nat):fam 8 (tl8 v 0)=be8 v:=by
 unfold fam be8
 apply List.map_congr_left
 intro i _
 unfold tl8
 rw [if_pos (Nat.zero_le _)]
theorem d6a(v:Nat):fam 8 (tl8 v 8)=a0e 8:=rfl
theorem mkb(n:Nat)(h:n≤1000):∃Z:Array Value,Z=(bv (a0e n)).toArray∧∀W:World,(Instr.makeSlice 23 (.int .i64 n) (.int .i64 n)).run Tryz.prog W= .ok (.slice (some ⟨W.heap.size,0,none⟩) n n) (W.alloc (.cells Z 5)):=by
 refine⟨madeCells #[.int .u8 0] n,Array.toList_inj.1 (d1r n),fun W=>?_⟩
 exact run_mk a1l n (by omega) (by omega) W
theorem c9f{w w':World}{g:Nat}{xs:List UInt8}(h:Blk w' g 5 (bv xs).toArray)(hk:Kept [] w w')(hg:w.heap.size≤g)(hl:xs.length≤1000):New w w' (.slice (some ⟨g,0,none⟩) xs.length xs.length) xs:=by
 refine⟨Ow.b7k ⟨by simp,.inr ⟨g,xs.length,(bv xs).toArray,rfl,Nat.zero_le _,h,Nat.le_refl _,by simp only [maxLen];omega,by simp,by rw [Nat.mul_one];exact List.take_of_length_le (by simp)⟩⟩,hk,.inr ⟨g,rfl,hg⟩⟩
set_option maxHeartbeats 1600000 in
theorem b4o(v:Nat)(w:World)(hv:v < 18446744073709551616) :
 Calls Tryz.prog 65 #[.int .u64 v] w fun e w'=>∃v',e= .returned v'∧New w w' v' (be8 v):=by
 obtain⟨Z,hZ,hmk⟩:=mkb 8 (by omega)
 have hmk8:∀W:World,(Instr.makeSlice 23 (.int .i64 8) (.int .i64 8)).run Tryz.prog W= .ok (.slice (some ⟨W.heap.size,0,none⟩) 8 8) (W.alloc (.cells Z 5)):=hmk
 have H0:=hjd (show Blk (w.alloc (.cells Z 5)) w.heap.size 5 (bv (fam 8 (tl8 v 8))).toArray from by rw [d6a,←hZ];exact Blk.new _ _ _)
 have K0:=hjd ((Kept.refl [] w).alloc (.cells Z 5))
 have hvh:=hjd hv
 clear hZ hmk hv
 go_enter Tryz.func65,Tryz.ntmps65
 go_wp2_with fail
 generalize w.alloc (.cells Z 5)=wa at *
 obtain⟨g,hg⟩:∃g,g=w.heap.size:=⟨_,rfl⟩
 rw [←hg]at H0 ⊢
 replace hg:=hjd hg
 go_loopg [4,0] 8 (fun f i x wk=>∃m:Nat,f=m∧m≤8∧i= .int .i64 ((m:Int) - 1)∧x= .int .u64 ((v / 256 ^ (8 - m):Nat):Int)∧Blk wk g 5 (bv (fam 8 (tl8 v m))).toArray∧Kept [g] wa wk)
 case atStart=>exact⟨8,rfl,Nat.le_refl _,rfl,by simp,H0.out,Kept.refl _ _⟩
 case round=>
  obtain⟨m,hf,hm,rfl,rfl,hb,hkw⟩:=hrel
  have H:=hjd hb
  have HK:=hjd hkw
  clear hb hkw
  by_cases hm0:0 < m
  ·have hi0:(0:Int)≤(m:Int) - 1:=by omega
   have hi1:(1:Int)≤(m:Int):=by omega
   have e0:=Blk.a6j (v:=a1h) H.out (m - 1) (by omega)
   have z0:=Blk.frozen H.out (m - 1)
   have hx:v / 256 ^ (8 - m) < 18446744073709551616:=Nat.lt_of_le_of_lt (Nat.div_le_self _ _) hvh.out
   have hn:v / 256 ^ (8 - (m - 1))=v / 256 ^ (8 - m) / 256:=by rw [show 8 - (m - 1)=(8 - m) + 1 from by omega,Nat.pow_succ,Nat.div_div_eq_div_mul]
   have hs:=Blk.e1z (v:=a1h) H.out (m - 1) (UInt8.ofNat (v / 256 ^ (8 - m)))
   have he:fam 8 (fun j=>if j=m - 1 then UInt8.ofNat (v / 256 ^ (8 - m))else tl8 v m j)=fam 8 (tl8 v (m - 1)):=a4x 8 fun i hi=>by
    unfold tl8
    by_cases h:i=m - 1
    ·rw [if_pos h,if_pos (by omega),show 7 - i=8 - m from by omega]
    ·rw [if_neg h]
     by_cases h2:m≤i
     ·rw [if_pos h2,if_pos (by omega)]
     ·rw [if_neg h2,if_neg (by omega)]
   rw [he]at hs
   have F:=hjd hs
   have FK:=hjd (HK.out.setCell (p:=⟨g,m - 1,none⟩) (.inl (by simp)) (a1h (UInt8.ofNat (v / 256 ^ (8 - m)))))
   unfold a1h at F FK
   rw [UInt8.toNat_ofNat',show(((v / 256 ^ (8 - m) % 2 ^ 8:Nat)):Int)=((v / 256 ^ (8 - m):Nat):Int) % 256 from by omega]at F FK
   replace hn:=hjd hn
   generalize v / 256 ^ (8 - m)=x at *
   clear hs he
   go_wp2_with fail
   go_roundg (m - 1)
   case measure=>omega
   case rel=>exact⟨m - 1,rfl,by omega,by go_num,by rw [hn.out];simp,F.out,FK.out⟩
  ·obtain rfl:m=0:=by omega
   have hb:=H.out
   rw [e3x]at hb
   go_wp2_with fail
   go_ret
   refine⟨_,rfl,?_⟩
   have:=c9f hb (K0.out.a0p HK.out (by rw [hg.out];exact Nat.le_refl _)) (by rw [hg.out];exact Nat.le_refl _) (by rw [a1p];omega)
   rwa [a1p]at this
end Go.Proofs.YtdbngnlpafcogaaGreat
namespace Go.Proofs.YtdbngnlpafcogaaGreat
open Go.RowKit Go.Mem Go.Txt
section
variable {l:List Oper} {vs:List Rel} {a0:Act} {w0:World} {o:Oper}
theorem b4s{b:UInt8}{c:Int}(ho:o.op= .buildSlice 23 1 #[(0,.const (.int .u8 c))])(hc:(b.toNat:Int)=c):a4u Tryz.prog l vs (fun u=>Kept [] w0 u) a0 o (a2g [b]):=by
 subst hc
 refine⟨fun _ _ _ h hk=>a2g.a0o h hk,fun a w C R hS hr _ h=>?_⟩
 obtain⟨q,hq,hz,hs,hb⟩:=info_parts a1l.2
 have hv:(#[(0,Operand.const (.int .u8 (b.toNat:Int)))].map fun(p:Nat × Operand)=>(p.1,a.eval p.2)).toList= [(0,.int .u8 (b.toNat:Int))]:=by simp [Act.eval]
 have hf:Instr.fill (fun i=>some (i * 1,1)) ((Array.range (1 * 1)).map ((Value.int .u8 0).cells[· % (Value.int .u8 0).cells.size]!)) [(0,.int .u8 (b.toNat:Int))]=some #[.int .u8 (b.toNat:Int)]:=by
  have hr:∀f:Nat→Value,(Array.range (1 * 1)).map f= #[f 0]:=fun f=>Array.toList_inj.1 (by rw [Array.toList_map,Array.toList_range];rfl)
  rw [hr]
  simp [Instr.fill,Value.cells]
 have kk:Kept [] w (w.alloc (.cells #[.int .u8 (b.toNat:Int)] 5)):=(Kept.refl [] w).alloc _
 exact wp_buildSlice _ _ 1 _ ho #[.int .u8 (b.toNat:Int)] q _ a1l.1 hq hz (by rw [hs];omega) (by rw [hs];omega) (by rw [hs];exact(congrArg (Instr.fill _ _) hv).trans hf) (h _ _ kk (a9h (l:=[b]) (Blk.new w _ _) rfl))
def e5h(m1 m2 m3:List UInt8):Rel:=fun v w=>∃p1 p2 p3,Parts w v [(p1,m1),(p2,m2),(p3,m3)]
theorem e5h.a0o{m1 m2 m3:List UInt8}{v:Value}{w w':World}(h:e5h m1 m2 m3 v w)(k:Kept [] w w'):e5h m1 m2 m3 v w':=let⟨p1,p2,p3,hp⟩:=h;⟨p1,p2,p3,Parts.a0o hp k⟩
theorem c2o{x y z i j k:Nat}{m1 m2 m3:List UInt8}{oi oj ok:Oper}(ho:o.op= .buildSlice 45 3 #[(0,.tmp x),(1,.tmp y),(2,.tmp z)])
 (hi:vs[i]?=some (a2g m1)) (hl:l[i]?=some oi) (hd:oi.dst=some x) (hb:a1t o i) (hj:vs[j]?=some (a2g m2)) (hl2:l[j]?=some oj) (hd2:oj.dst=some y) (hb2:a1t o j) (hk:vs[k]?=some (a2g m3)) (hl3:l[k]?=some ok) (hd3:ok.dst=some z) (hb3:a1t o k):a4u Tryz.prog l vs (fun u=>Kept [] w0 u) a0 o (e5h m1 m2 m3):=by
 refine⟨fun _ _ _ h hk=>e5h.a0o h hk,fun a w C R hS hr _ h=>?_⟩
 have e:a2g m1 (a.tmps.getD x undef) w:=hr i _ x oi hi hl hd hb
 have e2:a2g m2 (a.tmps.getD y undef) w:=hr j _ y oj hj hl2 hd2 hb2
 have e3:a2g m3 (a.tmps.getD z undef) w:=hr k _ z ok hk hl3 hd3 hb3
 generalize hv1:a.tmps.getD x undef=v1 at e
 generalize hv2:a.tmps.getD y undef=v2 at e2
 generalize hv3:a.tmps.getD z undef=v3 at e3
 have c0:v1.cells= #[v1]:=by obtain⟨A,c,e1,_⟩:=id e;rw [e1];rfl
 have c1:v2.cells= #[v2]:=by obtain⟨A,c,e1,_⟩:=id e2;rw [e1];rfl
 have c2:v3.cells= #[v3]:=by obtain⟨A,c,e1,_⟩:=id e3;rw [e1];rfl
 obtain⟨q,hq,hz,hs,hb⟩:=info_parts a3a.2
 have hv:(#[(0,Operand.tmp x),(1,.tmp y),(2,.tmp z)].map fun(p:Nat × Operand)=>(p.1,a.eval p.2)).toList= [(0,v1),(1,v2),(2,v3)]:=by simp [Act.eval,←hv1,←hv2,←hv3]
 have hf:Instr.fill (fun i=>some (i * 1,1)) ((Array.range (3 * 1)).map ((Value.slice none 0 0).cells[· % (Value.slice none 0 0).cells.size]!)) [(0,v1),(1,v2),(2,v3)]=some #[v1,v2,v3]:=by
  have hr:∀f:Nat→Value,(Array.range (3 * 1)).map f= #[f 0,f 1,f 2]:=fun f=>Array.toList_inj.1 (by rw [Array.toList_map,Array.toList_range];rfl)
  rw [hr]
  simp [Instr.fill,c0,c1,c2]
 have kk:Kept [] w (w.alloc (.cells #[v1,v2,v3] 23)):=(Kept.refl [] w).alloc _
 exact wp_buildSlice _ _ 3 _ ho #[v1,v2,v3] q _ a3a.1 hq hz (by rw [hs];omega) (by rw [hs];omega) (by rw [hs];exact(congrArg (Instr.fill _ _) hv).trans hf) (h _ _ kk ⟨v1,v2,v3,e0o (Blk.new w _ _) (a2g.a0o e kk) (a2g.a0o e2 kk) (a2g.a0o e3 kk)⟩)
end
theorem b6d(xs:Array Value)(w:World):(callFunc 63 xs).run Tryz.prog w= .ok (.enter 63 xs) w:=enters_of (c:=_) Tryz.func63 (by kernel_rfl) rfl xs w
theorem c9p(xs:Array Value)(w:World):(callFunc 66 xs).run Tryz.prog w= .ok (.enter 66 xs) w:=enters_of (c:=_) Tryz.func66 (by kernel_rfl) rfl xs w
theorem b5d(xs:Array Value)(w:World):(callFunc 19 xs).run Tryz.prog w= .ok (.enter 19 xs) w:=enters_of (c:=_) Tryz.func19 (by kernel_rfl) rfl xs w
theorem d7j(n:Nat)(hn:n < 18446744073709551616)(u:World):Calls Tryz.prog 63 #[.slice none 0 0,.int .u64 (n:Int)] u fun e w'=>∃v',e= .returned v'∧a2g (be8 n) v' w'∧Kept [] u w':=by
 refine(a6x (.slice none 0 0) [] n u (Rd.nil _ _) (by simp) hn).mono ?_
 rintro e w' ⟨v',rfl,h⟩
 exact⟨v',rfl,h.rd,h.kept⟩
theorem d1f{a:Act}{o:Oper}{x n c:Nat}{A:Option Addr}(ho:o.op= .call {callee:=.builtin .len,args:=#[.tmp x],argTypes:=#[106]})(W:World)(hx:a.tmps.getD x undef= .slice A n c):(execOp a.eval o).run Tryz.prog W= .ok (.value (.int .i64 (n:Int))) W:=by
 unfold execOp
 simp only [ho,resolve,invoke,builtin,Sem.run_bind,Sem.run_pure,Result.andThen_ok,List.map_toArray,List.map_cons,List.map_nil,Act.eval,hx]
 kernel_rfl
theorem d7t{a:Act}{o:Oper}{x n:Nat}(hn:n < 18446744073709551616)(ho:o.op= .convert 3 67 (.tmp x))(W:World)(hx:a.tmps.getD x undef= .int .i64 (n:Int)):(execOp a.eval o).run Tryz.prog W= .ok (.value (.int .u64 (n:Int))) W:=by
 have e:IntKind.u64.wrap (n:Int)=(n:Int):=by
  show(n:Int) % 18446744073709551616=_
  omega
 have h:(convert 3 67 (.int .i64 (n:Int))).run Tryz.prog W= .ok (.int .u64 (IntKind.u64.wrap (n:Int))) W:=by kernel_rfl
 rw [e]at h
 unfold execOp
 simp only [ho,Act.eval,hx,Sem.run_bind,h]
 rfl
section
variable {l:List Oper} {vs:List Rel} {a0:Act} {w0:World} {o:Oper}
theorem d3k{x g:Nat}{d:List UInt8}(ho:o.op= .slice 22 (.tmp x) none none none)(hx:a0.tmps.getD x undef= .pointer (some ⟨g,0,none⟩))(hf:∀y∈l,y.dst≠some x)(hr:a2g d (.slice (some ⟨g,0,none⟩) 32 32) w0):a4u Tryz.prog l vs (fun u=>Kept [] w0 u) a0 o (a2g d):=
 ⟨fun _ _ _ h hk=>a2g.a0o h hk,fun _ w _ _ hS _ hoth h=>a8c (a9g ho w ((hoth x hf).trans hx)) (h _ _ (Kept.refl _ _) (a2g.a0o hr hS))⟩
end
end Go.Proofs.YtdbngnlpafcogaaGreat
namespace Go.Proofs.YtdbngnlpafcogaaGreat
open Go.RowKit Go.Mem Go.Txt
def a2a(id:List UInt8)(ver:Int)(key sig:List UInt8):List Value:=bv id ++ (Value.int .i64 ver :: (bv key ++ bv sig))
abbrev b0r(id:List UInt8)(ver:Int)(key sig:List UInt8):Value:=.agg (a2a id ver key sig).toArray
structure UpL (id key sig:List UInt8):Prop where
 id:id.length=32
 key:key.length=32
 sig:sig.length=64
section
variable {u:World} {g:Nat} {id key sig:List UInt8} {ver:Int}
theorem a3g(L:UpL id key sig):(a2a id ver key sig).length=129:=by
 unfold a2a
 simp [L.id,L.key,L.sig]
theorem c8d(h:Blk u g 104 (a2a id ver key sig).toArray):u.rangeAt g 0 (bv id):=Blk.range (pre:=[]) h rfl
theorem a2w(L:UpL id key sig)(h:Blk u g 104 (a2a id ver key sig).toArray):u.cell? ⟨g,32,none⟩=some (.int .i64 ver):=by
 have hl:(bv id).length=32:=by simpa using L.id
 rw [h.cell,List.getElem?_toArray]
 unfold a2a
 rw [List.getElem?_append_right (by omega),hl]
 rfl
theorem b4t(L:UpL id key sig)(h:Blk u g 104 (a2a id ver key sig).toArray):u.rangeAt g 33 (bv key):=
 Blk.range (pre:=bv id ++ [.int .i64 ver]) (post:=bv sig) (by simpa [a2a]using h) (by simp [L.id])
theorem b9l(L:UpL id key sig)(h:Blk u g 104 (a2a id ver key sig).toArray):u.rangeAt g 65 (bv sig):=
 Blk.range (pre:=bv id ++ (.int .i64 ver :: bv key)) (post:=[]) (by simpa [a2a]using h) (by simp [L.id,L.key])
end
theorem a4l{P:Program}{u:World}{a:Act}{o:Oper}{t:TypeId}(x:Operand)(ho:o.op= .load t x)(hs:∀w,(isAgg t).run P w= .ok false w){p:Addr}(hx:a.eval x= .pointer (some p)){v:Value}(hc:u.cell? p=some v) :
 (execOp a.eval o).run P u= .ok (.value v) u:=by
 simp [execOp,ho,hx,Instr.loadAt,Instr.sureAddr,loadVar,hs,hc]
set_option maxHeartbeats 3200000 in
theorem d0u{id key sig:List UInt8}{ver:Int}{ok:Bool}(L:UpL id key sig)(h1:1≤ver)(h64:ver≤64)
 (cb:∀u,Calls Tryz.prog 124 #[.int .i64 ver,ab key] u fun e w'=>∃v',e= .returned v'∧a2g (b5r ver key) v' w'∧Kept [] u w')
 (co:∀u v,a2g (b5r ver key) v u→Calls Tryz.prog 126 #[ab id,.int .u8 1,v,ab sig] u fun e w'=>e= .returned (.bool ok)∧Kept [] u w') (w:World) :
 Calls Tryz.prog 61 #[b0r id ver key sig] w fun e w'=>e= .returned (.bool ok)∧Kept [] w w':=by
 replace cb:=hjd cb
 replace co:=hjd co
 replace L:=hjd L
 go_enter Tryz.func61,Tryz.ntmps61
 go_wp2_with (first
  | ((with_reducible refine a0l 1 ?_);(refine a0q (o:=⟨some 1,_,_,_,_,_⟩) (v:=b0r id ver key sig) rfl (.tmp 0) rfl rfl ?_);intro g1 w1 m1;have B1:=hjd (show Blk w1 g1 104 (a2a id ver key sig).toArray from m1.blk);have KK:=hjd m1.kept;clear m1))
 replace B1:=hjd (B1.out.kept (Kept.refl [] _).drew (by simp))
 replace KK:=hjd (KK.out.a0g (Kept.refl [] _).drew)
 have q1:=a2w L.out B1.out
 refine Txt.a1o [1,5,10,12,14,17] (fun u=>Blk u g1 104 (a2a id ver key sig).toArray) [[_,_,_,_,_,_,_,_,_,_,_,_,_,_,_,_],[_,_,_],[_,_]] (by kernel_rfl) (by kernel_rfl) rfl B1.out (Txt.a0f ?_)
 go_wp2_with (first
  | ((with_reducible refine a0l 13 ?_);refine a1k (o:=⟨some 13,_,_,_,_,_⟩) (cs:=bv id) a2f.row rfl (.tmp 12) rfl rfl (c8d B1.out) (by simpa using L.out.id) ?_)
  | ((with_reducible refine a0l 17 ?_);refine a1k (o:=⟨some 17,_,_,_,_,_⟩) (cs:=bv key) a2f.row rfl (.tmp 16) rfl rfl (b4t L.out B1.out) (by simpa using L.out.key) ?_)
  | (go_at_call 124;(with_reducible refine(cb.out _).mono ?_);rintro e v18 ⟨x18,rfl,h18,k18⟩
     have R18:=hjd h18
     obtain⟨NA,nc,rfl,_⟩:=h18
     replace KK:=hjd (KK.out.a0g k18)
     replace B1:=hjd (B1.out.kept k18 (by simp))
     clear k18))
 refine⟨rfl,B1.out,Txt.a0f ?_⟩
 go_wp2_with (first
  | ((with_reducible refine a0l 20 ?_);refine a1k (o:=⟨some 20,_,_,_,_,_⟩) (cs:=bv sig) Q.b6f rfl (.tmp 19) rfl rfl (b9l L.out B1.out) (by simpa using L.out.sig) ?_)
  | (go_at_call 126;(with_reducible refine(co.out _ _ R18.out).mono ?_);rintro e v21 ⟨rfl,k21⟩
     replace KK:=hjd (KK.out.a0g k21)
     replace B1:=hjd (B1.out.kept k21 (by simp))
     clear k21))
 refine⟨rfl,B1.out,Txt.a0f ?_⟩
 go_wp2_with fail
 refine⟨rfl,B1.out,Txt.a1d ⟨⟨by kernel_rfl,?_⟩,?_⟩⟩
 ·intro j hj o ho hw
  have hj2:j=1∨j=5∨j=10∨j=12∨j=14∨j=17:=by simpa using hj
  rcases hj2 with rfl | rfl | rfl | rfl | rfl | rfl <;> cases ho
  ·exact⟨4,rfl,fun u hu=>a4l (.tmp 3) rfl (fun w=>by kernel_rfl) rfl (a2w L.out hu)⟩
  ·exact⟨8,rfl,fun u hu=>a4l (.tmp 7) rfl (fun w=>by kernel_rfl) rfl (a2w L.out hu)⟩
  ·exact⟨13,rfl,fun u hu=>a3i a2f.row (.tmp 12) rfl rfl (c8d hu) (by simpa using L.out.id)⟩
  ·exact⟨15,rfl,fun u hu=>a4l (.tmp 14) rfl (fun w=>by kernel_rfl) rfl (a2w L.out hu)⟩
  ·exact⟨17,rfl,fun u hu=>a3i a2f.row (.tmp 16) rfl rfl (b4t L.out hu) (by simpa using L.out.key)⟩
  ·exact⟨20,rfl,fun u hu=>a3i Q.b6f (.tmp 19) rfl rfl (b9l L.out hu) (by simpa using L.out.sig)⟩
 go_wp2_with fail
 go_ret
 exact⟨rfl,KK.out⟩
end Go.Proofs.YtdbngnlpafcogaaGreat
namespace Go.Proofs.YtdbngnlpafcogaaGreat
open Go.RowKit Go.Mem Go.Txt
set_option maxHeartbeats 3200000 in
theorem c9b{id key sig:List UInt8}{ver:Int}(L:UpL id key sig)(ho:ver < 1∨64 < ver)(w:World) :
 Calls Tryz.prog 61 #[b0r id ver key sig] w fun e w'=>e= .returned (.bool false)∧Kept [] w w':=by
 replace L:=hjd L
 go_enter Tryz.func61,Tryz.ntmps61
 go_wp2_with (first
  | ((with_reducible refine a0l 1 ?_);(refine a0q (o:=⟨some 1,_,_,_,_,_⟩) (v:=b0r id ver key sig) rfl (.tmp 0) rfl rfl ?_);intro g1 w1 m1;have B1:=hjd (show Blk w1 g1 104 (a2a id ver key sig).toArray from m1.blk);have KK:=hjd m1.kept;clear m1))
 replace B1:=hjd (B1.out.kept (Kept.refl [] _).drew (by simp))
 replace KK:=hjd (KK.out.a0g (Kept.refl [] _).drew)
 have q1:=a2w L.out B1.out
 rcases ho with h1 | h64
 ·have n1:¬(1≤ver):=by omega
  clear h1
  refine Txt.a1o [1,5,10,12,14,17] (fun u=>Blk u g1 104 (a2a id ver key sig).toArray) [[_,_,_,_,_,_,_,_,_,_,_,_,_,_,_,_],[_,_,_],[_,_]] (by kernel_rfl) (by kernel_rfl) rfl B1.out (Txt.a0f ?_)
  go_wp2_with fail
  refine And.intro rfl (And.intro B1.out ?_)
  unfold Txt.a7e
  go_wp2_with fail
  refine And.intro rfl (And.intro B1.out ?_)
  unfold Txt.a7e
  go_wp2_with fail
  refine And.intro rfl (And.intro B1.out (Txt.a1d ⟨⟨by kernel_rfl,?_⟩,?_⟩))
  ·intro j hj o ho hw
   have hj2:j=1∨j=5∨j=10∨j=12∨j=14∨j=17:=by simpa using hj
   rcases hj2 with rfl | rfl | rfl | rfl | rfl | rfl <;> cases ho
   ·exact⟨4,rfl,fun u hu=>a4l (.tmp 3) rfl (fun w=>by kernel_rfl) rfl (a2w L.out hu)⟩
   all_goals exact absurd (hw:Region.wanted _ _=true) (by rw [show Region.wanted _ _=false from by kernel_rfl];simp)
  go_wp2_with fail
  go_ret
  exact⟨rfl,KK.out⟩
 ·have n1:1≤ver:=by omega
  have n2:¬(ver≤64):=by omega
  clear h64
  refine Txt.a1o [1,5,10,12,14,17] (fun u=>Blk u g1 104 (a2a id ver key sig).toArray) [[_,_,_,_,_,_,_,_,_,_,_,_,_,_,_,_],[_,_,_],[_,_]] (by kernel_rfl) (by kernel_rfl) rfl B1.out (Txt.a0f ?_)
  go_wp2_with fail
  refine And.intro rfl (And.intro B1.out ?_)
  unfold Txt.a7e
  go_wp2_with fail
  refine And.intro rfl (And.intro B1.out ?_)
  unfold Txt.a7e
  go_wp2_with fail
  refine And.intro rfl (And.intro B1.out (Txt.a1d ⟨⟨by kernel_rfl,?_⟩,?_⟩))
  ·intro j hj o ho hw
   have hj2:j=1∨j=5∨j=10∨j=12∨j=14∨j=17:=by simpa using hj
   rcases hj2 with rfl | rfl | rfl | rfl | rfl | rfl <;> cases ho
   ·exact⟨4,rfl,fun u hu=>a4l (.tmp 3) rfl (fun w=>by kernel_rfl) rfl (a2w L.out hu)⟩
   ·exact⟨8,rfl,fun u hu=>a4l (.tmp 7) rfl (fun w=>by kernel_rfl) rfl (a2w L.out hu)⟩
   all_goals exact absurd (hw:Region.wanted _ _=true) (by rw [show Region.wanted _ _=false from by kernel_rfl];simp)
  go_wp2_with fail
  go_ret
  exact⟨rfl,KK.out⟩
noncomputable def okU (id:List UInt8) (ver:Int) (key sig:List UInt8):Bool:=decide (1≤ver∧ver≤64) && okV id sig (b4e 1 (b5r ver key))
theorem c8l{id key sig:List UInt8}(ver:Int)(L:UpL id key sig)(w:World) :
 Calls Tryz.prog 61 #[b0r id ver key sig] w fun e w'=>e= .returned (.bool (okU id ver key sig))∧Kept [] w w':=by
 by_cases h:1≤ver∧ver≤64
 ·unfold okU
  rw [decide_eq_true h,Bool.true_and]
  exact d0u L h.1 h.2 (fun u=>c0c ver L.key u) (fun u v hv=>d1w (key:=id) 1 L.id L.sig v (b5r ver key) u hv (by rw [c7a L.key];decide)) w
 ·unfold okU
  rw [decide_eq_false h,Bool.false_and]
  exact c9b L (by omega) w
theorem b0d:RowT Tryz.prog 104 129:=⟨⟨_,Tryz.underlying104,rfl⟩,by kernel_rfl⟩
theorem a4a:(Tryz.prog.info? 104).map (·.zero)=some (some (b0r (a0e 32) 0 (a0e 32) (a0e 64))):=by kernel_rfl
theorem e2w(ver:Int)(p q r:Nat→UInt8):Tryz.prog.built 104 [(0,ab ((List.range 32).map p)),(1,.int .i64 ver),(2,ab ((List.range 32).map q)),(3,ab ((List.range 64).map r))]=some (a2a ((List.range 32).map p) ver ((List.range 32).map q) ((List.range 64).map r)).toArray:=by kernel_rfl
theorem a5s{n:Nat}{l:List UInt8}(h:l.length=n):l=(List.range n).map fun i=>l.getD i 0:=by
 apply List.ext_getElem (by simp [h])
 intro i h1 h2
 simp [List.getD_eq_getElem?_getD,h1]
theorem d5l{id key sig:List UInt8}(ver:Int)(L:UpL id key sig):Tryz.prog.built 104 [(0,ab id),(1,.int .i64 ver),(2,ab key),(3,ab sig)]=some (a2a id ver key sig).toArray:=by
 rw [a5s L.id,a5s L.key,a5s L.sig]
 exact e2w _ _ _ _
end Go.Proofs.YtdbngnlpafcogaaGreat
namespace Go.Proofs.YtdbngnlpafcogaaGreat
open Go.RowKit Go.Mem Go.Txt
theorem c4e{a:Act}{o:Oper}{u:World}{t:TypeId}{cs:Array Value}(i j k l:Nat)(x y x2 y2:Operand)(ho:o.op= .build t #[(i,x),(j,y),(k,x2),(l,y2)]){v q v2 q2:Value}(hx:a.eval x=v)(hy:a.eval y=q)(hx2:a.eval x2=v2)(hy2:a.eval y2=q2)(h:Tryz.prog.built t [(i,v),(j,q),(k,v2),(l,q2)]=some cs):(execOp a.eval o).run Tryz.prog u= .ok (.value (.agg cs)) u:=by
 unfold execOp
 simp only [ho,Sem.run_bind]
 rw [run_build u t (Array.map (fun x:Nat × Operand=>(x.fst,a.eval x.snd)) #[(i,x),(j,y),(k,x2),(l,y2)]) cs (by simp [hx,hy,hx2,hy2,h])]
 simp
theorem a7x{id key sig:List UInt8}{ver:Int}:(a2a id ver key sig).toArray.all (·.oneCell')=true:=by
 rw [Array.all_eq_true']
 intro x hx
 have hx2:x∈a2a id ver key sig:=by simpa using hx
 unfold a2a at hx2
 rcases List.mem_append.1 hx2 with h | h
 ·exact a2q _ _ h
 ·rcases List.mem_cons.1 h with rfl | h
  ·rfl
  ·rcases List.mem_append.1 h with h | h
   ·exact a2q _ _ h
   ·exact a2q _ _ h
set_option maxHeartbeats 3200000 in
theorem d4x{seed key K S:List UInt8}{ver:Int}(hs:seed.length=32)(L:UpL K key S)
 (cp:∀u,Calls Tryz.prog 9 #[ab seed] u fun e w'=>e= .returned (ab K)∧Kept [] u w')
 (cb:∀u,Calls Tryz.prog 124 #[.int .i64 ver,ab key] u fun e w'=>∃v',e= .returned v'∧a2g (b5r ver key) v' w'∧Kept [] u w')
 (cs:SeC seed S (b5r ver key) 1) (w:World) :
 Calls Tryz.prog 59 #[ab seed,.int .i64 ver,ab key] w fun e w'=>e= .returned (b0r K ver key S)∧Kept [] w w':=by
 have hb:=hjd (d5l ver L)
 have ho:=hjd (a7x (id:=K) (key:=key) (sig:=S) (ver:=ver))
 have hz:=hjd (a3g (ver:=0) (show UpL (a0e 32) (a0e 32) (a0e 64)from⟨rfl,rfl,rfl⟩))
 have hz2:=hjd (a3g (ver:=ver) L)
 replace cp:=hjd cp
 replace cb:=hjd cb
 replace cs:=hjd cs
 replace hs:=hjd hs
 replace L:=hjd L
 go_enter Tryz.func59,Tryz.ntmps59
 go_wp2_with (first
  | ((with_reducible refine a0l 3 ?_);(refine a0q (o:=⟨some 3,_,_,_,_,_⟩) (v:=ab seed) rfl (.tmp 0) rfl rfl ?_);intro g3 w3 m3;have B3:=hjd (show Blk w3 g3 22 (bv seed).toArray from m3.blk);have KK:=hjd m3.kept;clear m3)
  | ((with_reducible refine a0l 5 ?_);(refine a0q (o:=⟨some 5,_,_,_,_,_⟩) (v:=ab key) rfl (.tmp 2) rfl rfl ?_);intro g5 w5 m5;have B5:=hjd (show Blk w5 g5 22 (bv key).toArray from m5.blk);replace KK:=hjd (KK.out.a0g m5.kept);replace B3:=hjd (B3.out.kept m5.kept (by simp));clear m5)
  | ((with_reducible refine a0l 6 ?_);(refine a0h (o:=⟨some 6,_,_,_,_,_⟩) rfl rfl a4a ?_);intro g6 w6 m6;have B6:=hjd (show Blk w6 g6 104 (a2a (a0e 32) 0 (a0e 32) (a0e 64)).toArray from m6.blk);have L6:=hjd (Nat.le_trans KK.out.size m6.le);have N6:=hjd (show g3≠g6∧g5≠g6 from⟨m6.ne B3.out.lt,m6.ne B5.out.lt⟩);replace KK:=hjd (KK.out.a0g m6.kept);replace B3:=hjd (B3.out.kept m6.kept (by simp));replace B5:=hjd (B5.out.kept m6.kept (by simp));clear m6))
 have kd:=(Kept.refl [] w6).drew
 replace KK:=hjd (KK.out.a0g kd)
 replace B6:=hjd (B6.out.kept kd (by simp))
 have T:=hjd (show Blk w6.drew g3 22 (bv seed).toArray∧Blk w6.drew g5 22 (bv key).toArray from⟨B3.out.kept kd (by simp),B5.out.kept kd (by simp)⟩)
 clear kd B3 B5
 refine Txt.a1o [0,3,4,6,9] (fun u=>Blk u g3 22 (bv seed).toArray∧Blk u g5 22 (bv key).toArray) [[_,_],[_,_,_,_,_,_],[_],[_],[_],[]] (by kernel_rfl) (by kernel_rfl) rfl T.out (Txt.a0f ?_)
 iterate 4 (go_wp2_with (first
  | ((with_reducible refine a0l 7 ?_);refine a0d (cs:=(bv seed).toArray) (o:=⟨some 7,_,_,_,_,_⟩) a2f.row rfl (.tmp 3) rfl rfl T.out.1 (by simpa using hs.out) ?_)
  | ((with_reducible refine a0l 10 ?_);refine a0d (cs:=(bv key).toArray) (o:=⟨some 10,_,_,_,_,_⟩) a2f.row rfl (.tmp 5) rfl rfl T.out.2 (by simpa using L.out.key) ?_)
  | ((with_reducible refine a0l 11 ?_);refine a0d (cs:=(bv seed).toArray) (o:=⟨some 11,_,_,_,_,_⟩) a2f.row rfl (.tmp 3) rfl rfl T.out.1 (by simpa using hs.out) ?_)
  | ((with_reducible refine a0l 13 ?_);refine a0d (cs:=(bv key).toArray) (o:=⟨some 13,_,_,_,_,_⟩) a2f.row rfl (.tmp 5) rfl rfl T.out.2 (by simpa using L.out.key) ?_)
  | ((with_reducible refine a0l 16 ?_);refine c9w (o:=⟨some 16,_,_,_,_,_⟩) (v:=ab K) (u:=.int .i64 ver) (v2:=ab key) (u2:=ab S) rfl 0 1 2 3 (.tmp 8) (.tmp 9) (.tmp 10) (.tmp 15) rfl rfl rfl rfl rfl hb.out ?_)
  | (go_at_call 9;(with_reducible refine(cp.out _).mono ?_);rintro e v ⟨rfl,kk⟩;replace KK:=hjd (KK.out.a0g kk);replace T:=hjd (And.intro (T.out.1.kept kk (by simp)) (T.out.2.kept kk (by simp)));replace B6:=hjd (B6.out.kept kk (by simp));clear kk)
  | (go_at_call 124;(with_reducible refine(cb.out _).mono ?_);rintro e v ⟨x14,rfl,h14,kk⟩;have R14:=hjd h14;obtain⟨_,_,rfl,_⟩:=h14;replace KK:=hjd (KK.out.a0g kk);replace T:=hjd (And.intro (T.out.1.kept kk (by simp)) (T.out.2.kept kk (by simp)));replace B6:=hjd (B6.out.kept kk (by simp));clear kk)
  | (go_at_call 78;(with_reducible refine(cs.out _ _ R14.out).mono ?_);rintro e v ⟨rfl,kk⟩;replace KK:=hjd (KK.out.a0g kk);replace T:=hjd (And.intro (T.out.1.kept kk (by simp)) (T.out.2.kept kk (by simp)));replace B6:=hjd (B6.out.kept kk (by simp));clear kk R14));refine⟨rfl,T.out,Txt.a0f ?_⟩)
 go_wp2_with (((refine a0c (cs:=(a2a K ver key S).toArray) (o:=⟨none,Op.store 104 (.tmp 6) (.tmp 16),_,_,_,_⟩) b0d rfl (.tmp 6) (.tmp 16) rfl rfl rfl B6.out (List.size_toArray.trans hz.out) (List.size_toArray.trans hz2.out) ho.out ?_);intro w7 b7 k7))
 have T2:=And.intro (T.out.1.kept k7 (by simpa using N6.out.1)) (T.out.2.kept k7 (by simpa using N6.out.2))
 refine⟨rfl,T2,Txt.a0f ?_⟩
 refine⟨rfl,T2,Txt.a1d ⟨⟨by kernel_rfl,?_⟩,?_⟩⟩
 ·intro j hj o hj1 hw
  have hj2:j=0∨j=3∨j=4∨j=6∨j=9:=by simpa using hj
  rcases hj2 with rfl | rfl | rfl | rfl | rfl <;> cases hj1
  ·exact⟨7,rfl,fun u hu=>a0y a2f.row (.tmp 3) rfl rfl hu.1 (by simpa using hs.out)⟩
  ·exact⟨10,rfl,fun u hu=>a0y a2f.row (.tmp 5) rfl rfl hu.2 (by simpa using L.out.key)⟩
  ·exact⟨11,rfl,fun u hu=>a0y a2f.row (.tmp 3) rfl rfl hu.1 (by simpa using hs.out)⟩
  ·exact⟨13,rfl,fun u hu=>a0y a2f.row (.tmp 5) rfl rfl hu.2 (by simpa using L.out.key)⟩
  ·exact⟨16,rfl,fun u hu=>c4e 0 1 2 3 (.tmp 8) (.tmp 9) (.tmp 10) (.tmp 15) rfl rfl rfl rfl rfl hb.out⟩
 go_wp2_with fail
 exact a1g b0d rfl rfl b7 (List.size_toArray.trans hz2.out) rfl ⟨rfl,KK.out.a0p k7 L6.out⟩
end Go.Proofs.YtdbngnlpafcogaaGreat
namespace Go.Proofs.YtdbngnlpafcogaaGreat
open Go.RowKit Go.Mem Go.Txt
theorem e1v:Value.agg #[.int .u8 0,.int .u8 0,.int .u8 0,.int .u8 0,.int .u8 0,.int .u8 0,.int .u8 0,.int .u8 0,.int .u8 0,.int .u8 0,.int .u8 0,.int .u8 0,.int .u8 0,.int .u8 0,.int .u8 0,.int .u8 0,.int .u8 0,.int .u8 0,.int .u8 0,.int .u8 0,.int .u8 0,.int .u8 0,.int .u8 0,.int .u8 0,.int .u8 0,.int .u8 0,.int .u8 0,.int .u8 0,.int .u8 0,.int .u8 0,.int .u8 0,.int .u8 0]=ab (a0e 32):=rfl
end Go.Proofs.YtdbngnlpafcogaaGreat
namespace Go.Proofs.YtdbngnlpafcogaaGreat
open Go.RowKit Go.Mem Go.Txt
noncomputable def c3h (keys:List (List UInt8)):List UInt8:=keys.foldl (fun d k=>sha (3 :: (d ++ k))) (a0e 32)
noncomputable def c9z (keys:List (List UInt8)):List UInt8:=sha (2 :: (be8 keys.length ++ c3h keys))
theorem d0s{keys:List (List UInt8)}{j:Nat}(h:j < keys.length):c3h (keys.take (j + 1))=sha (3 :: (c3h (keys.take j) ++ keys.getD j [])):=by
 unfold c3h
 rw [List.take_add_one,List.foldl_append,getD_eq h,List.getElem?_eq_getElem h]
 rfl
theorem c6v(keys:List (List UInt8)):(c3h keys).length=32:=by
 rcases List.eq_nil_or_concat keys with rfl | ⟨l,x,rfl⟩
 ·rfl
 ·unfold c3h
  rw [List.concat_eq_append,List.foldl_append]
  exact a4q _
theorem e3s{w:World}{g:Nat}{t:TypeId}{l:List UInt8}{cs:Array Value}{n:Nat}(hb:Blk w g t cs)(hc:cs=(bv l).toArray)(hn:l.length=n):a2g l (.slice (some ⟨g,0,none⟩) n n) w:=by
 subst hc
 exact a9h hb hn
set_option maxHeartbeats 3200000 in
theorem c2c(v:Value)(keys:List (List UInt8))(w:World)(hr:Rd w 32 v keys.length (keys.flatMap bv))(hl:∀x∈keys,x.length=32)(hx:keys.length≤1000000) :
 Calls Tryz.prog 62 #[v] w fun e w'=>e= .returned (ab (c9z keys))∧Kept [] w w':=by
 obtain⟨KA,kap,rfl,_⟩:=id hr
 have H:=hjd hr
 have hl:=hjd hl
 have hx2:=hjd hx
 have l0:=e1v
 have vl:=hjd (fun j=>c6v (keys.take j))
 have vs:=hjd (fun j (h:j < keys.length)=>d0s h)
 obtain⟨Z,hZ⟩:∃Z:List UInt8,Z=a0e 32:=⟨_,rfl⟩
 rw [←hZ]at l0
 have hzl:=hjd (show Z.length=32 from by rw [hZ];rfl)
 have hz0:=hjd (show c3h (keys.take 0)=Z from by rw [hZ];rfl)
 have hzb:=hjd (show(ab (a0e 32)).cells=(bv Z).toArray from by rw [hZ];rfl)
 clear hZ
 clear hr
 go_enter Tryz.func62,Tryz.ntmps62
 go_wp2_with (first
  | ((with_reducible refine a0l 2 ?_);(refine a0h (o:=⟨some 2,_,_,_,_,_⟩) rfl rfl a6v ?_);intro g2 w2 m2;have B2:=hjd (show Blk w2 g2 22 (bv Z).toArray from by have:=m2.blk;rwa [hzb.out]at this);have KK:=hjd m2.kept;have L2:=hjd m2.le;clear m2)
  | ((with_reducible refine a0l 3 ?_);(refine a0h (o:=⟨some 3,_,_,_,_,_⟩) rfl rfl a6v ?_);intro g3 w3 m3
     have B3:=hjd (show Blk w3 g3 22 (bv (c3h (keys.take 0))).toArray from by have:=m3.blk;rw [hzb.out]at this;rw [hz0.out];exact this)
     have N3:=hjd (m3.ne B2.out.lt)
     replace B2:=hjd (B2.out.kept m3.kept (by simp));have L3:=hjd (Nat.le_trans KK.out.size m3.le);replace KK:=hjd (KK.out.a0g m3.kept);clear m3))
 go_loopg [8] keys.length (fun f g wk=>∃j:Nat,j≤keys.length∧f + j=keys.length∧g= .int .i64 j∧Hid (Blk wk g3 22 (bv (c3h (keys.take j))).toArray)∧Hid (Blk wk g2 22 (bv Z).toArray)∧Kept [] w wk)
 case atStart=>exact⟨0,Nat.zero_le _,rfl,rfl,B3,B2,KK.out⟩
 case round=>
  obtain⟨j,hj,hfj,rfl,hb3,hb2,hwk⟩:=hrel
  clear B3 B2 KK
  have KK:=hjd hwk
  replace H:=hjd (H.out.a0o hwk)
  clear hwk
  by_cases hlt:j < keys.length
  ·obtain⟨kb,ko,kd,ek,_⟩:=H.out.at_ (by omega)
   obtain⟨rfl,rfl⟩:KA=some ⟨kb,ko,none⟩∧kap=kd:=by simpa using ek
   clear ek
   obtain⟨pre,post,hpp,hpl⟩:=d8b hlt hl.out
   have hkj:=hjd (hl.out (keys.getD j []) (by rw [getD_eq hlt];exact List.getElem_mem _))
   have hrk:=hjd (Rd.elem (i:=j) H.out hpp hpl (by omega))
   have hst:=hjd (vs.out j hlt)
   have hdl:=hjd (vl.out j)
   generalize keys.getD j []=key at *
   generalize hd:c3h (keys.take j)=d at *
   clear hpp hpl hd
   go_wp2_with (first
    | ((with_reducible refine a0l 10 ?_);refine a5h (o:=⟨some 10,_,_,_,_,_⟩) c8f rfl (.tmp 6) (.tmp 8) rfl rfl rfl hlt ?_)
    | ((with_reducible refine a0l 11 ?_);refine a1k (o:=⟨some 11,_,_,_,_,_⟩) (cs:=bv key) a2f.row rfl (.tmp 10) rfl rfl hrk.out (by simpa using hkj.out) ?_)
    | ((with_reducible refine a0l 5 ?_);(refine a0h (o:=⟨some 5,_,_,_,_,_⟩) rfl rfl a6v ?_);intro g5 w5 m5;have M5:=hjd m5;have T5:=hjd (show Blk w5 g5 22 (bv Z).toArray from by have:=m5.blk;rwa [hzb.out]at this);clear m5)
    | (refine a0c (cs:=(bv key).toArray) (o:=⟨none,Op.store 22 (.tmp 5) (.tmp 11),_,_,_,_⟩) a2f.row rfl (.tmp 5) (.tmp 11) rfl rfl rfl T5.out (by simpa using hzl.out) (by simpa using hkj.out) (a1r _) ?_
       intro wb5 b5 k5
       have kk:=M5.out.kept.a0p k5 M5.out.le
       have B5:=hjd b5
       replace hb3:=hjd (hb3.out.kept kk (by simp))
       replace hb2:=hjd (hb2.out.kept kk (by simp))
       replace KK:=hjd (KK.out.a0g kk)
       clear b5 k5 kk M5 T5 hrk))
   have kd:=(Kept.refl [] wb5).drew
   replace hb3:=hjd (hb3.out.kept kd (by simp))
   replace hb2:=hjd (hb2.out.kept kd (by simp))
   replace B5:=hjd (B5.out.kept kd (by simp))
   replace KK:=hjd (KK.out.a0g kd)
   clear kd
   refine Txt.a2o (by kernel_rfl) (by kernel_rfl) ?_
   go_wp2_with (first
    | ((with_reducible refine a0l 12 ?_);(refine a1c (o:=⟨some 12,_,_,_,_,_⟩) (v0:=.int .u8 3) (cells:=#[.int .u8 3]) rfl a1l rfl rfl (by decide) rfl rfl ?_);intro gb wb mb
       have R1:=hjd (e3s (l:=[3]) mb.blk rfl rfl)
       replace hb3:=hjd (hb3.out.kept mb.kept (by simp))
       replace hb2:=hjd (hb2.out.kept mb.kept (by simp))
       replace B5:=hjd (B5.out.kept mb.kept (by simp))
       replace KK:=hjd (KK.out.a0g mb.kept)
       clear mb)
    | ((with_reducible refine a0l 15 ?_);(refine c3o (o:=⟨some 15,_,_,_,_,_⟩) (v0:=.slice (some ⟨gb,0,none⟩) 1 1) (v1:=.slice (some ⟨g3,0,none⟩) 32 32) (v2:=.slice (some ⟨g5,0,none⟩) 32 32) rfl a3a rfl rfl rfl rfl rfl rfl rfl ?_);intro gp wp mp
       have PP:=hjd (e0o mp.blk (R1.out.a0o mp.kept) (a9h (hb3.out.kept mp.kept (by simp)) hdl.out) (a9h (B5.out.kept mp.kept (by simp)) hkj.out))
       replace hb3:=hjd (hb3.out.kept mp.kept (by simp))
       replace hb2:=hjd (hb2.out.kept mp.kept (by simp))
       replace KK:=hjd (KK.out.a0g mp.kept)
       clear mp B5 R1)
    | (go_at_call 66;(with_reducible refine(b2m _ _ _ PP.out (by simp) (by simp [a0u,bytesOf,hdl.out,hkj.out])).mono ?_);rintro e ws ⟨rfl,ks⟩
       replace hb3:=hjd (hb3.out.kept ks (by simp))
       replace hb2:=hjd (hb2.out.kept ks (by simp))
       replace KK:=hjd (KK.out.a0g ks)
       clear ks PP)
    | (refine a0c (cs:=(bv (sha (a0u _))).toArray) (o:=⟨none,Op.store 22 (.tmp 3) (.tmp 16),_,_,_,_⟩) a2f.row rfl (.tmp 3) (.tmp 16) rfl rfl rfl hb3.out (by simpa using hdl.out) (by simp [a4q]) (a1r _) ?_
       intro wt bt kt
       replace hb3:=hjd (show Blk wt g3 22 (bv (c3h (keys.take (j + 1)))).toArray from by rw [hst.out];simpa [a0u,bytesOf]using bt)
       replace hb2:=hjd (hb2.out.kept kt (by simpa using N3.out))
       replace KK:=hjd (KK.out.a0p kt L3.out)
       clear bt kt))
   refine⟨rfl,by kernel_rfl,?_⟩
   go_wp2_with fail
   go_roundg (keys.length - (j + 1))
   case measure=>omega
   case rel=>exact⟨j + 1,by omega,by omega,by go_num,hb3,hb2,KK.out⟩
  ·obtain rfl:j=keys.length:=by omega
   replace hb3:=hjd (show Blk wr g3 22 (bv (c3h keys)).toArray from by have:=hb3.out;rwa [List.take_length]at this)
   have hvl:=hjd (c6v keys)
   have hnl:=hjd (show keys.length < 18446744073709551616 from by omega)
   have hsl:=hjd (show(c9z keys).length=32 from a4q _)
   have csum:=hjd (fun(u:World) (pv:Value) (h:e5h [2] (be8 keys.length) (c3h keys) pv u)=>(show Calls Tryz.prog 66 #[pv] u fun e w'=>e= .returned (ab (c9z keys))∧Kept [] u w' from by
    obtain⟨p1,p2,p3,hp⟩:=h
    have:=b2m pv _ u hp (by simp) (by simp [a0u,bytesOf,a1p,hvl.out])
    simpa [a0u,bytesOf,c9z]using this))
   go_wp2_with fail
   refine Txt.a5j (by kernel_rfl) [a2g [2],Txt.isV (.slice KA keys.length kap),Txt.isV (.int .i64 (keys.length:Int)),Txt.isV (.int .u64 (keys.length:Int)),a2g (be8 keys.length),a2g (c3h keys),e5h [2] (be8 keys.length) (c3h keys),Txt.isV (ab (c9z keys))] (fun u=>Kept [] wr u) (by kernel_rfl) rfl rfl (by kernel_rfl) ((Kept.refl [] wr).drew) (fun u u2 h k=>h.a0g k) ⟨?_,?_,?_,?_,?_,?_,?_,?_,trivial⟩ ?_
   ·exact b4s (b:=2) rfl rfl
   ·exact a1w (x:=0) rfl (by decide) fun a W hx=>a3v rfl W hx
   ·refine a4i fun a u hS hr _=>?_
    have e0:=hr 1 _ 19 _ rfl rfl rfl ⟨⟨1,.data⟩,by simp,rfl,rfl⟩
    exact d1f rfl u e0
   ·refine a4i fun a u hS hr _=>?_
    have e0:=hr 2 _ 20 _ rfl rfl rfl ⟨⟨2,.data⟩,by simp,rfl,rfl⟩
    exact d7t hnl.out rfl u e0
   ·refine Txt.a1y rfl b6d (fun v u u2 h k=>a2g.a0o h k) fun a u hS hr _=>?_
    have e1:a.tmps.getD 21 undef=(.int .u64 (keys.length:Int)):=hr 3 _ 21 _ rfl rfl rfl ⟨⟨3,.data⟩,by simp,rfl,rfl⟩
    have hm:Array.map a.eval #[.const (.slice none 0 0),.tmp 21]= #[.slice none 0 0,(.int .u64 (keys.length:Int))]:=by simp only [List.map_toArray,List.map_cons,List.map_nil,Act.eval,e1]
    rw [hm]
    refine((d7j keys.length hnl.out u)).mono ?_
    rintro e u2 ⟨v,rfl,hv,hk⟩
    exact⟨v,rfl,hv,hk⟩
   ·exact d3k (x:=3) (g:=g3) rfl rfl (by decide) (a9h hb3.out hvl.out)
   ·exact c2o (x:=18) (y:=22) (z:=23) (i:=0) (j:=4) (k:=5) rfl rfl rfl rfl ⟨⟨0,.data⟩,by simp,rfl,rfl⟩ rfl rfl rfl ⟨⟨4,.data⟩,by simp,rfl,rfl⟩ rfl rfl rfl ⟨⟨5,.data⟩,by simp,rfl,rfl⟩
   ·refine Txt.a1y rfl c9p (fun _ _ _ h _=>h) fun a u hS hr _=>?_
    have e0:=hr 6 _ 24 _ rfl rfl rfl ⟨⟨6,.data⟩,by simp,rfl,rfl⟩
    have hm:Array.map a.eval #[.tmp 24]= #[a.tmps.getD 24 undef]:=by simp only [List.map_toArray,List.map_cons,List.map_nil,Act.eval]
    rw [hm]
    refine(csum.out u _ e0).mono ?_
    rintro e u2 ⟨rfl,hk⟩
    exact⟨_,rfl,rfl,hk⟩
   intro v wc kc hv
   have v1:v 1=(.slice KA keys.length kap):=hv 1 _ rfl
   have v2:v 2=(.int .i64 (keys.length:Int)):=hv 2 _ rfl
   have v3:v 3=(.int .u64 (keys.length:Int)):=hv 3 _ rfl
   have v7:v 7=(ab (c9z keys)):=hv 7 _ rfl
   clear hv
   simp [Txt.a0z,List.range,List.range.loop,Act.put,v1,v2,v3,v7]
   generalize v 0=u0 at *
   generalize v 4=u4 at *
   generalize v 5=u5 at *
   generalize v 6=u6 at *
   clear v1 v2 v3 v7
   refine a4k a2f.row (.tmp 2) (.tmp 25) rfl rfl rfl (hb2.out.kept kc (by simp)) (by simpa using hzl.out) (by simpa using hsl.out) (a1r _) ?_
   simp [Act.put]
   have bz:=(hb2.out.kept kc (by simp)).a4p (bv (c9z keys)).toArray
   have kk:Kept [g2] wc (wc.setRow g2 (bv (c9z keys)).toArray):=(Kept.refl [g2] wc).setRow (.inl (by simp)) _
   have kz:=(KK.out.a0g kc).a0p kk L2.out
   clear kk kc hb2 hb3
   go_wp2_with fail
   exact a1g a2f.row rfl rfl bz (by simpa using hsl.out) rfl ⟨rfl,kz⟩
end Go.Proofs.YtdbngnlpafcogaaGreat
namespace Go.Proofs.YtdbngnlpafcogaaGreat
open Go.RowKit Go.Mem Go.Txt
set_option maxHeartbeats 1600000 in
theorem c8g(v:Value)(keys:List (List UInt8))(w:World)(hr:Rd w 32 v keys.length (keys.flatMap bv))(hx:keys.length≤1000000) :
 Calls Tryz.prog 125 #[v] w fun e w'=>∃v',e= .returned v'∧Ow w' 22 32 v' keys.length (keys.flatMap bv)∧Kept [] w w'∧∀k,v'.ownBlock=some k→w.heap.size≤k:=by
 obtain⟨A,c,rfl,hc0,_,hat⟩:=id hr
 have H:=hjd hr
 have qn:=b9v Tryz.underlying106 A keys.length c 0 0
 clear hr
 cases A with
 | none=>
   have h0:keys= []:=by
    by_cases h:0 < keys.length
    ·obtain⟨_,_,h2,_⟩:=hat h
     cases h2
    ·exact List.length_eq_zero_iff.1 (by omega)
   subst h0
   clear hat hc0
   rw [List.length_nil]at qn ⊢
   rw [show(none:Option Addr).isNone=true from rfl]at qn
   go_enter Tryz.func125,Tryz.ntmps125
   go_wp2_with fail
   go_ret
   exact⟨_,rfl,Ow.nil _ _ _,Kept.refl _ _,by simp [Value.ownBlock]⟩
 | some A=>
   clear hat hc0
   go_enter Tryz.func125,Tryz.ntmps125
   go_wp2_with (at_builtin;refine a1v c8f rfl (.tmp 5) (.tmp 6) rfl rfl (xs:=[]) (n:=0) (Ow.b7k (a6o (by simp) rfl rfl (by omega))) rfl (H.out.alloc _) (c5a keys) ?_ ?_ ?_)
   case refine_1=>omega
   case refine_2=>omega
   intro v' w' hown hk hb
   go_wp2
   go_ret
   refine⟨_,rfl,by simpa using hown,Kept.fresh ((Kept.refl [] w).alloc _) hk (by simp [Value.ownBlock]),fun k hk2=>?_⟩
   have hk3:v'.ownBlock=some k:=hk2
   rcases hb with hb | hb
   ·rw [hb]at hk3
    simp [Value.ownBlock]at hk3
    omega
   ·rw [hb]at hk3
    simp at hk3
    omega
end Go.Proofs.YtdbngnlpafcogaaGreat
namespace Go.Proofs.YtdbngnlpafcogaaGreat
open Go.RowKit Go.Mem Go.Txt
set_option maxHeartbeats 3200000 in
theorem d8t{keys:List (List UInt8)}{id key sig:List UInt8}{ver:Int}(v:Value){w0:World}(hr:Rd w0 32 v keys.length (keys.flatMap bv))(hx:keys.length≤1000000)(L:UpL id key sig)(w:World)
 (cs:∀u,Calls Tryz.prog 61 #[b0r id ver key sig] u fun e w'=>e= .returned (.bool true)∧Kept [] u w') (hne:ver≠(keys.length:Int) + 1) :
 Calls Tryz.prog 60 #[v,b0r id ver key sig] w fun e w'=>e= .returned (.tuple #[.slice none 0 0,.int .i64 111])∧Kept [] w w':=by
 obtain⟨VA,vc,rfl,_⟩:=hr
 have hz:=hjd (a3g (ver:=ver) L)
 have hne2:(ver !=((keys.length:Int) + 1))=true:=by rw [bne_iff_ne];exact hne
 replace cs:=hjd cs
 replace L:=hjd L
 clear hne
 go_enter Tryz.func60,Tryz.ntmps60
 go_wp2_with (first
  | ((with_reducible refine a0l 3 ?_);(refine a0q (o:=⟨some 3,_,_,_,_,_⟩) (v:=b0r id ver key sig) rfl (.tmp 1) rfl rfl ?_);intro g3 w3 m3;have B3:=hjd (show Blk w3 g3 104 (a2a id ver key sig).toArray from m3.blk);have KK:=hjd m3.kept;clear m3)
  | ((with_reducible refine a0l 7 ?_);refine a0d (cs:=(a2a id ver key sig).toArray) (o:=⟨some 7,_,_,_,_,_⟩) b0d rfl (.tmp 3) rfl rfl B3.out (List.size_toArray.trans hz.out) ?_)
  | (go_at_call 61;(with_reducible refine(cs.out _).mono ?_);rintro e v8 ⟨rfl,k8⟩;have q1:=a2w L.out (B3.out.kept k8 (by simp));replace KK:=hjd (KK.out.a0g k8);clear k8))
 go_ret2
 exact⟨rfl,KK.out⟩
end Go.Proofs.YtdbngnlpafcogaaGreat
namespace Go.Txt
open Go.RowKit Go.Mem
section
variable {P:Program} {ops:Array Oper} {Q:Exit→Act→World→Prop}
def c7z(l:List Oper)(i:Nat):List Nat:=match l[i]? with
 | some o=>o.after.toList.filterMap fun e=>if Region.binds .any e && decide (e.on < l.length)then some e.on else none
 | none=>[]
def d4k(l:List Oper):Nat→List Nat→List Nat
 | 0,s=>s
 | f + 1,s=>d4k l f (s ++ s.flatMap (c7z l)).eraseDups
theorem b6v{l:List Oper}{i k:Nat}:k∈c7z l i↔∃o,l[i]?=some o∧a1t o k∧k < l.length:=by
 unfold c7z
 cases h:l[i]? with
 | none=>simp
 | some o=>
   simp only [List.mem_filterMap,Option.some.injEq,exists_eq_left']
   constructor
   ·rintro⟨e,he,hb⟩
    split at hb
    ·rename_i hb'
     cases hb
     simp only [Bool.and_eq_true,decide_eq_true_eq]at hb'
     exact⟨⟨e,by simpa using he,rfl,hb'.1⟩,hb'.2⟩
    ·cases hb
   ·rintro⟨⟨e,he,rfl,hb⟩,hk⟩
    exact⟨e,by simpa using he,by rw [if_pos (by simp [hb,hk])]⟩
def b2h(l:List Oper)(L:Nat→Bool):Prop:=∀(j:Nat) o,l[j]?=some o→L j=true→∀k,a1t o k→k < l.length→L k=true
theorem b7q{l:List Oper}{L:Nat→Bool}(hc:b2h l L):∀(f:Nat) (s:List Nat),(∀i∈s,L i=true)→∀k∈d4k l f s,L k=true
 | 0,_,h,k,hk=>h k hk
 | f + 1,s,h,k,hk=>by
   refine b7q hc f _ (fun i hi=>?_) k hk
   rw [List.mem_eraseDups,List.mem_append]at hi
   rcases hi with hi | hi
   ·exact h i hi
   ·obtain⟨j,hj,hi⟩:=List.mem_flatMap.1 hi
    obtain⟨o,ho,hb,hk⟩:=b6v.1 hi
    exact hc j o ho (h j hj) i hb hk
end
end Go.Txt
namespace Go.Txt
open Go.RowKit Go.Mem
section
variable {P:Program} {ops:Array Oper} {Q:Exit→Act→World→Prop}
def b0h(P:Program)(Q:Exit→Act→World→Prop):List Oper→Act→World→Prop
 | [],a,w=>Q .normal a w
 | o :: l,a,w=>o.wp P a w (b0h P Q l) Q
def e4t(l:List Oper)(n:Nat):Bool:=(List.range (l.length - n)).all fun k=>(List.range (n + k)).all fun j=>(d4k l l.length (c7z l (n + k))).contains j
theorem b0w{l:List Oper}{n i:Nat}(h:e4t l n=true)(hn:n≤i)(hi:i < l.length){L:Nat→Bool}(hc:b2h l L){o:Oper}(ho:l[i]?=some o)(hb:∀j,a1t o j→j < l.length→L j=true):∀j,j < i→L j=true:=by
 intro j hj
 have h1:=List.all_eq_true.1 h (i - n) (by simp;omega)
 rw [show n + (i - n)=i from by omega]at h1
 have h2:=List.all_eq_true.1 h1 j (by simpa using hj)
 refine b7q hc _ _ (fun k hk=>?_) j (by simpa using h2)
 obtain⟨o2,ho2,hb2,hk2⟩:=b6v.1 hk
 rw [ho]at ho2;cases ho2
 exact hb k hb2 hk2
theorem b4c{l:List Oper}{L:Nat→Bool}{i:Nat}{o:Oper}(hcl:b2h l L)(ho:l[i]?=some o)(hbound:∀j,a1t o j→L j=true):b2h l (fun j=>if j=i then true else L j):=by
 intro j oj hj hl k hb hk
 dsimp only at hl ⊢
 by_cases hki:k=i
 ·rw [if_pos hki]
 ·rw [if_neg hki]
  by_cases hji:j=i
  ·subst hji
   rw [ho]at hj;cases hj
   exact hbound k hb
  ·rw [if_neg hji]at hl
   exact hcl j oj hj hl k hb hk
theorem d6q{id:Nat}{l:List Oper}{a0:Act}{w0:World}(hm:P.follows .mixedOrders=true)(vs:List Rel)(S:World→Prop)(hch:b3b l a0.tmps.size=true)(hn:vs.length < l.length)(htl:e4t l vs.length=true)
 (hS0:S w0.drew) (hS:∀u u',S u→Kept [] u u'→S u') (hA:b6g (a4u P l vs S a0) l vs)
 (hF:∀(v:Nat→Value) w,S w→(∀(j:Nat) (r:Rel),vs[j]?=some r→r (v j) w)→b0h P Q (l.drop vs.length) (a0z l.toArray v (fun j=>decide (j < vs.length)) (List.range l.length) a0) w):(Code.region id l.toArray true).wp P Q a0 w0:=by
 simp only [b3b,Bool.and_eq_true]at hch
 obtain⟨⟨⟨hdep,hgd⟩,hdst⟩,hsz⟩:=hch
 have hd:∀(i:Nat) (o:Oper),l[i]?=some o→∀(j:Nat),j≠i→∀(oj:Oper),l[j]?=some oj→∀t,oj.dst=some t→o.dst≠some t:=by
  intro i o ho j hj oj hoj t ht e
  have hil:i < l.length:=(List.getElem?_eq_some_iff.1 ho).1
  have hjl:j < l.length:=(List.getElem?_eq_some_iff.1 hoj).1
  have:=List.all_eq_true.1 (List.all_eq_true.1 hdst j (by simpa using hjl)) i (by simpa using hil)
  simp [ho,hoj,ht,e,hj]at this
 have hlt:∀(i:Nat) (o:Oper) d,l[i]?=some o→o.dst=some d→d < a0.tmps.size:=by
  intro i o d ho hdd
  have:=List.all_eq_true.1 hsz o (List.mem_of_getElem? ho)
  simpa [hdd]using this
 have hget:∀(i:Nat) (o:Oper) (d:Tmp) (v:Nat→Value) (L:Nat→Bool),l[i]?=some o→o.dst=some d→L i=true→(a0z l.toArray v L (List.range l.length) a0).tmps.getD d undef=v i:=by
  intro i o d v L ho hdd hL
  exact a7c (by simpa using ho) hdd hL (fun j hj oj hoj t ht=>hd i o ho j hj oj (by simpa using hoj) t ht) _ _ List.nodup_range (by simpa using(List.getElem?_eq_some_iff.1 ho).1) (hlt i o d ho hdd)
 have hoth:∀(t:Tmp) (v:Nat→Value) (L:Nat→Bool),(∀x∈l,x.dst≠some t)→(a0z l.toArray v L (List.range l.length) a0).tmps.getD t undef=a0.tmps.getD t undef:=by
  intro t v L ht
  exact a4o _ _ fun j _ o ho _=>ht o (List.mem_of_getElem? (by simpa using ho))
 have hset:∀(i:Nat) (o:Oper) (v:Nat→Value) (L:Nat→Bool),l[i]?=some o→L i=false→(a0z l.toArray v L (List.range l.length) a0).put o.dst (v i)=a0z l.toArray v (fun j=>if j=i then true else L j) (List.range l.length) a0:=by
  intro i o v L ho hL
  exact(a7k hL (by simpa using ho) (fun j hj oj hoj t ht=>hd i o ho j hj oj (by simpa using hoj) t ht) _ _ List.nodup_range (by simpa using(List.getElem?_eq_some_iff.1 ho).1)).symm
 let I:(Nat→Bool)→Act→World→Prop:=fun L a w=>b2h l L∧((S w∧(∃v:Nat→Value,a=a0z l.toArray v L (List.range l.length) a0∧∀(j:Nat) (r:Rel),vs[j]?=some r→L j=true→r (v j) w)∧∀j,vs.length≤j→j < l.length→L j=false)∨
  ∃m,vs.length < m∧m≤l.length∧(∀j,j < m→L j=true)∧(∀j,m≤j→j < l.length→L j=false)∧b0h P Q (l.drop m) a w)
 have hvl:∀(j:Nat) (r:Rel),vs[j]?=some r→j < vs.length:=fun j r h=>(List.getElem?_eq_some_iff.1 h).1
 refine wp_region_any hm ?_
 refine a8q I ?_ hdep ?_ ?_ _ _ _ _ (by simp) (by simp) ?_
 ·rintro L L' a w hL ⟨hc,h⟩
  have hL2:∀j,j < l.length→L j=L' j:=fun j hj=>hL j (by simpa using hj)
  refine⟨fun j o hj hl k hb hk=>?_,?_⟩
  ·have hjl:j < l.length:=(List.getElem?_eq_some_iff.1 hj).1
   exact(hL2 k hk).symm.trans (hc j o hj ((hL2 j hjl).trans hl) k hb hk)
  rcases h with⟨h1,⟨v,h2,hr⟩,h3⟩ | ⟨m,m1,m2,m3,m4,m5⟩
  ·exact .inl ⟨h1,⟨v,h2.trans (a1i _ _ fun j hj=>⟨hL2 j (by simpa using hj),fun _=>rfl⟩),fun j r hj hl=>hr j r hj ((hL2 j (by have:=hvl j r hj;omega)).trans hl)⟩,fun j hj hl=>(hL2 j hl).symm.trans (h3 j hj hl)⟩
  ·exact .inr ⟨m,m1,m2,fun j hj=>(hL2 j (by omega)).symm.trans (m3 j hj),fun j hj hl=>(hL2 j hl).symm.trans (m4 j hj hl),m5⟩
 ·rintro L a w i o ⟨hcl,hI⟩ ho hLi hdeps
  have ho':l[i]?=some o:=by simpa using ho
  have hil:i < l.length:=(List.getElem?_eq_some_iff.1 ho').1
  have hg:o.guard=none:=by
   have:=List.all_eq_true.1 hgd o (List.mem_of_getElem? ho')
   simpa using this
  have hbound:∀j,a1t o j→L j=true:=by
   rintro j ⟨e,he,rfl,hb⟩
   exact hdeps e he hb
  have hstep:=b4c hcl ho' hbound
  unfold wpOp
  simp only [ho]
  rw [if_pos (by simp [Region.wanted,hg])]
  refine .inl ?_
  have hnext:∀m,vs.length≤m→i=m→(∀j,j < m→L j=true)→(∀j,m≤j→j < l.length→L j=false)→∀a w,b0h P Q (l.drop m) a w→o.wp P a w (fun a' w'=>I (fun j=>if j=i then true else L j) a' w') Q:=by
   rintro m hm rfl m3 m4 a w hq
   rw [List.drop_eq_getElem_cons hil]at hq
   have e:l[i]=o:=by
    rw [List.getElem?_eq_getElem hil]at ho'
    simpa using ho'
   rw [e]at hq
   refine Oper.wp_mono (fun a' w' hq=>⟨hstep,.inr ⟨i + 1,by omega,by omega,fun j hj=>?_,fun j hj hl=>?_,hq⟩⟩) hq
   ·dsimp only
    by_cases h:j=i
    ·rw [if_pos h]
    ·rw [if_neg h];exact m3 j (by omega)
   ·dsimp only
    rw [if_neg (by omega)];exact m4 j (by omega) hl
  rcases hI with⟨h1,⟨v,rfl,hr⟩,h3⟩ | ⟨m,m1,m2,m3,m4,m5⟩
  case inr=>
   have hmi:m≤i:=by
    rcases Nat.lt_or_ge i m with h | h
    ·rw [m3 i h]at hLi;cases hLi
    ·exact h
   have him:i=m:=by
    rcases Nat.lt_or_ge m i with h | h
    ·have:=b0w htl (by omega) hil hcl ho' (fun j hb _=>hbound j hb) m h
     rw [m4 m (Nat.le_refl _) (by omega)]at this;cases this
    ·omega
   exact hnext m (by omega) him m3 m4 _ _ m5
  by_cases hin:vs.length≤i
  ·have hall:=b0w htl hin hil hcl ho' (fun j hb _=>hbound j hb)
   have hi:i=vs.length:=by
    rcases Nat.lt_or_ge vs.length i with h | h
    ·have:=hall vs.length h
     rw [h3 _ (Nat.le_refl _) hn]at this;cases this
    ·omega
   have e1:a0z l.toArray v L (List.range l.length) a0=a0z l.toArray v (fun j=>decide (j < vs.length)) (List.range l.length) a0:=by
    refine a1i _ _ fun j hj=>⟨?_,fun _=>rfl⟩
    have hj':j < l.length:=by simpa using hj
    by_cases h:j < vs.length
    ·rw [hall j (by omega)];simp [h]
    ·rw [h3 j (by omega) hj'];simp [h]
   refine hnext vs.length (Nat.le_refl _) hi (fun j hj=>hall j (by omega)) h3 _ _ ?_
   rw [e1]
   exact hF v w h1 fun j r hj=>hr j r hj (hall j (by have:=hvl j r hj;omega))
  ·have hi:i < vs.length:=by omega
   have hv:vs[i]?=some vs[i]:=by simp [hi]
   obtain⟨_,hp⟩:=b6g.get l vs i o vs[i] hA ho' hv
   refine hp _ w _ _ h1 (fun j r d oj hK hoj hdj hb=>?_) (fun t ht=>hoth t _ L ht) (fun u w' hk hru=>⟨hstep,.inl ⟨hS _ _ h1 hk,⟨fun j=>if j=i then u else v j,?_,fun j r hj hl=>?_⟩,fun j hj hl=>?_⟩⟩)
   ·rw [hget j oj d v L hoj hdj (hbound j hb)]
    exact hr j r hK (hbound j hb)
   ·have e1:a0z l.toArray v L (List.range l.length) a0=a0z l.toArray (fun j=>if j=i then u else v j) L (List.range l.length) a0:=by
     refine a1i _ _ fun j _=>⟨rfl,fun hl=>?_⟩
     have hji:j≠i:=fun e=>by rw [e,hLi]at hl;cases hl
     simp [hji]
    have:=hset i o (fun j=>if j=i then u else v j) L ho' hLi
    simp only [if_true]at this
    rw [e1];exact this
   ·dsimp only at hl ⊢
    by_cases hji:j=i
    ·subst hji
     rw [hv]at hj;cases hj
     rw [if_pos rfl];exact hru
    ·rw [if_neg hji]at hl ⊢
     obtain⟨oj,hoj⟩:∃oj,l[j]?=some oj:=⟨_,List.getElem?_eq_getElem (by have:=hvl j r hj;omega)⟩
     obtain⟨hst,_⟩:=b6g.get l vs j oj r hA hoj hj
     exact hst _ _ _ (hr j r hj hl) hk
   ·dsimp only
    rw [if_neg (by omega)];exact h3 j hj hl
 ·rintro L a w ⟨_,⟨_,_,h3⟩ | ⟨m,m1,m2,m3,m4,m5⟩⟩ hall
  ·have:=h3 _ (Nat.le_refl _) hn
   rw [hall vs.length (by simpa using hn)]at this;cases this
  ·have:m=l.length:=by
    rcases Nat.lt_or_ge m l.length with h | h
    ·have h2:=m4 m (Nat.le_refl _) h
     rw [hall m (by simpa using h)]at h2;cases h2
    ·omega
   subst this
   rwa [List.drop_length]at m5
 ·have hf:∀(j:Nat),j < l.length→(Array.replicate l.toArray.size false).getD j true=false:=by
   intro j hj;simp [hj]
  refine⟨fun j o hj hl=>absurd ((hf j (List.getElem?_eq_some_iff.1 hj).1).symm.trans hl) (by simp),.inl ⟨hS0,⟨fun _=>undef,?_,fun j r hj hl=>absurd ((hf j (by have:=hvl j r hj;omega)).symm.trans hl) (by simp)⟩,fun j _ hl=>hf j hl⟩⟩
  rw [a1i (L':=fun _=>false) (v':=fun _=>undef) _ _ fun j hj=>⟨hf j (by simpa using hj),fun _=>rfl⟩,a5y]
end
end Go.Txt
namespace Go.Proofs.YtdbngnlpafcogaaGreat
open Go.RowKit Go.Mem Go.Txt
section
variable {P:Program} {w:World} {o:Oper} {a:Act} {C:Act→World→Prop} {R:Exit→Act→World→Prop} {t e:TypeId} {s bytes:Nat} {z:Value}
theorem c8j(T:SliceT P t e s bytes z){x0:Operand}(ho:o.op= .buildSlice t 1 #[(0,x0)]){v0:Value}(h0:a.eval x0=v0)
 (hsmall:s≤2 ^ 24) {cells:Array Value} (hc:v0.cells=cells) (hcs:cells.size=s)
 (h:∀g w',Made w w' g e cells→C (a.put o.dst (.slice (some ⟨g,0,none⟩) 1 1)) w'):o.wp P a w C R:=by
 obtain⟨i,hi,hz,hs,hb⟩:=info_parts T.2
 have e2:(#[(0,x0)].map fun(p:Nat × Operand)=>(p.1,a.eval p.2)).toList= [(0,v0)]:=by simp [h0]
 have hf:Instr.fill (fun i=>some (i * s,s)) ((Array.range (1 * s)).map (z.cells[· % z.cells.size]!)) [(0,v0)]=some cells:=by
  have hzs:((Array.range (1 * s)).map (z.cells[· % z.cells.size]!)).size=s:=by simp
  subst hc
  unfold Instr.fill
  simp only [hcs,Nat.zero_mul,ne_eq,hzs,Nat.zero_add,gt_iff_lt,Nat.lt_irrefl,decide_false,Bool.or_false,decide_not,decide_true,Bool.not_true,Bool.false_eq_true,if_false,Instr.fill]
  congr 1
  rw [←Array.foldl_toList,Array.toList_zipIdx]
  apply Array.ext_getElem?
  intro j
  refine(b8j v0.cells.toList 0 _ j).trans ?_
  rw [hzs]
  by_cases hj:j < s
  ·rw [if_pos (by rw [Array.length_toList,hcs];omega)];simp
  ·rw [if_neg (by omega),Array.getElem?_eq_none (by rw [hzs];omega),Array.getElem?_eq_none (by omega)]
 exact wp_buildSlice t e 1 _ ho cells i z T.1 hi hz (by rw [hs];omega) (by rw [hs];have:=T.pos;omega) (by rw [hs];exact(congrArg (Instr.fill _ _) e2).trans hf) (h _ _ ⟨Blk.new _ _ _,(Kept.refl [] w).alloc _,Nat.le_refl _⟩)
theorem wp_app{size n m:Nat}{xs news:List Value}(T:SliceT P t e size bytes z)(x y:Operand)
 (ho:o.op= .call {callee:=.builtin .append,args:=#[x,y],argTypes:=#[t,t]}) {v:Value} (hs:a.eval x=v) (hown:Ow w e size v n xs)
 {xv:Value} (hx:a.eval y=xv) (hr:Rd w size xv m news) (h1:∀u∈news,u.oneCell'=true) (hbytes:(n + m) * bytes≤140737488355328) (h63:n + m≤9223372036854775807)
 (h:∀v' w',Ow w' e size v' (n + m) (xs ++ news)→Kept v.ownBlock.toList w w'→(v'.ownBlock=v.ownBlock∨v'.ownBlock=some w.heap.size)→C (a.put o.dst v') w'):o.wp P a w C R:=by
 obtain⟨v',w',hrun,h2,h3,h4⟩:=c5c T o.type hown hr h1 hbytes h63
 unfold Oper.wp execOp
 simp only [ho,resolve,invoke,builtin,Sem.run_bind,Sem.run_pure,Result.andThen_ok,List.map_toArray,List.map_cons,List.map_nil,hs,hx,hrun]
 exact h _ _ h2 h3 h4
end
section
variable {l:List Oper} {vs:List Rel} {a0:Act} {w0:World} {o:Oper}
def a6z(key:List UInt8):Rel:=fun v w=>Rd w 32 v [key].length ([key].flatMap bv)
theorem a6z.a0o{key:List UInt8}{v:Value}{w w':World}(h:a6z key v w)(k:Kept [] w w'):a6z key v w':=Rd.a0o h k
theorem d5n{x i:Nat}{key:List UInt8}{oi:Oper}(hk:key.length=32)(ho:o.op= .buildSlice 106 1 #[(0,.tmp x)])
 (hi:vs[i]?=some (isV (ab key))) (hl:l[i]?=some oi) (hd:oi.dst=some x) (hb:a1t o i):a4u Tryz.prog l vs (fun u=>Kept [] w0 u) a0 o (a6z key):=by
 refine⟨fun _ _ _ h hk=>a6z.a0o h hk,fun a w C R hS hr _ h=>?_⟩
 have e:a.tmps.getD x undef=ab key:=hr i _ x oi hi hl hd hb
 exact c8j c8f ho (show a.eval (.tmp x)=ab key from e) (by decide) (cells:=(bv key).toArray) rfl (by simpa using hk) fun g w' m=>h _ _ m.kept (d4q m.blk hk)
def c8m(keys:List (List UInt8))(K:Nat):Rel:=fun v w=>Ow w 22 32 v keys.length (keys.flatMap bv)∧∀k,v.ownBlock=some k→K≤k
theorem c8m.a0o{keys:List (List UInt8)}{K:Nat}{v:Value}{w w':World}(h:c8m keys K v w)(k:Kept [] w w'):c8m keys K v w':=⟨h.1.a0o k,h.2⟩
end
theorem b8t(xs:Array Value)(w:World):(callFunc 125 xs).run Tryz.prog w= .ok (.enter 125 xs) w:=enters_of (c:=_) Tryz.func125 (by kernel_rfl) rfl xs w
theorem d1d{a:Act}{o:Oper}{x g:Nat}(ho:o.op= .fieldAddr 104 (.tmp x) 2)(W:World)(hx:a.tmps.getD x undef= .pointer (some ⟨g,0,none⟩)):(execOp a.eval o).run Tryz.prog W= .ok (.value (.pointer (some ⟨g,33,none⟩))) W:=by
 unfold execOp
 simp only [ho,Sem.run_bind,Act.eval,hx]
 have h:(Instr.fieldAt 104 (.pointer (some ⟨g,0,none⟩)) 2).run Tryz.prog W= .ok (.pointer (some ⟨g,0 + 33,none⟩)) W:=by kernel_rfl
 rw [Nat.zero_add]at h
 rw [h]
 rfl
set_option maxHeartbeats 3200000 in
theorem d9d{keys:List (List UInt8)}{id key sig:List UInt8}{ver:Int}(v:Value)(w:World)(hr:Rd w 32 v keys.length (keys.flatMap bv))(hx:keys.length≤1000000)(L:UpL id key sig)
 (cs:∀u,Calls Tryz.prog 61 #[b0r id ver key sig] u fun e w'=>e= .returned (.bool true)∧Kept [] u w') (he:ver=(keys.length:Int) + 1) :
 Calls Tryz.prog 60 #[v,b0r id ver key sig] w fun e w'=>∃v',e= .returned (.tuple #[v',.int .i64 0])∧(Ow w' 22 32 v' (keys ++ [key]).length ((keys ++ [key]).flatMap bv)∧∀j,v'.ownBlock=some j→w.heap.size≤j)∧Kept [] w w':=by
 have ck:=hjd (fun u h=>c8g v keys u h hx)
 have H:=hjd hr
 obtain⟨VA,vc,rfl,_⟩:=hr
 have hz:=hjd (a3g (ver:=ver) L)
 have hne2:(ver !=((keys.length:Int) + 1))=false:=by rw [he];simp
 have he2:((keys.length:Int) + 1 !=(keys.length:Int) + 1)=false:=by simp
 replace cs:=hjd cs
 replace L:=hjd L
 replace he:=hjd he
 go_enter Tryz.func60,Tryz.ntmps60
 go_wp2_with (first
  | ((with_reducible refine a0l 3 ?_);(refine a0q (o:=⟨some 3,_,_,_,_,_⟩) (v:=b0r id ver key sig) rfl (.tmp 1) rfl rfl ?_);intro g3 w3 m3;have B3:=hjd (show Blk w3 g3 104 (a2a id ver key sig).toArray from m3.blk);have KK:=hjd m3.kept;clear m3)
  | ((with_reducible refine a0l 7 ?_);refine a0d (cs:=(a2a id ver key sig).toArray) (o:=⟨some 7,_,_,_,_,_⟩) b0d rfl (.tmp 3) rfl rfl B3.out (List.size_toArray.trans hz.out) ?_)
  | (go_at_call 61;(with_reducible refine(cs.out _).mono ?_);rintro e v8 ⟨rfl,k8⟩;replace B3:=hjd (B3.out.kept k8 (by simp));have q1:=a2w L.out B3.out;replace KK:=hjd (KK.out.a0g k8);clear k8))
 have H2:=hjd (H.out.a0o KK.out)
 clear q1
 refine Txt.d6q (by kernel_rfl) [Txt.isV (.slice VA keys.length vc),c8m keys v8.heap.size,Txt.isV (.pointer (some ⟨g3,33,none⟩)),Txt.isV (ab key),a6z key] (fun u=>Kept [] v8 u) (by kernel_rfl) (by simp) (by kernel_rfl) ((Kept.refl [] v8).drew) (fun u u2 h k=>h.a0g k) ⟨?_,?_,?_,?_,?_,trivial⟩ ?_
 ·exact a1w (x:=0) rfl (by decide) fun a W hx=>a3v rfl W hx
 ·refine Txt.a1y rfl b8t (fun v u u2 h k=>c8m.a0o h k) fun a u hS hr _=>?_
  have e0:a.tmps.getD 17 undef=(.slice VA keys.length vc):=hr 0 _ 17 _ rfl rfl rfl ⟨⟨0,.data⟩,by simp,rfl,rfl⟩
  have hm:Array.map a.eval #[.tmp 17]= #[(.slice VA keys.length vc)]:=by simp only [List.map_toArray,List.map_cons,List.map_nil,Act.eval,e0]
  rw [hm]
  refine((ck.out u (H2.out.a0o hS))).mono ?_
  rintro e u2 ⟨v,rfl,ho,hk,hf⟩
  exact⟨v,rfl,⟨ho,fun k h=>Nat.le_trans hS.size (hf k h)⟩,hk⟩
 ·exact a1w (x:=3) rfl (by decide) fun a W hx=>d1d rfl W hx
 ·refine a4i fun a u hS hr _=>?_
  have e0:=hr 2 _ 19 _ rfl rfl rfl ⟨⟨2,.data⟩,by simp,rfl,rfl⟩
  exact a3i a2f.row (.tmp 19) rfl e0 (b4t L.out (B3.out.kept hS (by simp))) (by simpa using L.out.key)
 ·exact d5n (x:=20) (i:=3) L.out.key rfl rfl rfl rfl ⟨⟨3,.data⟩,by simp,rfl,rfl⟩
 intro v wc kc hv
 have v0:v 0=(.slice VA keys.length vc):=hv 0 _ rfl
 have h1:(c8m keys v8.heap.size) (v 1) wc:=hv 1 _ rfl
 have v2:v 2=(.pointer (some ⟨g3,33,none⟩)):=hv 2 _ rfl
 have v3:v 3=(ab key):=hv 3 _ rfl
 have h4:(a6z key) (v 4) wc:=hv 4 _ rfl
 clear hv
 simp [Txt.a0z,List.range,List.range.loop,Act.put,v0,v2,v3]
 generalize v 1=u1 at *
 generalize v 4=u4 at *
 clear v0 v2 v3
 obtain⟨o18,f18⟩:=h1
 have r4:Rd wc 32 u4 [key].length ([key].flatMap bv):=h4
 unfold Txt.b0h
 refine wp_app c8f (.tmp 18) (.tmp 21) rfl rfl o18 rfl r4 (c5a [key]) (by simp;omega) (by simp;omega) ?_
 intro x22 w22 o22 k22 b22
 have F22:=hjd (show∀j,x22.ownBlock=some j→w.heap.size≤j from fun j hj=>by
  have h1:=KK.out.size
  rcases b22 with b | b
  ·exact Nat.le_trans h1 (f18 j (b.symm.trans hj))
  ·have h2:=kc.size
   have:some wc.heap.size=some j:=b.symm.trans hj
   cases this
   omega)
 have O22:=hjd o22
 have KF:=hjd ((KK.out.a0g kc).fresh k22 (fun k hk=>Nat.le_trans KK.out.size (f18 k (Option.mem_toList.1 hk))))
 obtain⟨YA,yc,rfl,_⟩:=o22.shape
 clear k22 o22 o18 f18 r4 h4 b22
 simp only [Act.put]
 unfold Txt.b0h
 refine a8c (v:=.slice YA (keys.length + [key].length) yc) rfl ?_
 unfold Txt.b0h
 refine a8c (v:=.int .i64 0) rfl ?_
 unfold Txt.b0h
 simp [Act.put]
 go_wp2_with fail
 go_ret2
 refine⟨_,rfl,⟨?_,F22.out⟩,KF.out⟩
 simpa using O22.out
theorem d6h{keys:List (List UInt8)}{id key sig:List UInt8}{ver:Int}(v:Value)(w:World)(hr:Rd w 32 v keys.length (keys.flatMap bv))(hx:keys.length≤1000000)(L:UpL id key sig)
 (cs:∀u,Calls Tryz.prog 61 #[b0r id ver key sig] u fun e w'=>e= .returned (.bool true)∧Kept [] u w') (he:ver=(keys.length:Int) + 1) :
 Calls Tryz.prog 60 #[v,b0r id ver key sig] w fun e w'=>∃v',e= .returned (.tuple #[v',.int .i64 0])∧Rd w' 32 v' (keys ++ [key]).length ((keys ++ [key]).flatMap bv)∧Kept [] w w':=by
 refine(d9d v w hr hx L cs he).mono ?_
 rintro e w' ⟨v',rfl,ho,hk⟩
 exact⟨v',rfl,Rd.a6u ho.1,hk⟩
end Go.Proofs.YtdbngnlpafcogaaGreat
namespace Go.Proofs.YtdbngnlpafcogaaGreat
open Go.RowKit Go.Mem Go.Txt
noncomputable def sigU (seed:List UInt8) (ver:Int) (key:List UInt8):List UInt8:=b9g seed (b4e 1 (b5r ver key))
noncomputable def idU (seed:List UInt8):List UInt8:=d1g (c2h seed)
theorem c6s(seed:List UInt8)(ver:Int){key:List UInt8}(hk:key.length=32):UpL (idU seed) key (sigU seed ver key):=⟨b1a _,hk,d5c _ _⟩
theorem d6z{seed key:List UInt8}(ver:Int)(hs:seed.length=32)(hk:key.length=32)(w:World) :
 Calls Tryz.prog 59 #[ab seed,.int .i64 ver,ab key] w fun e w'=>e= .returned (b0r (idU seed) ver key (sigU seed ver key))∧Kept [] w w':=
 d4x hs (c6s seed ver hk) (fun u=>c8p _ hs u) (fun u=>c0c ver hk u) (seal_c 1 1 rfl hs (by rw [c7a hk];decide)) w
theorem e3d(seed:List UInt8)(ver:Int)(key:List UInt8):okU (idU seed) ver key (sigU seed ver key)=decide (1≤ver∧ver≤64):=by
 unfold okU sigU idU
 rw [e4e,Bool.and_true]
end Go.Proofs.YtdbngnlpafcogaaGreat
namespace Go.Proofs.YtdbngnlpafcogaaGreat
open Go.RowKit Go.Mem Go.Txt
def fcN{α:Type}(n:Nat)(f:Nat→α):α:=match n with
 | 0=>f 0
 | k + 1=>f (k + 1)
theorem fcN_eq{α:Type}(n:Nat)(f:Nat→α):fcN n f=f n:=by cases n <;> rfl
def fcB{α:Type}(x:B32)(f:B32→α):α:=fcN x.toNat fun n=>f (BitVec.ofNat 32 n)
theorem c5e{α:Type}(x:B32)(f:B32→α):fcB x f=f x:=by unfold fcB;rw [fcN_eq,BitVec.ofNat_toNat,BitVec.setWidth_eq]
def nxtB(w:List B32):B32:=ls1 (w.getD 14 0) + w.getD 9 0 + ls0 (w.getD 1 0) + w.getD 0 0
def goB:List Nat→List B32→B32→B32→B32→B32→B32→B32→B32→B32→List B32
 | [],_,a,b,c,d,e,f,g,h=>[a,b,c,d,e,f,g,h]
 | k :: ks,w,a,b,c,d,e,f,g,h=>
   fcB (h + us1 e + chB e f g + b3p k + w.getD 0 0) fun t=>
   fcB (t + (us0 a + mjB a b c)) fun x=>
   fcB (d + t) fun y=>
   fcB (nxtB w) fun z=>goB ks (w.tail ++ [z]) x a b c y e f g
theorem e1u(p:Nat→UInt8)(h0:Nat→B32):∀(ks:List Nat) (t:Nat) (w:List B32) (a b c d e f g h:B32),(∀j,j < ks.length→ks.getD j 0=a1z.getD (t + j) 0)→w.length=16→(∀i,i < 16→w.getD i 0=sch p (t + i))→
 a5c p h0 t 0=a→a5c p h0 t 1=b→a5c p h0 t 2=c→a5c p h0 t 3=d→a5c p h0 t 4=e→a5c p h0 t 5=f→a5c p h0 t 6=g→a5c p h0 t 7=h→
 goB ks w a b c d e f g h=(List.range 8).map (a5c p h0 (t + ks.length))
 | [],t,w,_,_,_,_,_,_,_,_,_,_,_,e0,e1,e2,e3,e4,e5,e6,e7=>by
   subst e0 e1 e2 e3 e4 e5 e6 e7
   rfl
 | k :: ks,t,w,_,_,_,_,_,_,_,_,hk,hl,hw,e0,e1,e2,e3,e4,e5,e6,e7=>by
   unfold goB
   rw [c5e,c5e,c5e,c5e]
   have ek:k=a1z.getD t 0:=by have:=hk 0 (by simp);simpa using this
   have ew:w.getD 0 0=sch p t:=hw 0 (by decide)
   have en:nxtB w=sch p (t + 16):=by
    unfold nxtB
    rw [hw 14 (by decide),hw 9 (by decide),hw 1 (by decide),hw 0 (by decide),c0z p (t:=t + 16) (by omega)]
    rfl
   have hk2:∀j,j < ks.length→ks.getD j 0=a1z.getD (t + 1 + j) 0:=fun j hj=>by
    have:=hk (j + 1) (by simp;omega)
    rw [show t + 1 + j=t + (j + 1)from by omega,←this]
    simp
   have hw2:∀i,i < 16→(w.tail ++ [nxtB w]).getD i 0=sch p (t + 1 + i):=fun i hi=>by
    by_cases h15:i=15
    ·subst h15
     rw [List.getD_eq_getElem?_getD,List.getElem?_append_right (by simp [hl]),show t + 1 + 15=t + 16 from by omega,←en]
     simp [hl]
    ·have hi2:i + 1 < 16:=by omega
     have:=hw (i + 1) hi2
     rw [show t + 1 + i=t + (i + 1)from by omega,←this,List.getD_eq_getElem?_getD,List.getElem?_append_left (by simp [hl];omega),List.getD_eq_getElem?_getD]
     simp
   have r0:a5c p h0 (t + 1) 0=a5c p h0 t 7 + us1 (a5c p h0 t 4) + chB (a5c p h0 t 4) (a5c p h0 t 5) (a5c p h0 t 6) + b3p k + w.getD 0 0 + (us0 (a5c p h0 t 0) + mjB (a5c p h0 t 0) (a5c p h0 t 1) (a5c p h0 t 2)):=by
    rw [ek,ew];rfl
   have r4:a5c p h0 (t + 1) 4=a5c p h0 t 3 + (a5c p h0 t 7 + us1 (a5c p h0 t 4) + chB (a5c p h0 t 4) (a5c p h0 t 5) (a5c p h0 t 6) + b3p k + w.getD 0 0):=by
    rw [ek,ew];rfl
   subst e0 e1 e2 e3 e4 e5 e6 e7
   refine(e1u p h0 ks (t + 1) _ _ _ _ _ _ _ _ _ hk2 (by simp [hl]) hw2 r0 rfl rfl rfl r4 rfl rfl rfl).trans ?_
   rw [List.length_cons,show t + 1 + ks.length=t + (ks.length + 1)from by omega]
def c9c:List Nat:=a1z.take 64
theorem c2a:c9c.length=64:=by decide +kernel
theorem d5i(j:Nat)(h:j < c9c.length):c9c.getD j 0=a1z.getD j 0:=by
 rw [c2a]at h
 unfold c9c
 rw [List.getD_eq_getElem?_getD,List.getElem?_take,if_pos h,List.getD_eq_getElem?_getD]
def blkB(p:Nat→UInt8)(h:List B32):List B32:=
 (List.zipWith (· + ·) h (goB c9c ((List.range 16).map (d7q p)) (h.getD 0 0) (h.getD 1 0) (h.getD 2 0) (h.getD 3 0) (h.getD 4 0) (h.getD 5 0) (h.getD 6 0) (h.getD 7 0)))
theorem e2j(p:Nat→UInt8)(h:Nat→B32):blkB p ((List.range 8).map h)=(List.range 8).map (blk p h):=by
 unfold blkB
 have hz:∀i,i < 8→((List.range 8).map h).getD i 0=h i:=fun i hi=>by simp [List.getD_eq_getElem?_getD,hi]
 rw [hz 0 (by decide),hz 1 (by decide),hz 2 (by decide),hz 3 (by decide),hz 4 (by decide),hz 5 (by decide),hz 6 (by decide),hz 7 (by decide)]
 have q:=e1u p h c9c 0 ((List.range 16).map (d7q p)) (h 0) (h 1) (h 2) (h 3) (h 4) (h 5) (h 6) (h 7) (fun j hj=>by rw [Nat.zero_add];exact d5i j hj) (by simp) (fun i hi=>by
  rw [Nat.zero_add,c1j p hi]
  simp [List.getD_eq_getElem?_getD,hi]) rfl rfl rfl rfl rfl rfl rfl rfl
 rw [q,c2a]
 rfl
def d6m(b:List UInt8):Nat→List B32
 | 0=>a3o.map b3p
 | n + 1=>blkB (fun j=>b.getD (64 * n + j) 0) (d6m b n)
theorem c5m(b:List UInt8):∀n,d6m b n=(List.range 8).map (a5f b n)
 | 0=>rfl
 | n + 1=>by unfold d6m;rw [c5m b n,e2j];rfl
def shaB(m:List UInt8):List UInt8:=(List.range 32).map fun j=>UInt8.ofNat (((d6m (pad m) ((pad m).length / 64)).getD (j / 4) 0).toNat / 2 ^ (24 - 8 * (j % 4)))
theorem b9c(m:List UInt8):sha m=shaB m:=by
 unfold sha shaB c0w
 apply List.map_congr_left
 intro j hj
 have hj2:j < 32:=List.mem_range.1 hj
 have h8:j / 4 < 8:=by omega
 rw [c5m]
 simp [List.getD_eq_getElem?_getD,h8]
end Go.Proofs.YtdbngnlpafcogaaGreat
namespace Go.Proofs.YtdbngnlpafcogaaGreat
open Go.RowKit Go.Mem Go.Txt
theorem val_ne:(c9z [] == c9z [a0e 32])=false:=by
 have e0:c9z []=shaB (2 :: (be8 0 ++ a0e 32)):=by rw [←b9c];rfl
 have e1:c9z [a0e 32]=shaB (2 :: (be8 1 ++ shaB (3 :: (a0e 32 ++ a0e 32)))):=by rw [←b9c,←b9c];rfl
 rw [e0,e1]
 decide +kernel
end Go.Proofs.YtdbngnlpafcogaaGreat
namespace Go.Proofs.YtdbngnlpafcogaaGreat
open Go.RowKit Go.Mem Go.Txt
theorem hlit5:Value.agg ((bv (a0e 32)).set 0 (.int .u8 5)).toArray=ab (le 5 32):=by kernel_rfl
theorem hlit6:Value.agg ((bv (a0e 32)).set 0 (.int .u8 6)).toArray=ab (le 6 32):=by kernel_rfl
set_option maxHeartbeats 3200000 in
theorem c3d{s k K S Z V0 V1:List UInt8}(hs:s.length=32)(L:UpL K k S)(hzl:Z.length=32)(h0:V0.length=32)(h1:V1.length=32)(hv:(V0 == V1)=false)(l5:Value.agg ((bv Z).set 0 (.int .u8 5)).toArray=ab s)(l6:Value.agg ((bv Z).set 0 (.int .u8 6)).toArray=ab k)(l0:Value.agg #[.int .u8 0,.int .u8 0,.int .u8 0,.int .u8 0,.int .u8 0,.int .u8 0,.int .u8 0,.int .u8 0,.int .u8 0,.int .u8 0,.int .u8 0,.int .u8 0,.int .u8 0,.int .u8 0,.int .u8 0,.int .u8 0,.int .u8 0,.int .u8 0,.int .u8 0,.int .u8 0,.int .u8 0,.int .u8 0,.int .u8 0,.int .u8 0,.int .u8 0,.int .u8 0,.int .u8 0,.int .u8 0,.int .u8 0,.int .u8 0,.int .u8 0,.int .u8 0]=ab Z)
 (cm:∀u,Calls Tryz.prog 59 #[ab s,.int .i64 1,ab k] u fun e w'=>e= .returned (b0r K 1 k S)∧Kept [] u w')
 (c2:∀u,Calls Tryz.prog 60 #[.slice none 0 0,Value.agg (a2a K 1 k S).toArray] u fun e w'=>∃v',e= .returned (.tuple #[v',.int .i64 0])∧a6z k v' w'∧Kept [] u w')
 (c3:∀u v,a6z k v u→Calls Tryz.prog 60 #[v,Value.agg (a2a K 1 k S).toArray] u fun e w'=>e= .returned (.tuple #[.slice none 0 0,.int .i64 111])∧Kept [] u w')
 (cg:∀u,Calls Tryz.prog 61 #[Value.agg (a2a K 1 k S).toArray] u fun e w'=>e= .returned (.bool true)∧Kept [] u w')
 (v0:∀u,Calls Tryz.prog 62 #[.slice none 0 0] u fun e w'=>e= .returned (ab V0)∧Kept [] u w')
 (v1:∀u x,a6z Z x u→Calls Tryz.prog 62 #[x] u fun e w'=>e= .returned (ab V1)∧Kept [] u w') (w:World) :
 Calls Tryz.prog 15 #[] w fun e w'=>e= .returned (.bool true)∧Kept [] w w':=by
 have ho:=hjd (a7x (id:=K) (key:=k) (sig:=S) (ver:=1))
 have hz:=hjd (a3g (ver:=0) (show UpL (a0e 32) (a0e 32) (a0e 64)from⟨rfl,rfl,rfl⟩))
 have hz2:=hjd (a3g (ver:=1) L)
 have q1:=c3m (b:=true) (beq_self_eq_true k) L.key L.key
 have q2:=c3m hv h0 h1
 have hzn:¬Z= []:=by
  intro h
  rw [h]at hzl
  cases hzl
 replace hs:=hjd hs
 replace L:=hjd L
 replace hzl:=hjd hzl
 replace cm:=hjd cm
 replace c2:=hjd c2
 replace c3:=hjd c3
 replace cg:=hjd cg
 replace v0:=hjd v0
 replace v1:=hjd v1
 clear hv h0 h1
 have t:=hjd (Pm.none w)
 go_enter Tryz.func15,Tryz.ntmps15
 go_wp2_with (first
  | (go_at_call 59;(with_reducible refine(cm.out _).mono ?_);rintro e u8 ⟨rfl,kk⟩;replace t:=hjd (t.out.kept kk);clear kk)
  | ((with_reducible refine a0l 1 ?_);(refine a0h (o:=⟨some 1,_,_,_,_,_⟩) rfl rfl a4a ?_);intro g1 w1 m1
     have B1:=hjd (show Blk w1 g1 104 (a2a (a0e 32) 0 (a0e 32) (a0e 64)).toArray from m1.blk)
     refine a0c (cs:=(a2a K 1 k S).toArray) (o:=⟨none,Op.store 104 (.tmp 1) (.tmp 8),_,_,_,_⟩) b0d rfl (.tmp 1) (.tmp 8) rfl rfl rfl B1.out (List.size_toArray.trans hz.out) (List.size_toArray.trans hz2.out) ho.out ?_
     intro wb b1 k1
     replace t:=hjd (t.out.put m1 b1 k1)
     clear m1 b1 k1 B1)
  | ((with_reducible refine a0l 10 ?_);refine a0d (cs:=(a2a K 1 k S).toArray) (o:=⟨some 10,_,_,_,_,_⟩) b0d rfl (.tmp 1) rfl rfl (t.out.s (g1,104,(a2a K 1 k S).toArray) (by simp)) (List.size_toArray.trans hz2.out) ?_)
  | (go_at_call 60;(with_reducible refine(c2.out _).mono ?_);rintro e u11 ⟨x11,rfl,r11,kk⟩
     obtain⟨b2,o2,cp2,rfl,_⟩:=Rd.at_ (n:=1) r11 (by decide)
     have R:=hjd r11
     replace t:=hjd (t.out.kept kk);clear kk r11)
  | ((with_reducible refine a0l 16 ?_);refine a0d (cs:=(a2a K 1 k S).toArray) (o:=⟨some 16,_,_,_,_,_⟩) b0d rfl (.tmp 1) rfl rfl (t.out.s (g1,104,(a2a K 1 k S).toArray) (by simp)) (List.size_toArray.trans hz2.out) ?_)
  | (go_at_call 60;(with_reducible refine(c3.out _ _ R.out).mono ?_);rintro e u17 ⟨rfl,kk⟩
     replace t:=hjd (t.out.kept kk);replace R:=hjd (a6z.a0o R.out kk);clear kk)
  | ((with_reducible refine a0l 20 ?_);refine a0d (cs:=(a2a K 1 k S).toArray) (o:=⟨some 20,_,_,_,_,_⟩) b0d rfl (.tmp 1) rfl rfl (t.out.s (g1,104,(a2a K 1 k S).toArray) (by simp)) (List.size_toArray.trans hz2.out) ?_)
  | (go_at_call 61;(with_reducible refine(cg.out _).mono ?_);rintro e u21 ⟨rfl,kk⟩
     replace t:=hjd (t.out.kept kk);replace R:=hjd (a6z.a0o R.out kk);clear kk)
  | ((with_reducible refine a0l 33 ?_);refine a5h (i:=0) (n:=1) (o:=⟨some 33,_,_,_,_,_⟩) c8f rfl (.tmp 32) (.const (.int .i64 0)) rfl rfl rfl (by decide) ?_)
  | ((with_reducible refine a0l 34 ?_);refine a1k (o:=⟨some 34,_,_,_,_,_⟩) (cs:=bv k) a2f.row rfl (.tmp 33) rfl rfl (Rd.elem (i:=0) (n:=1) (pre:=[]) (post:=[]) R.out (by simp) (by simp) (by decide)) (by simpa using L.out.key) ?_)
  | (go_at_call 62;(with_reducible refine(v0.out _).mono ?_);rintro e u43 ⟨rfl,kk⟩;replace t:=hjd (t.out.kept kk);clear kk)
  | ((with_reducible refine a0l 45 ?_);(refine a1c (o:=⟨some 45,_,_,_,_,_⟩) (v0:=ab Z) (cells:=(bv Z).toArray) rfl c8f rfl rfl (by decide) rfl (by simpa using hzl.out) ?_);intro g45 w45 m45
     have R45:=hjd (show a6z Z (.slice (some ⟨g45,0,none⟩) 1 1) w45 from d4q m45.blk hzl.out)
     replace t:=hjd (t.out.kept m45.kept)
     clear m45)
  | (go_at_call 62;(with_reducible refine(v1.out _ _ R45.out).mono ?_);rintro e u46 ⟨rfl,kk⟩;replace t:=hjd (t.out.kept kk);clear kk))
 go_ret
 exact⟨rfl,t.out.k⟩
theorem b7e(w:World):Calls Tryz.prog 15 #[] w fun e w'=>e= .returned (.bool true)∧Kept [] w w':=by
 have hs:=a0w 5 32
 have hk:=a0w 6 32
 have L:=c6s (le 5 32) 1 hk
 have hok:okU (idU (le 5 32)) 1 (le 6 32) (sigU (le 5 32) 1 (le 6 32))=true:=by rw [e3d];rfl
 have cg:=fun u=>c8l 1 L u
 rw [hok]at cg
 refine c3d hs L (by rfl) (a4q _) (a4q _) val_ne hlit5 hlit6 e1v (fun u=>d6z 1 hs hk u) (fun u=>?_) (fun u v h=>?_) cg (fun u=>?_) (fun u x h=>?_) w
 ·exact d6h (keys:=[]) (.slice none 0 0) u (Rd.nil _ _) (by simp) L cg rfl
 ·exact d8t (keys:=[le 6 32]) v h (by simp) L u cg (by simp)
 ·exact c2c (.slice none 0 0) [] u (Rd.nil _ _) (by simp) (by simp)
 ·exact c2c x [a0e 32] u h (by simp) (by simp)
end Go.Proofs.YtdbngnlpafcogaaGreat
