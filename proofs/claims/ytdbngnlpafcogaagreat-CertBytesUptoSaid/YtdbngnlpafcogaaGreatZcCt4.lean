/-
  Certificates: what is made of shares (Make): the walk.
-/
import Derived.Test.YtdbngnlpafcogaaGreatZcJ06
set_option maxRecDepth 100000
namespace Go.Proofs.YtdbngnlpafcogaaGreat
open Go.RowKit Go.Mem Go.Txt
abbrev Shr:=Int × List UInt8
def shC(p:Shr):List Value:=.int .i64 p.1 :: bv p.2
def d0e(ok:Nat→List UInt8→Bool)(B:Nat→Option Nat)(i:Nat)(p:Shr):Nat→Option Nat:=
 if 0≤p.1∧p.1 < 7∧B p.1.toNat=none∧ok p.1.toNat p.2=true then fun k=>if k=p.1.toNat then some i else B k else B
def a8c(ok:Nat→List UInt8→Bool)(sh:List Shr):Nat→Nat→Option Nat
 | 0=>fun _=>none
 | j + 1=>d0e ok (a8c ok sh j) j (sh.getD j (0,[]))
def d5n(B:Nat→Option Nat):Nat:=((List.range 7).filter fun k=>(B k).isSome).length
theorem filter_one(p:Nat→Bool)(m:Nat):(List.filter p [m]).length=if p m=true then 1 else 0:=by
 cases hp:p m <;> simp [List.filter,hp]
theorem e6x{B:Nat→Option Nat}{n i:Nat}(hn:n < 7)(hB:B n=none):d5n (fun k=>if k=n then some i else B k)=d5n B + 1:=by
 have e:∀m,((List.range m).filter fun k=>(if k=n then some i else B k).isSome).length=((List.range m).filter fun k=>(B k).isSome).length + (if n < m then 1 else 0):=by
  intro m
  induction m with
  | zero=>rfl
  | succ m ih=>
    rw [List.range_succ,List.filter_append,List.filter_append,List.length_append,List.length_append,ih,filter_one,filter_one];by_cases h:m=n
    ·subst h;rw [if_neg (Nat.lt_irrefl _),if_pos rfl,hB,if_pos (show(some i).isSome=true from rfl),if_neg (show ¬(none:Option Nat).isSome=true from by simp),if_pos (by omega)]
    ·rw [if_neg h];by_cases h2:n < m
     ·rw [if_pos h2,if_pos (show n < m + 1 by omega)];omega
     ·rw [if_neg h2,if_neg (show ¬n < m + 1 by omega)];omega
 have:=e 7;rw [if_pos hn]at this;exact this
theorem e1x(B:Nat→Option Nat):d5n B≤7:=Nat.le_trans (List.length_filter_le _ _) (by simp)
def e2h(gs os:Nat)(x:Option Nat):Value:=match x with
 | none=>.pointer none
 | some i=>.pointer (some ⟨gs,os + i * 65 + 1,none⟩)
theorem d2g:SliceT Tryz.prog 194 132 65 72 (.agg (shC (0,a0m 64)).toArray):=⟨Tryz.underlying194,by kernel_rfl,rfl,by omega⟩
theorem arr7:EntT Tryz.prog 196 195 7 1:=⟨Tryz.underlying196,by kernel_rfl,by kernel_rfl,by decide⟩
theorem zero7:(Tryz.prog.info? 196).map (·.zero)=some (some (.agg ((fam 7 (fun _=>(none:Option Nat))).map (e2h 0 0)).toArray)):=by kernel_rfl
theorem a2v:(Tryz.prog.info? 56).map (·.zero)=some (some (.agg #[.slice none 0 0,.slice none 0 0,.slice none 0 0])):=by kernel_rfl
theorem e2p{sh:List Shr}(h:∀p∈sh,p.2.length=64):∀j,j≤sh.length→((sh.take j).flatMap shC).length=j * 65:=by
 intro j
 induction j with
 | zero=>simp
 | succ j ih=>
   intro hj;have e:sh.take (j + 1)=sh.take j ++ [sh[j]'(by omega)]:=List.take_succ_eq_append_getElem (by omega);rw [e,List.flatMap_append,List.length_append,ih (by omega)];have:(sh[j]'(by omega)).2.length=64:=h _ (List.getElem_mem _);simp [shC,this];omega
theorem c8l{sh:List Shr}{j:Nat}(hj:j < sh.length):sh.flatMap shC=(sh.take j).flatMap shC ++ (shC (sh.getD j (0,[])) ++ (sh.drop (j + 1)).flatMap shC):=by
 have e:sh=sh.take j ++ (sh.getD j (0,[]) :: sh.drop (j + 1)):=by
  rw [List.getD_eq_getElem?_getD,List.getElem?_eq_getElem hj];simp
 conv=>lhs;rw [e]
 rw [List.flatMap_append,List.flatMap_cons]
theorem sh_at{sh:List Shr}{j:Nat}(hj:j < sh.length)(h:∀p∈sh,p.2.length=64):(sh.getD j (0,[])).2.length=64:=by
 rw [List.getD_eq_getElem?_getD,List.getElem?_eq_getElem hj];exact h _ (List.getElem_mem _)
theorem a8a{u:World}{g o:Nat}{xs:List Value}(h:u.rangeAt g o xs){j:Nat}{v:Value}(hj:xs[j]?=some v):u.cell? ⟨g,o + j,none⟩=some v:=h j v hj
theorem c0w{u:World}{g gs os:Nat}{B:Nat→Option Nat}(h:Blk u g 196 ((fam 7 B).map (e2h gs os)).toArray){m:Nat}{x:Option Nat}(hm:m < 7)(hB:B m=x):u.cell? ⟨g,m,none⟩=some (e2h gs os x):=by
 rw [h.a8v m hm,hB]
theorem idx7{g m:Nat}(hm:m < 7)(W:World):(Instr.indexAt 196 (.pointer (some ⟨g,0,none⟩)) (.int .i64 (m:Int))).run Tryz.prog W= .ok (.pointer (some ⟨g,m,none⟩)) W:=by
 have:=arr7.run (g:=g) hm .i64 W
 rwa [Nat.one_mul]at this
theorem b4b{u:World}{g o:Nat}{x:Value}{xs:List Value}(h:u.rangeAt g o (x :: xs)):u.rangeAt g (o + 1) xs:=by
 intro j v hj;have:=h (j + 1) v (by simpa using hj)
 rwa [show o + (j + 1)=o + 1 + j from by omega]at this
def a6b(B:Nat→Option Nat)(q:Nat):Nat→List Nat
 | 0=>[]
 | j + 1=>if (B j).isSome=true∧(a6b B q j).length < q then a6b B q j ++ [j]else a6b B q j
def b7x(sh:List Shr)(B:Nat→Option Nat)(k:Nat):List UInt8:=(sh.getD ((B k).getD 0) (0,[])).2
theorem d5x(B:Nat→Option Nat)(q:Nat):∀j,(a6b B q j).length≤j
 | 0=>Nat.le_refl _
 | j + 1=>by
   have:=d5x B q j;unfold a6b;split
   ·rw [List.length_append];simp;omega
   ·omega
theorem c7b(ok:Nat→List UInt8→Bool)(sh:List Shr):∀j,j≤sh.length→∀k i,a8c ok sh j k=some i→i < sh.length
 | 0,_,k,i,h=>by cases h
 | j + 1,hj,k,i,h=>by
   have ih:=c7b ok sh j (by omega) k i;have e:a8c ok sh (j + 1)=d0e ok (a8c ok sh j) j (sh.getD j (0,[])):=rfl;rw [e]at h;unfold d0e at h;split at h
   ·dsimp only at h
    split at h
    ·cases h
     omega
    ·exact ih h
   ·exact ih h
theorem a7i{S X:List Nat}{w u u':World}(h:Kept S w u)(h2:Kept X u u')(hx:∀k∈X,k < w.heap.size→k∈S):Kept S w u':=h.trans h2 (fun _ _ h=>h) fun k hk hm=>hx k hm hk
theorem a1v(A A2 A3:Option Addr)(n c n2 c2 n3 c3:Nat):(#[Value.slice A n c,.slice A2 n2 c2,.slice A3 n3 c3]).all (·.oneCell')=true:=by simp [Value.oneCell']
theorem a2i:RowT Tryz.prog 56 3:=⟨⟨_,Tryz.underlying56,rfl⟩,by kernel_rfl⟩
theorem arr7R:RowT Tryz.prog 196 7:=⟨⟨_,Tryz.underlying196,rfl⟩,by kernel_rfl⟩
theorem idx7v{gs os:Nat}{B:Nat→Option Nat}{j:Nat}(hj:j < 7)(W:World):(Instr.index 196 (.agg ((fam 7 B).map (e2h gs os)).toArray) (.int .i64 (j:Int))).run Tryz.prog W= .ok (e2h gs os (B j)) W:=
 a6f (T:=⟨Tryz.underlying196,by kernel_rfl⟩) (e:=195) (Tryz.underlying195) rfl (by kernel_rfl) .i64 j hj (by
  have:j < (fam 7 B).length:=by rw [a7c];exact hj
  simp [List.getElem?_eq_getElem this,c0m 7 B j hj]) W
theorem a4c:SliceT Tryz.prog 54 32 64 64 (ab (a0m 64)):=⟨Tryz.underlying54,by kernel_rfl,rfl,by omega⟩
theorem a4d:SliceT Tryz.prog 53 3 1 8 (.int .i64 0):=⟨Tryz.underlying53,by kernel_rfl,rfl,by omega⟩
structure CM (g14:Nat) (w13:World) (J:World→Prop) (body:List UInt8) (xs:List Nat) (sg:Nat→List UInt8) (bv0 sv gv:Value) (u:World):Prop where
 j:J u
 k:Kept [] w13 u
 b:Blk u g14 56 #[bv0,sv,gv]
 m:Ow u 5 1 bv0 body.length (bv body)
 s:Ow u 3 1 sv xs.length (iv (xs.map fun(k:Nat)=>(k:Int)))
 sf:∀k,sv.ownBlock=some k→w13.heap.size≤k
 g:Ow u 32 64 gv xs.length (xs.flatMap fun k=>bv (sg k))
 gf:∀k,gv.ownBlock=some k→w13.heap.size≤k
theorem CM.a0k{g14:Nat}{w13:World}{J:World→Prop}{body:List UInt8}{xs:List Nat}{sg:Nat→List UInt8}{bv0 sv gv:Value}{u u':World}(h:CM g14 w13 J body xs sg bv0 sv gv u)(hj:J u')(hk:Kept [] u u'):CM g14 w13 J body xs sg bv0 sv gv u':=
 ⟨hj,h.k.a0g hk,h.b.kept hk (by simp),h.m.a0k hk,h.s.a0k hk,h.sf,h.g.a0k hk,h.gf⟩
theorem CM.next{g14 j:Nat}{w w13:World}{J:World→Prop}{body:List UInt8}{xs:List Nat}{sg:Nat→List UInt8}{b0 s g s' g':Value}{u uc u1 u2:World}(h:CM g14 w13 J body xs sg b0 s g u)
 (hJ:∀u u' X,(∀k∈X,w.heap.size≤k)→J u→Kept X u u'→J u') (hw:w.heap.size≤w13.heap.size) (hg:w13.heap.size≤g14) (kc:Kept (s.ownBlock.toList ++ g.ownBlock.toList) u uc)
 (r4:isApp u.heap.size 3 1 (xs.length + 1) (iv (xs.map fun(k:Nat)=>(k:Int)) ++ [.int .i64 (j:Int)]) s.ownBlock g.ownBlock.toList s' uc) (r11:isApp u.heap.size 32 64 (xs.length + 1) (xs.flatMap (fun k=>bv (sg k)) ++ bv (sg j)) g.ownBlock s.ownBlock.toList g' uc)
 (k1:Kept [g14] uc u1) (b2:Blk u2 g14 56 #[b0,s',g']) (k2:Kept [g14] u1 u2):CM g14 w13 J body (xs ++ [j]) sg b0 s' g' u2:=by
 have old:∀k,k∈s.ownBlock.toList ++ g.ownBlock.toList→w13.heap.size≤k:=by
  intro k hk;rcases List.mem_append.1 hk with hk | hk
  ·exact h.sf k (Option.mem_toList.1 hk)
  ·exact h.gf k (Option.mem_toList.1 hk)
 have bc:Blk uc g14 56 #[b0,s,g]:=h.b.kept kc fun hk=>by
  rcases List.mem_append.1 hk with hk | hk
  ·exact h.s.a2r h.b (by decide) (Option.mem_toList.1 hk)
  ·exact h.g.a2r h.b (by decide) (Option.mem_toList.1 hk)
 have mc:Ow uc 5 1 b0 body.length (bv body):=h.m.kept kc fun k hk hm=>by
  rcases List.mem_append.1 hm with hm | hm
  ·exact h.m.ne_ h.s (by decide) k hk (Option.mem_toList.1 hm)
  ·exact h.m.ne_ h.g (by decide) k hk (Option.mem_toList.1 hm)
 have k12:Kept [g14] uc u2:=k1.trans' (k2.more fun _ _ h=>h);have hN:∀k∈[g14],w13.heap.size≤k:=by simpa using hg
 refine⟨hJ _ _ [g14] (fun k hk=>Nat.le_trans hw (hN k hk)) (hJ _ _ _ (fun k hk=>Nat.le_trans hw (old k hk)) h.j kc) k12,(h.k.fresh kc old).fresh k12 hN,b2,?_,?_,?_,?_,?_⟩
 ·exact mc.kept k12 fun k hk hm=>by rw [List.mem_singleton.1 hm]at hk;exact mc.a2r bc (by decide) hk
 ·have e:iv ((xs ++ [j]).map fun(k:Nat)=>(k:Int))=iv (xs.map fun(k:Nat)=>(k:Int)) ++ [.int .i64 (j:Int)]:=by simp [iv]
  rw [e,List.length_append];exact r4.1.kept k12 fun k hk hm=>by rw [List.mem_singleton.1 hm]at hk;exact r4.1.a2r bc (by decide) hk
 ·intro k hk;rcases r4.2.1 with e | e
  ·exact h.sf k (e▸hk)
  ·exact Nat.le_trans h.k.size (e k hk)
 ·have e:(xs ++ [j]).flatMap (fun k=>bv (sg k))=xs.flatMap (fun k=>bv (sg k)) ++ bv (sg j):=by simp
  rw [e,List.length_append];exact r11.1.kept k12 fun k hk hm=>by rw [List.mem_singleton.1 hm]at hk;exact r11.1.a2r bc (by decide) hk
 ·intro k hk;rcases r11.2.1 with e | e
  ·exact h.gf k (e▸hk)
  ·exact Nat.le_trans h.k.size (e k hk)
set_option maxHeartbeats 6400000 in
theorem d0k{sh:List Shr}{body:List UInt8}{rp:Option Addr}{q:Nat}{tag:UInt8}{S:List Nat}{J:World→Prop}{ok:Nat→List UInt8→Bool}(bw:Value){SA:Option Addr}{gs os sc:Nat}(w:World)
 (hb:a1o body bw w) (hbl:body.length≤140737488351900) (hs:Rd w 65 (.slice SA sh.length sc) sh.length (sh.flatMap shC)) (hA:0 < sh.length→SA=some ⟨gs,os,none⟩) (hsl:∀p∈sh,p.2.length=64) (hm:sh.length≤1000) (hJ0:J w)
 (hSlt:∀k∈S,k < w.heap.size) (hJ:∀u u' X,(∀k∈X,w.heap.size≤k)→J u→Kept X u u'→J u') (hR:∀u u' s v n xs,0 < s→J u→Kept S u u'→Rd u s v n xs→Rd u' s v n xs)
 (co:∀(n:Nat) sig u v,n < 7→sig.length=64→a1o body v u→J u→Calls Tryz.prog 145 #[.pointer rp,.int .i64 (n:Int),.int .u8 (tag.toNat:Int),v,ab sig] u fun e w'=>e= .returned (.bool (ok n sig))∧J w'∧Kept S u w')
 (cq:∀u,J u→Calls Tryz.prog 146 #[.pointer rp] u fun e w'=>e= .returned (.int .i64 (q:Int))∧w'=u) :
 Calls Tryz.prog 77 #[.pointer rp,.int .u8 (tag.toNat:Int),bw,.slice SA sh.length sc] w fun e w'=>J w'∧Kept S w w'∧
  (((rp=none∨d5n (a8c ok sh sh.length) < q)∧e= .returned (.tuple #[.agg #[.slice none 0 0,.slice none 0 0,.slice none 0 0],.int .i64 80]))∨
   (rp≠none∧q≤d5n (a8c ok sh sh.length)∧∃b2 s2 g2,e= .returned (.tuple #[.agg #[b2,s2,g2],.int .i64 0])∧a1o body b2 w'∧
     Rd w' 1 s2 (a6b (a8c ok sh sh.length) q 7).length (iv ((a6b (a8c ok sh sh.length) q 7).map fun(k:Nat)=>(k:Int)))∧Rd w' 64 g2 (a6b (a8c ok sh sh.length) q 7).length ((a6b (a8c ok sh sh.length) q 7).flatMap fun k=>bv (b7x sh (a8c ok sh sh.length) k)))):=by
 replace hSlt:=hjd hSlt;replace hJ:=hjd hJ;replace hR:=hjd hR;replace co:=hjd co;replace cq:=hjd cq;replace hsl:=hjd hsl;replace hs:=hjd hs;replace hb:=hjd hb;replace hJ0:=hjd hJ0;replace hbl:=hjd hbl;have hbS:=hb.out;obtain⟨BA,bc,rfl,e1⟩:=hbS;clear e1;replace hA:=hjd hA;go_enter Tryz.func77,Tryz.ntmps77;go_wp2_with (first
  | ((with_reducible refine a0f 8 ?_);(refine a0h (o:=⟨some 8,_,_,_,_,_⟩) rfl rfl a2v ?_);intro g8 w8 m8;have B8:=hjd (show Blk w8 g8 56 #[.slice none 0 0,.slice none 0 0,.slice none 0 0]from m8.blk);have N8:=hjd m8.le;have K8:=hjd m8.kept;clear m8)
  | ((with_reducible refine a0f 10 ?_);(refine a0h (o:=⟨some 10,_,_,_,_,_⟩) rfl rfl zero7 ?_);intro g10 w10 m10;have B10:=hjd (show Blk w10 g10 196 ((fam 7 (fun _=>(none:Option Nat))).map (e2h gs os)).toArray from m10.blk);have N10:=hjd (Nat.le_trans K8.out.size m10.le);have NE:=hjd (show g8≠g10 from m10.ne B8.out.lt);replace K8:=hjd (K8.out.a0g m10.kept);replace B8:=hjd (B8.out.kept m10.kept (by simp));clear m10))
 have J1:=hjd (hJ.out _ _ [] (by simp) hJ0.out K8.out);have hs1:=hjd (hs.out.a0k K8.out);have hb1:=hjd (hb.out.a0k K8.out);have hOS:=hjd (Rd.old (S:=[g10]) hs.out (by omega) (by simpa using N10.out));have hOB:=hjd (Rd.old (S:=[g10]) hb.out (by omega) (by simpa using N10.out));go_loopg [11,19] sh.length (fun f x11 x19 wk=>∃j:Nat,j≤sh.length∧f + j=sh.length∧x19= .int .i64 (j:Int)∧x11= .int .i64 (d5n (a8c ok sh j):Int)∧Hid (J wk)∧Hid (Kept (g10 :: S) w10 wk)∧Hid (Blk wk g10 196 ((fam 7 (a8c ok sh j)).map (e2h gs os)).toArray)∧Hid (Rd wk 65 (.slice SA sh.length sc) sh.length (sh.flatMap shC))∧Hid (a1o body (.slice BA body.length bc) wk));case atStart=>exact⟨0,Nat.zero_le _,by omega,rfl,rfl,J1,hjd (Kept.refl _ _),B10,hs1,hb1⟩
 case round=>
  clear hs hb hs1 hb1 B10;obtain⟨j,hj,hf,rfl,rfl,Jk,hwk,BK,HS,HB⟩:=hrel;by_cases hlt:j < sh.length
  ·obtain rfl:=hA.out (by omega);have hfold:a8c ok sh (j + 1)=d0e ok (a8c ok sh j) j (sh.getD j (0,[])):=rfl;replace hfold:=hjd hfold;have hp:=hjd (c8l hlt);have hpl:=hjd (e2p hsl.out j (by omega));have hl64:=hjd (sh_at hlt hsl.out);obtain⟨⟨n,sg⟩,hpe⟩:∃p,sh.getD j (0,[])=p:=⟨_,rfl⟩;rw [hpe]at hfold hp hl64;replace hpe:=hjd hpe;have hc7:=hjd (e1x (a8c ok sh j));generalize a8c ok sh j=B at *;go_upto_region 7 with(first
    | ((with_reducible refine a0f 24 ?_);refine a4t (o:=⟨some 24,_,_,_,_,_⟩) d2g rfl (.tmp 22) (.tmp 23) rfl rfl rfl hlt ?_))
   have CN:=hjd (fun u (h:Kept [] wr u)=>(show u.cell? ⟨gs,os + j * 65,none⟩=some (.int .i64 n)from by
    have:=a8a (Rd.elem (i:=j) (HS.out.a0k h) hp.out hpl.out (by omega)) (j:=0) rfl
    rwa [Nat.add_zero]at this))
   by_cases hneg:n < 0
   ·have hb1:decide (0≤n)=false:=decide_eq_false (by omega);refine Txt.b4x (by kernel_rfl) [Txt.isV (.pointer (some ⟨gs,os + j * 65,none⟩)),Txt.isV (.pointer (some ⟨gs,os + j * 65,none⟩)),Txt.isV (.pointer (some ⟨gs,os + j * 65,none⟩)),Txt.isV (.int .i64 n),Txt.isV (.bool false),Txt.isV (.bool false),Txt.isV undef,Txt.isV undef,Txt.isV undef,Txt.isV undef,Txt.isV undef,Txt.isV (.bool false),Txt.isV (.bool false),Txt.isV undef,Txt.isV undef,Txt.isV undef,Txt.isV undef,Txt.isV undef,Txt.isV undef,Txt.isV undef,Txt.isV (.bool false),Txt.isV (.bool false),Txt.isV undef,Txt.isV undef,Txt.isV undef,Txt.isV undef,Txt.isV undef,Txt.isV undef,Txt.isV undef,Txt.isV undef,Txt.isV undef,Txt.isV undef,Txt.isV undef,Txt.isV undef] (fun _ u=>Kept [] wr u) (fun _=>[]) (by kernel_rfl) (by kernel_rfl) (by simp) (by kernel_rfl) ((Kept.refl [] wr).drew) (fun _ _ _ _ h=>h) (fun _ _ _ _ _ h k=>h.a0g k) ⟨?_,?_,?_,?_,?_,?_,?_,?_,?_,?_,?_,?_,?_,?_,?_,?_,?_,?_,?_,?_,?_,?_,?_,?_,?_,?_,?_,?_,?_,?_,?_,?_,?_,?_,trivial⟩ ?_
    ·exact a7h (x:=13) rfl (.inl rfl) rfl (by decide) fun a W hx=>a3h rfl W hx
    ·refine a1n rfl (.inl rfl) fun L a u hL hS hr hoth=>?_
     have e0:a.tmps.getD 25 undef=(.pointer (some ⟨gs,os + j * 65,none⟩)):=hr 0 _ 25 _ rfl rfl rfl ⟨⟨0,.data⟩,by simp,rfl,rfl⟩;exact a7q rfl u e0
    ·refine a1n rfl (.inl rfl) fun L a u hL hS hr hoth=>?_
     have e0:a.tmps.getD 26 undef=(.pointer (some ⟨gs,os + j * 65,none⟩)):=hr 1 _ 26 _ rfl rfl rfl ⟨⟨1,.data⟩,by simp,rfl,rfl⟩;exact a7o rfl u e0
    ·refine a1n rfl (.inl rfl) fun L a u hL hS hr hoth=>?_
     have e0:a.tmps.getD 27 undef=(.pointer (some ⟨gs,os + j * 65,none⟩)):=hr 2 _ 27 _ rfl rfl rfl ⟨⟨2,.data⟩,by simp,rfl,rfl⟩;exact a4h (.tmp 27) rfl (fun w=>by kernel_rfl) e0 (CN.out u (Kept.of0 hS))
    ·refine a1n rfl (.inl rfl) fun L a u hL hS hr hoth=>?_
     have e0:a.tmps.getD 28 undef=(.int .i64 n):=hr 3 _ 28 _ rfl rfl rfl ⟨⟨3,.data⟩,by simp,rfl,rfl⟩;exact b9t rfl u e0 hb1
    ·refine a1n rfl (.inl rfl) fun L a u hL hS hr hoth=>?_
     have e0:a.tmps.getD 29 undef=(.bool false):=hr 4 _ 29 _ rfl rfl rfl ⟨⟨4,.data⟩,by simp,rfl,rfl⟩;exact a3h rfl u e0
    ·exact⟨fun _ _ _ _ _ _ h _=>h,.inl ⟨5,true,rfl,rfl,fun _=>rfl⟩⟩
    ·exact⟨fun _ _ _ _ _ _ h _=>h,.inl ⟨5,true,rfl,rfl,fun _=>rfl⟩⟩
    ·exact⟨fun _ _ _ _ _ _ h _=>h,.inl ⟨5,true,rfl,rfl,fun _=>rfl⟩⟩
    ·exact⟨fun _ _ _ _ _ _ h _=>h,.inl ⟨5,true,rfl,rfl,fun _=>rfl⟩⟩
    ·exact⟨fun _ _ _ _ _ _ h _=>h,.inl ⟨5,true,rfl,rfl,fun _=>rfl⟩⟩
    ·refine a1n rfl (.inl rfl) fun L a u hL hS hr hoth=>?_
     have e0:a.tmps.getD 30 undef=(.bool false):=hr 5 _ 30 _ rfl rfl rfl ⟨⟨5,.data⟩,by simp,rfl,rfl⟩;have e1:a.tmps.getD 35 undef=undef:=hr 10 _ 35 _ rfl rfl rfl ⟨⟨10,.data⟩,by simp,rfl,rfl⟩;exact a7j (z:=.tmp 35) (w:=.const (.bool false)) rfl u e0 e1 rfl rfl
    ·refine a1n rfl (.inl rfl) fun L a u hL hS hr hoth=>?_
     have e0:a.tmps.getD 36 undef=(.bool false):=hr 11 _ 36 _ rfl rfl rfl ⟨⟨11,.data⟩,by simp,rfl,rfl⟩;exact a3h rfl u e0
    ·exact⟨fun _ _ _ _ _ _ h _=>h,.inl ⟨12,true,rfl,rfl,fun _=>rfl⟩⟩
    ·exact⟨fun _ _ _ _ _ _ h _=>h,.inl ⟨12,true,rfl,rfl,fun _=>rfl⟩⟩
    ·exact⟨fun _ _ _ _ _ _ h _=>h,.inl ⟨12,true,rfl,rfl,fun _=>rfl⟩⟩
    ·exact⟨fun _ _ _ _ _ _ h _=>h,.inl ⟨12,true,rfl,rfl,fun _=>rfl⟩⟩
    ·exact⟨fun _ _ _ _ _ _ h _=>h,.inl ⟨12,true,rfl,rfl,fun _=>rfl⟩⟩
    ·exact⟨fun _ _ _ _ _ _ h _=>h,.inl ⟨12,true,rfl,rfl,fun _=>rfl⟩⟩
    ·exact⟨fun _ _ _ _ _ _ h _=>h,.inl ⟨12,true,rfl,rfl,fun _=>rfl⟩⟩
    ·refine a1n rfl (.inl rfl) fun L a u hL hS hr hoth=>?_
     have e0:a.tmps.getD 37 undef=(.bool false):=hr 12 _ 37 _ rfl rfl rfl ⟨⟨12,.data⟩,by simp,rfl,rfl⟩;have e1:a.tmps.getD 44 undef=undef:=hr 19 _ 44 _ rfl rfl rfl ⟨⟨19,.data⟩,by simp,rfl,rfl⟩;exact a7j (z:=.tmp 44) (w:=.const (.bool false)) rfl u e0 e1 rfl rfl
    ·refine a1n rfl (.inl rfl) fun L a u hL hS hr hoth=>?_
     have e0:a.tmps.getD 45 undef=(.bool false):=hr 20 _ 45 _ rfl rfl rfl ⟨⟨20,.data⟩,by simp,rfl,rfl⟩;exact a3h rfl u e0
    ·exact⟨fun _ _ _ _ _ _ h _=>h,.inl ⟨21,true,rfl,rfl,fun _=>rfl⟩⟩
    ·exact⟨fun _ _ _ _ _ _ h _=>h,.inl ⟨21,true,rfl,rfl,fun _=>rfl⟩⟩
    ·exact⟨fun _ _ _ _ _ _ h _=>h,.inl ⟨21,true,rfl,rfl,fun _=>rfl⟩⟩
    ·exact⟨fun _ _ _ _ _ _ h _=>h,.inl ⟨21,true,rfl,rfl,fun _=>rfl⟩⟩
    ·exact⟨fun _ _ _ _ _ _ h _=>h,.inl ⟨21,true,rfl,rfl,fun _=>rfl⟩⟩
    ·exact⟨fun _ _ _ _ _ _ h _=>h,.inl ⟨21,true,rfl,rfl,fun _=>rfl⟩⟩
    ·exact⟨fun _ _ _ _ _ _ h _=>h,.inl ⟨21,true,rfl,rfl,fun _=>rfl⟩⟩
    ·exact⟨fun _ _ _ _ _ _ h _=>h,.inl ⟨21,true,rfl,rfl,fun _=>rfl⟩⟩
    ·exact⟨fun _ _ _ _ _ _ h _=>h,.inl ⟨21,true,rfl,rfl,fun _=>rfl⟩⟩
    ·exact⟨fun _ _ _ _ _ _ h _=>h,.inl ⟨21,true,rfl,rfl,fun _=>rfl⟩⟩
    ·exact⟨fun _ _ _ _ _ _ h _=>h,.inl ⟨21,true,rfl,rfl,fun _=>rfl⟩⟩
    ·exact⟨fun _ _ _ _ _ _ h _=>h,.inl ⟨21,true,rfl,rfl,fun _=>rfl⟩⟩
    intro v wc kc hv;have y0:v 0=(.pointer (some ⟨gs,os + j * 65,none⟩)):=hv 0 _ rfl;have y1:v 1=(.pointer (some ⟨gs,os + j * 65,none⟩)):=hv 1 _ rfl;have y2:v 2=(.pointer (some ⟨gs,os + j * 65,none⟩)):=hv 2 _ rfl;have y3:v 3=(.int .i64 n):=hv 3 _ rfl;have y4:v 4=(.bool false):=hv 4 _ rfl;have y5:v 5=(.bool false):=hv 5 _ rfl;have y6:v 6=undef:=hv 6 _ rfl;have y7:v 7=undef:=hv 7 _ rfl;have y8:v 8=undef:=hv 8 _ rfl;have y9:v 9=undef:=hv 9 _ rfl;have y10:v 10=undef:=hv 10 _ rfl;have y11:v 11=(.bool false):=hv 11 _ rfl;have y12:v 12=(.bool false):=hv 12 _ rfl;have y13:v 13=undef:=hv 13 _ rfl;have y14:v 14=undef:=hv 14 _ rfl;have y15:v 15=undef:=hv 15 _ rfl;have y16:v 16=undef:=hv 16 _ rfl;have y17:v 17=undef:=hv 17 _ rfl;have y18:v 18=undef:=hv 18 _ rfl;have y19:v 19=undef:=hv 19 _ rfl;have y20:v 20=(.bool false):=hv 20 _ rfl;have y21:v 21=(.bool false):=hv 21 _ rfl;have y22:v 22=undef:=hv 22 _ rfl;have y23:v 23=undef:=hv 23 _ rfl;have y24:v 24=undef:=hv 24 _ rfl;have y25:v 25=undef:=hv 25 _ rfl;have y26:v 26=undef:=hv 26 _ rfl;have y27:v 27=undef:=hv 27 _ rfl;have y28:v 28=undef:=hv 28 _ rfl;have y29:v 29=undef:=hv 29 _ rfl;have y30:v 30=undef:=hv 30 _ rfl;have y31:v 31=undef:=hv 31 _ rfl;have y32:v 32=undef:=hv 32 _ rfl;have y33:v 33=undef:=hv 33 _ rfl;clear hv;simp [Txt.a1f,List.range,List.range.loop,Act.put,y0,y1,y2,y3,y4,y5,y6,y7,y8,y9,y10,y11,y12,y13,y14,y15,y16,y17,y18,y19,y20,y21,y22,y23,y24,y25,y26,y27,y28,y29,y30,y31,y32,y33]
    clear y0 y1 y2 y3 y4 y5 y6 y7 y8 y9 y10 y11 y12 y13 y14 y15 y16 y17 y18 y19 y20 y21 y22 y23 y24 y25 y26 y27 y28 y29 y30 y31 y32 y33;unfold Txt.a2t;refine a4o (v:=.bool false) rfl ?_;unfold Txt.a2t;simp [Act.put];replace hwk:=hjd (hwk.out.a0g kc);replace Jk:=hjd (hJ.out _ _ [] (by simp) Jk.out kc);replace BK:=hjd (BK.out.kept kc (by simp));replace HS:=hjd (HS.out.a0k kc);replace HB:=hjd (a1o.a0k HB.out kc);have hno:=hjd (hfold.out.trans (if_neg (fun h=>by have:=h.1;simp at this;omega)));clear kc CN;go_wp2_with fail;go_roundg (sh.length - (j + 1));case measure=>omega
    case rel=>
     exact⟨j + 1,by omega,by omega,by go_num,by rw [hno.out],Jk,hwk,by rw [hno.out];exact BK,HS,HB⟩
   ·by_cases h7:7≤n
    ·have hb1:decide (0≤n)=true:=decide_eq_true (by omega);have hb2:decide (n < 7)=false:=decide_eq_false (by omega);refine Txt.b4x (by kernel_rfl) [Txt.isV (.pointer (some ⟨gs,os + j * 65,none⟩)),Txt.isV (.pointer (some ⟨gs,os + j * 65,none⟩)),Txt.isV (.pointer (some ⟨gs,os + j * 65,none⟩)),Txt.isV (.int .i64 n),Txt.isV (.bool true),Txt.isV (.bool true),Txt.isV (.pointer (some ⟨gs,os + j * 65,none⟩)),Txt.isV (.pointer (some ⟨gs,os + j * 65,none⟩)),Txt.isV (.pointer (some ⟨gs,os + j * 65,none⟩)),Txt.isV (.int .i64 n),Txt.isV (.bool false),Txt.isV (.bool false),Txt.isV (.bool false),Txt.isV undef,Txt.isV undef,Txt.isV undef,Txt.isV undef,Txt.isV undef,Txt.isV undef,Txt.isV undef,Txt.isV (.bool false),Txt.isV (.bool false),Txt.isV undef,Txt.isV undef,Txt.isV undef,Txt.isV undef,Txt.isV undef,Txt.isV undef,Txt.isV undef,Txt.isV undef,Txt.isV undef,Txt.isV undef,Txt.isV undef,Txt.isV undef] (fun _ u=>Kept [] wr u) (fun _=>[]) (by kernel_rfl) (by kernel_rfl) (by simp) (by kernel_rfl) ((Kept.refl [] wr).drew) (fun _ _ _ _ h=>h) (fun _ _ _ _ _ h k=>h.a0g k) ⟨?_,?_,?_,?_,?_,?_,?_,?_,?_,?_,?_,?_,?_,?_,?_,?_,?_,?_,?_,?_,?_,?_,?_,?_,?_,?_,?_,?_,?_,?_,?_,?_,?_,?_,trivial⟩ ?_
     ·exact a7h (x:=13) rfl (.inl rfl) rfl (by decide) fun a W hx=>a3h rfl W hx
     ·refine a1n rfl (.inl rfl) fun L a u hL hS hr hoth=>?_
      have e0:a.tmps.getD 25 undef=(.pointer (some ⟨gs,os + j * 65,none⟩)):=hr 0 _ 25 _ rfl rfl rfl ⟨⟨0,.data⟩,by simp,rfl,rfl⟩;exact a7q rfl u e0
     ·refine a1n rfl (.inl rfl) fun L a u hL hS hr hoth=>?_
      have e0:a.tmps.getD 26 undef=(.pointer (some ⟨gs,os + j * 65,none⟩)):=hr 1 _ 26 _ rfl rfl rfl ⟨⟨1,.data⟩,by simp,rfl,rfl⟩;exact a7o rfl u e0
     ·refine a1n rfl (.inl rfl) fun L a u hL hS hr hoth=>?_
      have e0:a.tmps.getD 27 undef=(.pointer (some ⟨gs,os + j * 65,none⟩)):=hr 2 _ 27 _ rfl rfl rfl ⟨⟨2,.data⟩,by simp,rfl,rfl⟩;exact a4h (.tmp 27) rfl (fun w=>by kernel_rfl) e0 (CN.out u (Kept.of0 hS))
     ·refine a1n rfl (.inl rfl) fun L a u hL hS hr hoth=>?_
      have e0:a.tmps.getD 28 undef=(.int .i64 n):=hr 3 _ 28 _ rfl rfl rfl ⟨⟨3,.data⟩,by simp,rfl,rfl⟩;exact b9t rfl u e0 hb1
     ·refine a1n rfl (.inl rfl) fun L a u hL hS hr hoth=>?_
      have e0:a.tmps.getD 29 undef=(.bool true):=hr 4 _ 29 _ rfl rfl rfl ⟨⟨4,.data⟩,by simp,rfl,rfl⟩;exact a3h rfl u e0
     ·exact a7h (x:=13) rfl (.inr ⟨5,true,rfl,rfl⟩) rfl (by decide) fun a W hx=>a3h rfl W hx
     ·refine a1n rfl (.inr ⟨5,true,rfl,rfl⟩) fun L a u hL hS hr hoth=>?_
      have e0:a.tmps.getD 31 undef=(.pointer (some ⟨gs,os + j * 65,none⟩)):=hr 6 _ 31 _ rfl rfl rfl ⟨⟨6,.data⟩,by simp,rfl,rfl⟩;exact a7q rfl u e0
     ·refine a1n rfl (.inr ⟨5,true,rfl,rfl⟩) fun L a u hL hS hr hoth=>?_
      have e0:a.tmps.getD 32 undef=(.pointer (some ⟨gs,os + j * 65,none⟩)):=hr 7 _ 32 _ rfl rfl rfl ⟨⟨7,.data⟩,by simp,rfl,rfl⟩;exact a7o rfl u e0
     ·refine a1n rfl (.inr ⟨5,true,rfl,rfl⟩) fun L a u hL hS hr hoth=>?_
      have e0:a.tmps.getD 33 undef=(.pointer (some ⟨gs,os + j * 65,none⟩)):=hr 8 _ 33 _ rfl rfl rfl ⟨⟨8,.data⟩,by simp,rfl,rfl⟩;exact a4h (.tmp 33) rfl (fun w=>by kernel_rfl) e0 (CN.out u (Kept.of0 hS))
     ·refine a1n rfl (.inr ⟨5,true,rfl,rfl⟩) fun L a u hL hS hr hoth=>?_
      have e0:a.tmps.getD 34 undef=(.int .i64 n):=hr 9 _ 34 _ rfl rfl rfl ⟨⟨9,.data⟩,by simp,rfl,rfl⟩;exact c7k rfl u e0 hb2
     ·refine a1n rfl (.inl rfl) fun L a u hL hS hr hoth=>?_
      have e0:a.tmps.getD 30 undef=(.bool true):=hr 5 _ 30 _ rfl rfl rfl ⟨⟨5,.data⟩,by simp,rfl,rfl⟩;have e1:a.tmps.getD 35 undef=(.bool false):=hr 10 _ 35 _ rfl rfl rfl ⟨⟨10,.data⟩,by simp,rfl,rfl⟩;exact a7j (z:=.tmp 35) (w:=.const (.bool false)) rfl u e0 e1 rfl rfl
     ·refine a1n rfl (.inl rfl) fun L a u hL hS hr hoth=>?_
      have e0:a.tmps.getD 36 undef=(.bool false):=hr 11 _ 36 _ rfl rfl rfl ⟨⟨11,.data⟩,by simp,rfl,rfl⟩;exact a3h rfl u e0
     ·exact⟨fun _ _ _ _ _ _ h _=>h,.inl ⟨12,true,rfl,rfl,fun _=>rfl⟩⟩
     ·exact⟨fun _ _ _ _ _ _ h _=>h,.inl ⟨12,true,rfl,rfl,fun _=>rfl⟩⟩
     ·exact⟨fun _ _ _ _ _ _ h _=>h,.inl ⟨12,true,rfl,rfl,fun _=>rfl⟩⟩
     ·exact⟨fun _ _ _ _ _ _ h _=>h,.inl ⟨12,true,rfl,rfl,fun _=>rfl⟩⟩
     ·exact⟨fun _ _ _ _ _ _ h _=>h,.inl ⟨12,true,rfl,rfl,fun _=>rfl⟩⟩
     ·exact⟨fun _ _ _ _ _ _ h _=>h,.inl ⟨12,true,rfl,rfl,fun _=>rfl⟩⟩
     ·exact⟨fun _ _ _ _ _ _ h _=>h,.inl ⟨12,true,rfl,rfl,fun _=>rfl⟩⟩
     ·refine a1n rfl (.inl rfl) fun L a u hL hS hr hoth=>?_
      have e0:a.tmps.getD 37 undef=(.bool false):=hr 12 _ 37 _ rfl rfl rfl ⟨⟨12,.data⟩,by simp,rfl,rfl⟩;have e1:a.tmps.getD 44 undef=undef:=hr 19 _ 44 _ rfl rfl rfl ⟨⟨19,.data⟩,by simp,rfl,rfl⟩;exact a7j (z:=.tmp 44) (w:=.const (.bool false)) rfl u e0 e1 rfl rfl
     ·refine a1n rfl (.inl rfl) fun L a u hL hS hr hoth=>?_
      have e0:a.tmps.getD 45 undef=(.bool false):=hr 20 _ 45 _ rfl rfl rfl ⟨⟨20,.data⟩,by simp,rfl,rfl⟩;exact a3h rfl u e0
     ·exact⟨fun _ _ _ _ _ _ h _=>h,.inl ⟨21,true,rfl,rfl,fun _=>rfl⟩⟩
     ·exact⟨fun _ _ _ _ _ _ h _=>h,.inl ⟨21,true,rfl,rfl,fun _=>rfl⟩⟩
     ·exact⟨fun _ _ _ _ _ _ h _=>h,.inl ⟨21,true,rfl,rfl,fun _=>rfl⟩⟩
     ·exact⟨fun _ _ _ _ _ _ h _=>h,.inl ⟨21,true,rfl,rfl,fun _=>rfl⟩⟩
     ·exact⟨fun _ _ _ _ _ _ h _=>h,.inl ⟨21,true,rfl,rfl,fun _=>rfl⟩⟩
     ·exact⟨fun _ _ _ _ _ _ h _=>h,.inl ⟨21,true,rfl,rfl,fun _=>rfl⟩⟩
     ·exact⟨fun _ _ _ _ _ _ h _=>h,.inl ⟨21,true,rfl,rfl,fun _=>rfl⟩⟩
     ·exact⟨fun _ _ _ _ _ _ h _=>h,.inl ⟨21,true,rfl,rfl,fun _=>rfl⟩⟩
     ·exact⟨fun _ _ _ _ _ _ h _=>h,.inl ⟨21,true,rfl,rfl,fun _=>rfl⟩⟩
     ·exact⟨fun _ _ _ _ _ _ h _=>h,.inl ⟨21,true,rfl,rfl,fun _=>rfl⟩⟩
     ·exact⟨fun _ _ _ _ _ _ h _=>h,.inl ⟨21,true,rfl,rfl,fun _=>rfl⟩⟩
     ·exact⟨fun _ _ _ _ _ _ h _=>h,.inl ⟨21,true,rfl,rfl,fun _=>rfl⟩⟩
     intro v wc kc hv;have y0:v 0=(.pointer (some ⟨gs,os + j * 65,none⟩)):=hv 0 _ rfl;have y1:v 1=(.pointer (some ⟨gs,os + j * 65,none⟩)):=hv 1 _ rfl;have y2:v 2=(.pointer (some ⟨gs,os + j * 65,none⟩)):=hv 2 _ rfl;have y3:v 3=(.int .i64 n):=hv 3 _ rfl;have y4:v 4=(.bool true):=hv 4 _ rfl;have y5:v 5=(.bool true):=hv 5 _ rfl;have y6:v 6=(.pointer (some ⟨gs,os + j * 65,none⟩)):=hv 6 _ rfl;have y7:v 7=(.pointer (some ⟨gs,os + j * 65,none⟩)):=hv 7 _ rfl;have y8:v 8=(.pointer (some ⟨gs,os + j * 65,none⟩)):=hv 8 _ rfl;have y9:v 9=(.int .i64 n):=hv 9 _ rfl;have y10:v 10=(.bool false):=hv 10 _ rfl;have y11:v 11=(.bool false):=hv 11 _ rfl;have y12:v 12=(.bool false):=hv 12 _ rfl;have y13:v 13=undef:=hv 13 _ rfl;have y14:v 14=undef:=hv 14 _ rfl;have y15:v 15=undef:=hv 15 _ rfl;have y16:v 16=undef:=hv 16 _ rfl;have y17:v 17=undef:=hv 17 _ rfl;have y18:v 18=undef:=hv 18 _ rfl;have y19:v 19=undef:=hv 19 _ rfl;have y20:v 20=(.bool false):=hv 20 _ rfl;have y21:v 21=(.bool false):=hv 21 _ rfl;have y22:v 22=undef:=hv 22 _ rfl;have y23:v 23=undef:=hv 23 _ rfl;have y24:v 24=undef:=hv 24 _ rfl;have y25:v 25=undef:=hv 25 _ rfl;have y26:v 26=undef:=hv 26 _ rfl;have y27:v 27=undef:=hv 27 _ rfl;have y28:v 28=undef:=hv 28 _ rfl;have y29:v 29=undef:=hv 29 _ rfl;have y30:v 30=undef:=hv 30 _ rfl;have y31:v 31=undef:=hv 31 _ rfl;have y32:v 32=undef:=hv 32 _ rfl;have y33:v 33=undef:=hv 33 _ rfl;clear hv
     simp [Txt.a1f,List.range,List.range.loop,Act.put,y0,y1,y2,y3,y4,y5,y6,y7,y8,y9,y10,y11,y12,y13,y14,y15,y16,y17,y18,y19,y20,y21,y22,y23,y24,y25,y26,y27,y28,y29,y30,y31,y32,y33];clear y0 y1 y2 y3 y4 y5 y6 y7 y8 y9 y10 y11 y12 y13 y14 y15 y16 y17 y18 y19 y20 y21 y22 y23 y24 y25 y26 y27 y28 y29 y30 y31 y32 y33;unfold Txt.a2t;refine a4o (v:=.bool false) rfl ?_;unfold Txt.a2t;simp [Act.put];replace hwk:=hjd (hwk.out.a0g kc);replace Jk:=hjd (hJ.out _ _ [] (by simp) Jk.out kc);replace BK:=hjd (BK.out.kept kc (by simp));replace HS:=hjd (HS.out.a0k kc);replace HB:=hjd (a1o.a0k HB.out kc);have hno:=hjd (hfold.out.trans (if_neg (fun h=>by have:=h.2.1;simp at this;omega)));clear kc CN;go_wp2_with fail;go_roundg (sh.length - (j + 1));case measure=>omega
     case rel=>
      exact⟨j + 1,by omega,by omega,by go_num,by rw [hno.out],Jk,hwk,by rw [hno.out];exact BK,HS,HB⟩
    ·obtain⟨m,rfl⟩:∃m:Nat,n=(m:Int):=⟨n.toNat,by omega⟩;have hm7:m < 7:=by omega
     have hb1:decide (0≤(m:Int))=true:=decide_eq_true (by omega);have hb2:decide ((m:Int) < 7)=true:=decide_eq_true (by omega)
     cases hBm:B m with
     | some i=>
       have CB:=hjd (fun u (h:Kept [] wr u)=>(show u.cell? ⟨g10,1 * m,none⟩=some (.pointer (some ⟨gs,os + i * 65 + 1,none⟩))from by rw [Nat.one_mul];exact c0w (BK.out.kept h (by simp)) hm7 hBm));replace hBm:=hjd hBm;refine Txt.b4x (by kernel_rfl) [Txt.isV (.pointer (some ⟨gs,os + j * 65,none⟩)),Txt.isV (.pointer (some ⟨gs,os + j * 65,none⟩)),Txt.isV (.pointer (some ⟨gs,os + j * 65,none⟩)),Txt.isV (.int .i64 (m:Int)),Txt.isV (.bool true),Txt.isV (.bool true),Txt.isV (.pointer (some ⟨gs,os + j * 65,none⟩)),Txt.isV (.pointer (some ⟨gs,os + j * 65,none⟩)),Txt.isV (.pointer (some ⟨gs,os + j * 65,none⟩)),Txt.isV (.int .i64 (m:Int)),Txt.isV (.bool true),Txt.isV (.bool true),Txt.isV (.bool true),Txt.isV (.pointer (some ⟨gs,os + j * 65,none⟩)),Txt.isV (.pointer (some ⟨gs,os + j * 65,none⟩)),Txt.isV (.pointer (some ⟨gs,os + j * 65,none⟩)),Txt.isV (.int .i64 (m:Int)),Txt.isV (.pointer (some ⟨g10,1 * m,none⟩)),Txt.isV (.pointer (some ⟨gs,os + i * 65 + 1,none⟩)),Txt.isV (.bool false),Txt.isV (.bool false),Txt.isV (.bool false),Txt.isV undef,Txt.isV undef,Txt.isV undef,Txt.isV undef,Txt.isV undef,Txt.isV undef,Txt.isV undef,Txt.isV undef,Txt.isV undef,Txt.isV undef,Txt.isV undef,Txt.isV undef] (fun _ u=>Kept [] wr u) (fun _=>[]) (by kernel_rfl) (by kernel_rfl) (by simp) (by kernel_rfl) ((Kept.refl [] wr).drew) (fun _ _ _ _ h=>h) (fun _ _ _ _ _ h k=>h.a0g k) ⟨?_,?_,?_,?_,?_,?_,?_,?_,?_,?_,?_,?_,?_,?_,?_,?_,?_,?_,?_,?_,?_,?_,?_,?_,?_,?_,?_,?_,?_,?_,?_,?_,?_,?_,trivial⟩ ?_
       ·exact a7h (x:=13) rfl (.inl rfl) rfl (by decide) fun a W hx=>a3h rfl W hx
       ·refine a1n rfl (.inl rfl) fun L a u hL hS hr hoth=>?_
        have e0:a.tmps.getD 25 undef=(.pointer (some ⟨gs,os + j * 65,none⟩)):=hr 0 _ 25 _ rfl rfl rfl ⟨⟨0,.data⟩,by simp,rfl,rfl⟩;exact a7q rfl u e0
       ·refine a1n rfl (.inl rfl) fun L a u hL hS hr hoth=>?_
        have e0:a.tmps.getD 26 undef=(.pointer (some ⟨gs,os + j * 65,none⟩)):=hr 1 _ 26 _ rfl rfl rfl ⟨⟨1,.data⟩,by simp,rfl,rfl⟩;exact a7o rfl u e0
       ·refine a1n rfl (.inl rfl) fun L a u hL hS hr hoth=>?_
        have e0:a.tmps.getD 27 undef=(.pointer (some ⟨gs,os + j * 65,none⟩)):=hr 2 _ 27 _ rfl rfl rfl ⟨⟨2,.data⟩,by simp,rfl,rfl⟩;exact a4h (.tmp 27) rfl (fun w=>by kernel_rfl) e0 (CN.out u (Kept.of0 hS))
       ·refine a1n rfl (.inl rfl) fun L a u hL hS hr hoth=>?_
        have e0:a.tmps.getD 28 undef=(.int .i64 (m:Int)):=hr 3 _ 28 _ rfl rfl rfl ⟨⟨3,.data⟩,by simp,rfl,rfl⟩;exact b9t rfl u e0 hb1
       ·refine a1n rfl (.inl rfl) fun L a u hL hS hr hoth=>?_
        have e0:a.tmps.getD 29 undef=(.bool true):=hr 4 _ 29 _ rfl rfl rfl ⟨⟨4,.data⟩,by simp,rfl,rfl⟩;exact a3h rfl u e0
       ·exact a7h (x:=13) rfl (.inr ⟨5,true,rfl,rfl⟩) rfl (by decide) fun a W hx=>a3h rfl W hx
       ·refine a1n rfl (.inr ⟨5,true,rfl,rfl⟩) fun L a u hL hS hr hoth=>?_
        have e0:a.tmps.getD 31 undef=(.pointer (some ⟨gs,os + j * 65,none⟩)):=hr 6 _ 31 _ rfl rfl rfl ⟨⟨6,.data⟩,by simp,rfl,rfl⟩;exact a7q rfl u e0
       ·refine a1n rfl (.inr ⟨5,true,rfl,rfl⟩) fun L a u hL hS hr hoth=>?_
        have e0:a.tmps.getD 32 undef=(.pointer (some ⟨gs,os + j * 65,none⟩)):=hr 7 _ 32 _ rfl rfl rfl ⟨⟨7,.data⟩,by simp,rfl,rfl⟩;exact a7o rfl u e0
       ·refine a1n rfl (.inr ⟨5,true,rfl,rfl⟩) fun L a u hL hS hr hoth=>?_
        have e0:a.tmps.getD 33 undef=(.pointer (some ⟨gs,os + j * 65,none⟩)):=hr 8 _ 33 _ rfl rfl rfl ⟨⟨8,.data⟩,by simp,rfl,rfl⟩;exact a4h (.tmp 33) rfl (fun w=>by kernel_rfl) e0 (CN.out u (Kept.of0 hS))
       ·refine a1n rfl (.inr ⟨5,true,rfl,rfl⟩) fun L a u hL hS hr hoth=>?_
        have e0:a.tmps.getD 34 undef=(.int .i64 (m:Int)):=hr 9 _ 34 _ rfl rfl rfl ⟨⟨9,.data⟩,by simp,rfl,rfl⟩;exact c7k rfl u e0 hb2
       ·refine a1n rfl (.inl rfl) fun L a u hL hS hr hoth=>?_
        have e0:a.tmps.getD 30 undef=(.bool true):=hr 5 _ 30 _ rfl rfl rfl ⟨⟨5,.data⟩,by simp,rfl,rfl⟩;have e1:a.tmps.getD 35 undef=(.bool true):=hr 10 _ 35 _ rfl rfl rfl ⟨⟨10,.data⟩,by simp,rfl,rfl⟩;exact a7j (z:=.tmp 35) (w:=.const (.bool false)) rfl u e0 e1 rfl rfl
       ·refine a1n rfl (.inl rfl) fun L a u hL hS hr hoth=>?_
        have e0:a.tmps.getD 36 undef=(.bool true):=hr 11 _ 36 _ rfl rfl rfl ⟨⟨11,.data⟩,by simp,rfl,rfl⟩;exact a3h rfl u e0
       ·exact a7h (x:=13) rfl (.inr ⟨12,true,rfl,rfl⟩) rfl (by decide) fun a W hx=>a3h rfl W hx
       ·refine a1n rfl (.inr ⟨12,true,rfl,rfl⟩) fun L a u hL hS hr hoth=>?_
        have e0:a.tmps.getD 38 undef=(.pointer (some ⟨gs,os + j * 65,none⟩)):=hr 13 _ 38 _ rfl rfl rfl ⟨⟨13,.data⟩,by simp,rfl,rfl⟩;exact a7q rfl u e0
       ·refine a1n rfl (.inr ⟨12,true,rfl,rfl⟩) fun L a u hL hS hr hoth=>?_
        have e0:a.tmps.getD 39 undef=(.pointer (some ⟨gs,os + j * 65,none⟩)):=hr 14 _ 39 _ rfl rfl rfl ⟨⟨14,.data⟩,by simp,rfl,rfl⟩;exact a7o rfl u e0
       ·refine a1n rfl (.inr ⟨12,true,rfl,rfl⟩) fun L a u hL hS hr hoth=>?_
        have e0:a.tmps.getD 40 undef=(.pointer (some ⟨gs,os + j * 65,none⟩)):=hr 15 _ 40 _ rfl rfl rfl ⟨⟨15,.data⟩,by simp,rfl,rfl⟩;exact a4h (.tmp 40) rfl (fun w=>by kernel_rfl) e0 (CN.out u (Kept.of0 hS))
       ·refine a1n rfl (.inr ⟨12,true,rfl,rfl⟩) fun L a u hL hS hr hoth=>?_
        have e0:a.tmps.getD 41 undef=(.int .i64 (m:Int)):=hr 16 _ 41 _ rfl rfl rfl ⟨⟨16,.data⟩,by simp,rfl,rfl⟩;exact d3o rfl u ((hoth 10 (by decide)).trans rfl) e0 hm7
       ·refine a1n rfl (.inr ⟨12,true,rfl,rfl⟩) fun L a u hL hS hr hoth=>?_
        have e0:a.tmps.getD 42 undef=(.pointer (some ⟨g10,1 * m,none⟩)):=hr 17 _ 42 _ rfl rfl rfl ⟨⟨17,.data⟩,by simp,rfl,rfl⟩;exact a4h (.tmp 42) rfl (fun w=>by kernel_rfl) e0 (CB.out u (Kept.of0 hS))
       ·refine a1n rfl (.inr ⟨12,true,rfl,rfl⟩) fun L a u hL hS hr hoth=>?_
        have e0:a.tmps.getD 43 undef=(.pointer (some ⟨gs,os + i * 65 + 1,none⟩)):=hr 18 _ 43 _ rfl rfl rfl ⟨⟨18,.data⟩,by simp,rfl,rfl⟩;exact d8s rfl u e0
       ·refine a1n rfl (.inl rfl) fun L a u hL hS hr hoth=>?_
        have e0:a.tmps.getD 37 undef=(.bool true):=hr 12 _ 37 _ rfl rfl rfl ⟨⟨12,.data⟩,by simp,rfl,rfl⟩;have e1:a.tmps.getD 44 undef=(.bool false):=hr 19 _ 44 _ rfl rfl rfl ⟨⟨19,.data⟩,by simp,rfl,rfl⟩;exact a7j (z:=.tmp 44) (w:=.const (.bool false)) rfl u e0 e1 rfl rfl
       ·refine a1n rfl (.inl rfl) fun L a u hL hS hr hoth=>?_
        have e0:a.tmps.getD 45 undef=(.bool false):=hr 20 _ 45 _ rfl rfl rfl ⟨⟨20,.data⟩,by simp,rfl,rfl⟩;exact a3h rfl u e0
       ·exact⟨fun _ _ _ _ _ _ h _=>h,.inl ⟨21,true,rfl,rfl,fun _=>rfl⟩⟩
       ·exact⟨fun _ _ _ _ _ _ h _=>h,.inl ⟨21,true,rfl,rfl,fun _=>rfl⟩⟩
       ·exact⟨fun _ _ _ _ _ _ h _=>h,.inl ⟨21,true,rfl,rfl,fun _=>rfl⟩⟩
       ·exact⟨fun _ _ _ _ _ _ h _=>h,.inl ⟨21,true,rfl,rfl,fun _=>rfl⟩⟩
       ·exact⟨fun _ _ _ _ _ _ h _=>h,.inl ⟨21,true,rfl,rfl,fun _=>rfl⟩⟩
       ·exact⟨fun _ _ _ _ _ _ h _=>h,.inl ⟨21,true,rfl,rfl,fun _=>rfl⟩⟩
       ·exact⟨fun _ _ _ _ _ _ h _=>h,.inl ⟨21,true,rfl,rfl,fun _=>rfl⟩⟩
       ·exact⟨fun _ _ _ _ _ _ h _=>h,.inl ⟨21,true,rfl,rfl,fun _=>rfl⟩⟩
       ·exact⟨fun _ _ _ _ _ _ h _=>h,.inl ⟨21,true,rfl,rfl,fun _=>rfl⟩⟩
       ·exact⟨fun _ _ _ _ _ _ h _=>h,.inl ⟨21,true,rfl,rfl,fun _=>rfl⟩⟩
       ·exact⟨fun _ _ _ _ _ _ h _=>h,.inl ⟨21,true,rfl,rfl,fun _=>rfl⟩⟩
       ·exact⟨fun _ _ _ _ _ _ h _=>h,.inl ⟨21,true,rfl,rfl,fun _=>rfl⟩⟩
       intro v wc kc hv;have y0:v 0=(.pointer (some ⟨gs,os + j * 65,none⟩)):=hv 0 _ rfl;have y1:v 1=(.pointer (some ⟨gs,os + j * 65,none⟩)):=hv 1 _ rfl;have y2:v 2=(.pointer (some ⟨gs,os + j * 65,none⟩)):=hv 2 _ rfl;have y3:v 3=(.int .i64 (m:Int)):=hv 3 _ rfl;have y4:v 4=(.bool true):=hv 4 _ rfl;have y5:v 5=(.bool true):=hv 5 _ rfl;have y6:v 6=(.pointer (some ⟨gs,os + j * 65,none⟩)):=hv 6 _ rfl;have y7:v 7=(.pointer (some ⟨gs,os + j * 65,none⟩)):=hv 7 _ rfl;have y8:v 8=(.pointer (some ⟨gs,os + j * 65,none⟩)):=hv 8 _ rfl;have y9:v 9=(.int .i64 (m:Int)):=hv 9 _ rfl;have y10:v 10=(.bool true):=hv 10 _ rfl;have y11:v 11=(.bool true):=hv 11 _ rfl;have y12:v 12=(.bool true):=hv 12 _ rfl;have y13:v 13=(.pointer (some ⟨gs,os + j * 65,none⟩)):=hv 13 _ rfl;have y14:v 14=(.pointer (some ⟨gs,os + j * 65,none⟩)):=hv 14 _ rfl;have y15:v 15=(.pointer (some ⟨gs,os + j * 65,none⟩)):=hv 15 _ rfl;have y16:v 16=(.int .i64 (m:Int)):=hv 16 _ rfl;have y17:v 17=(.pointer (some ⟨g10,1 * m,none⟩)):=hv 17 _ rfl;have y18:v 18=(.pointer (some ⟨gs,os + i * 65 + 1,none⟩)):=hv 18 _ rfl;have y19:v 19=(.bool false):=hv 19 _ rfl;have y20:v 20=(.bool false):=hv 20 _ rfl;have y21:v 21=(.bool false):=hv 21 _ rfl;have y22:v 22=undef:=hv 22 _ rfl;have y23:v 23=undef:=hv 23 _ rfl;have y24:v 24=undef:=hv 24 _ rfl;have y25:v 25=undef:=hv 25 _ rfl;have y26:v 26=undef:=hv 26 _ rfl;have y27:v 27=undef:=hv 27 _ rfl;have y28:v 28=undef:=hv 28 _ rfl;have y29:v 29=undef:=hv 29 _ rfl;have y30:v 30=undef:=hv 30 _ rfl
       have y31:v 31=undef:=hv 31 _ rfl;have y32:v 32=undef:=hv 32 _ rfl;have y33:v 33=undef:=hv 33 _ rfl;clear hv;simp [Txt.a1f,List.range,List.range.loop,Act.put,y0,y1,y2,y3,y4,y5,y6,y7,y8,y9,y10,y11,y12,y13,y14,y15,y16,y17,y18,y19,y20,y21,y22,y23,y24,y25,y26,y27,y28,y29,y30,y31,y32,y33];clear y0 y1 y2 y3 y4 y5 y6 y7 y8 y9 y10 y11 y12 y13 y14 y15 y16 y17 y18 y19 y20 y21 y22 y23 y24 y25 y26 y27 y28 y29 y30 y31 y32 y33;unfold Txt.a2t;refine a4o (v:=.bool false) rfl ?_;unfold Txt.a2t;simp [Act.put];replace hwk:=hjd (hwk.out.a0g kc);replace Jk:=hjd (hJ.out _ _ [] (by simp) Jk.out kc);replace BK:=hjd (BK.out.kept kc (by simp));replace HS:=hjd (HS.out.a0k kc);replace HB:=hjd (a1o.a0k HB.out kc);have hno:=hjd (hfold.out.trans (if_neg (fun h=>by have h2:B m=none:=h.2.2.1;rw [hBm.out]at h2;cases h2)));clear kc CN;go_wp2_with fail;go_roundg (sh.length - (j + 1));case measure=>omega
       case rel=>
        exact⟨j + 1,by omega,by omega,by go_num,by rw [hno.out],Jk,hwk,by rw [hno.out];exact BK,HS,HB⟩
     | none=>
       clear CN hb1 hb2;have kd:=(Kept.refl [] wr).drew;replace Jk:=hjd (hJ.out _ _ [] (by simp) Jk.out kd);replace hwk:=hjd (hwk.out.a0g kd);replace BK:=hjd (BK.out.kept kd (by simp));replace HS:=hjd (HS.out.a0k kd);replace HB:=hjd (a1o.a0k HB.out kd);clear kd;have E:=hjd (Rd.elem (i:=j) HS.out hp.out hpl.out (by omega));have q0:=a8a E.out (j:=0) rfl;rw [Nat.add_zero]at q0;have q64:=hjd (b4b E.out);have q7:=c0w BK.out hm7 hBm;replace q7:wr.drew.cell? ⟨g10,m,none⟩=some (.pointer none):=q7;have hNS:=hjd (show g10∉S from fun h=>by have:=hSlt.out _ h;have:=N10.out;omega);refine Txt.a1k [] (fun _=>True) [[_,_,_,_,_,_,_,_,_,_,_,_,_,_,_,_,_,_,_,_,_,_,_,_,_,_,_,_,_,_,_,_,_,_],[_]] (by kernel_rfl) (by kernel_rfl) rfl trivial (Txt.a0e ?_);go_wp2_with (first
        | ((with_reducible refine a0f 42 ?_);refine a0p (v:=.pointer (some ⟨g10,m,none⟩)) (by kernel_rfl) (b6e rfl rfl rfl (idx7 hm7 _)) ?_)
        | ((with_reducible refine a0f 57 ?_);refine a1i (o:=⟨some 57,_,_,_,_,_⟩) (cs:=bv sg) Q.b7e (by kernel_rfl) (.tmp 56) rfl rfl q64.out (by simpa using hl64.out) ?_)
        | (go_at_call 145;(with_reducible refine(co.out m sg _ _ hm7 hl64.out HB.out Jk.out).mono ?_);rintro e v58 ⟨rfl,Jn,kn⟩;replace hwk:=hjd (hwk.out.trans kn (fun _ _ h=>h) (fun _ _ h=>List.mem_cons_of_mem _ h));have HS2:=hjd (hR.out _ _ _ _ _ _ (by omega) Jk.out kn HS.out);have HB2:=hjd (show a1o body _ v58 from hR.out _ _ _ _ _ _ (by omega) Jk.out kn HB.out);replace BK:=hjd (BK.out.kept kn hNS.out);replace HS:=HS2;replace HB:=HB2;have Jk:=hjd Jn;clear Jn kn q0 q64 q7 E HS2 HB2))
       refine And.intro rfl (And.intro trivial ?_);unfold Txt.a3j
       cases hok:ok m sg with
       | false=>
         replace hok:=hjd hok;go_wp2_with fail;refine And.intro rfl (And.intro trivial (Txt.a0w ⟨⟨by kernel_rfl,by simp⟩,?_⟩));go_wp2_with fail;have hno:=hjd (hfold.out.trans (if_neg (fun h=>by have h2:ok m sg=true:=h.2.2.2;rw [hok.out]at h2;cases h2)));go_roundg (sh.length - (j + 1));case measure=>omega
         case rel=>exact⟨j + 1,by omega,by omega,by go_num,by rw [hno.out],Jk,hwk,by rw [hno.out];exact BK,HS,HB⟩
       | true=>
         have hyes:=hjd (hfold.out.trans (if_pos ⟨by simp,by show(m:Int) < 7;omega,hBm,hok⟩));replace hok:=hjd hok;go_wp2_with fail;refine And.intro rfl (And.intro trivial (Txt.a0w ⟨⟨by kernel_rfl,by simp⟩,?_⟩));go_upto_region 8 with fail
         have kd:=(Kept.refl [] v58).drew;replace Jk:=hjd (hJ.out _ _ [] (by simp) Jk.out kd);replace hwk:=hjd (hwk.out.a0g kd);replace BK:=hjd (BK.out.kept kd (by simp));replace HS:=hjd (HS.out.a0k kd);replace HB:=hjd (a1o.a0k HB.out kd);clear kd;have q7:=c0w BK.out hm7 rfl;have f7:=BK.out.frozen m;have E:=hjd (Rd.elem (i:=j) HS.out hp.out hpl.out (by omega));have q0:=a8a E.out (j:=0) rfl;rw [Nat.add_zero]at q0;clear E;refine Txt.a1k [] (fun _=>True) [[_,_,_,_,_,_,_,_,_],[]] (by kernel_rfl) (by kernel_rfl) rfl trivial (Txt.a0e ?_);go_wp2_with (first
          | ((with_reducible refine a0f 67 ?_);refine a0p (v:=.pointer (some ⟨g10,m,none⟩)) (by kernel_rfl) (b6e rfl rfl rfl (idx7 hm7 _)) ?_))
         refine And.intro rfl (And.intro trivial ?_);unfold Txt.a3j;go_wp2_with fail;refine And.intro rfl (And.intro trivial (Txt.a0w ⟨⟨by kernel_rfl,by simp⟩,?_⟩));have kk:Kept [g10] v58.drew (v58.drew.setCell ⟨g10,m,none⟩ (.pointer (some ⟨gs,os + j * 65 + 1,none⟩))):=(Kept.refl [g10] _).setCell (.inl (by simp)) _;have BK2:=hjd (BK.out.e6l m (some j));have HS2:=hjd (HS.out.kept kk hOS.out);have HB2:=hjd (show a1o body (.slice BA body.length bc) _ from HB.out.kept kk hOB.out);have J2:=hjd (hJ.out _ _ [g10] (by simpa using N10.out) Jk.out kk);have hwk2:=hjd (hwk.out.trans' (kk.more (fun k _ h=>by rw [List.mem_singleton.1 h];exact List.mem_cons_self)));have hcn:=hjd (e6x (i:=j) hm7 hBm);clear kk q7 f7 q0 BK HS HB Jk hwk;go_wp2_with fail;go_roundg (sh.length - (j + 1));case measure=>omega
         case rel=>exact⟨j + 1,by omega,by omega,by go_num,by rw [hyes.out];show _=Value.int .i64 ((d5n (fun k=>if k=m then some j else B k):Nat):Int);rw [hcn.out];have:=hc7.out;rw [IntWalk.wrap64_in _ (by omega)];rfl,J2,hwk2,by rw [hyes.out];exact BK2,HS2,HB2⟩
  ·obtain rfl:j=sh.length:=by omega
   have hlt14:=hjd (c7b ok sh sh.length (Nat.le_refl _));obtain⟨B,hBe⟩:∃B,a8c ok sh sh.length=B:=⟨_,rfl⟩;rw [hBe]at BK hlt14 ⊢;have hc7:=hjd (e1x B)
   have K1:=hjd (a7i (S:=S) K8.out.of0 hwk.out (fun k hk hl=>by
    rcases List.mem_cons.1 hk with rfl | h
    ·have:=N10.out;omega
    ·exact h))
   have B8:=hjd (B8.out.kept hwk.out (fun h=>by
    rcases List.mem_cons.1 h with h | h
    ·exact NE.out h
    ·have:=hSlt.out _ h;have:=N8.out;omega))
   clear hwk hf hj hlt
   cases rp with
   | none=>
     go_wp2_with (first
      | ((with_reducible refine a0f 79 ?_);refine a0y (cs:=#[.slice none 0 0,.slice none 0 0,.slice none 0 0]) rfl rfl (by kernel_rfl) ?_)
      | (refine a0a (cs:=#[.slice none 0 0,.slice none 0 0,.slice none 0 0]) (o:=⟨none,Op.store 56 (.tmp 8) (.tmp 79),_,_,_,_⟩) a2i rfl (.tmp 8) (.tmp 79) rfl rfl rfl B8.out rfl rfl (a1v _ _ _ _ _ _ _ _ _) ?_;intro wb b8 k8))
     exact a1j a2i rfl rfl b8 rfl rfl ⟨hJ.out _ _ [g8] (by simpa using N8.out) Jk.out k8,a7i K1.out k8 (fun k hk hl=>by rw [List.mem_singleton.1 hk]at hl;have:=N8.out;omega),by first | exact .inl ⟨.inl rfl,rfl⟩ | rfl⟩
   | some rp=>
     by_cases hq:d5n B < q
     ·go_wp2_with (first
       | (go_at_call 146;(with_reducible refine(cq.out _ Jk.out).mono ?_);rintro e v76 ⟨rfl,rfl⟩)
       | ((with_reducible refine a0f 79 ?_);refine a0y (cs:=#[.slice none 0 0,.slice none 0 0,.slice none 0 0]) rfl rfl (by kernel_rfl) ?_)
       | (refine a0a (cs:=#[.slice none 0 0,.slice none 0 0,.slice none 0 0]) (o:=⟨none,Op.store 56 (.tmp 8) (.tmp 79),_,_,_,_⟩) a2i rfl (.tmp 8) (.tmp 79) rfl rfl rfl B8.out rfl rfl (a1v _ _ _ _ _ _ _ _ _) ?_;intro wb b8 k8))
      exact a1j a2i rfl rfl b8 rfl rfl ⟨hJ.out _ _ [g8] (by simpa using N8.out) Jk.out k8,a7i K1.out k8 (fun k hk hl=>by rw [List.mem_singleton.1 hk]at hl;have:=N8.out;omega),.inl ⟨.inr (by rw [hBe];exact hq),rfl⟩⟩
     ·have HBr:=hjd (show Rd _ 1 (.slice BA body.length bc) body.length (bv body)from HB.out);go_wp2_with (first
       | (go_at_call 146;(with_reducible refine(cq.out _ Jk.out).mono ?_);rintro e v76 ⟨rfl,rfl⟩)
       | (go_at_call 127;(with_reducible refine(b1k _ body _ HBr.out (by have:=hbl.out;omega)).mono ?_);rintro e v81 ⟨x81,rfl,h81⟩;have M:=hjd h81.ow;have K2:=hjd (a7i K1.out h81.kept (by simp));replace Jk:=hjd (hJ.out _ _ [] (by simp) Jk.out h81.kept);replace HS:=hjd (HS.out.a0k h81.kept);replace BK:=hjd (BK.out.kept h81.kept (by simp));replace B8:=hjd (B8.out.kept h81.kept (by simp));have hM:=M.out;obtain⟨MA,mc,rfl,_⟩:=hM.shape;clear hM h81)
       | ((with_reducible refine a0f 82 ?_);refine a3x (v:=.slice MA body.length mc) (cs:=#[.slice MA body.length mc,.slice none 0 0,.slice none 0 0]) rfl 0 (.tmp 81) rfl rfl (by kernel_rfl) ?_)
       | ((with_reducible refine a0f 14 ?_);(refine a0h (o:=⟨some 14,_,_,_,_,_⟩) rfl rfl a2v ?_);intro g14 w14 m14;refine a0a (cs:=#[.slice MA body.length mc,.slice none 0 0,.slice none 0 0]) (o:=⟨none,Op.store 56 (.tmp 14) (.tmp 82),_,_,_,_⟩) a2i rfl (.tmp 14) (.tmp 82) rfl rfl rfl m14.blk rfl rfl (a1v _ _ _ _ _ _ _ _ _) ?_;intro wb14 b14 k14;have B14:=hjd b14;have N14:=hjd m14.le;have K14:=hjd (m14.kept.a0r k14 m14.le);clear m14 b14 k14)
       | ((with_reducible refine a0f 83 ?_);refine a0d (cs:=((fam 7 B).map (e2h gs os)).toArray) (o:=⟨some 83,_,_,_,_,_⟩) arr7R rfl (.tmp 10) rfl rfl (BK.out.kept K14.out (by simp)) (by simp [a7c]) ?_))
      have C0:=hjd (show CM g14 v81 J body (a6b B q 0) (b7x sh B) (.slice MA body.length mc) (.slice none 0 0) (.slice none 0 0) wb14 from⟨hJ.out _ _ [] (by simp) Jk.out K14.out,K14.out,B14.out,M.out.a0k K14.out,Ow.nil _ _ _,(fun k h=>by cases h),Ow.nil _ _ _,(fun k h=>by cases h)⟩);clear B14 M;have NB:=hjd (show w.heap.size≤v81.heap.size from K2.out.size);have hN84:=hjd (Nat.le_trans NB.out N14.out);have HS3:=hjd HS.out;have B8v:=hjd B8.out;clear B8 Jk BK HB HBr HS K1;go_loopg [84] 7 (fun f x84 wk=>∃(j:Nat) (sv gv:Value),j≤7∧f + j=7∧x84= .int .i64 (j:Int)∧Hid (CM g14 v81 J body (a6b B q j) (b7x sh B) (.slice MA body.length mc) sv gv wk));case atStart=>exact⟨0,_,_,by omega,by omega,rfl,C0⟩
      case round=>
       clear C0;obtain⟨j,sv,gv,hj,hf,rfl,CC⟩:=hrel;by_cases hj7:j < 7
       ·have hpl:=hjd (d5x B q j);have hst:a6b B q (j + 1)=if (B j).isSome=true∧(a6b B q j).length < q then a6b B q j ++ [j]else a6b B q j:=rfl
        have hsgj:b7x sh B j=(sh.getD ((B j).getD 0) (0,[])).2:=rfl;generalize a6b B q j=xs at *;replace hst:=hjd hst;obtain⟨SV,sc1,rfl,e1⟩:=CC.out.s.shape;obtain⟨GV,gc1,rfl,e2⟩:=CC.out.g.shape;clear e1 e2
        cases hBj:B j with
        | none=>
          go_upto_region 17 with(first
           | ((with_reducible refine a0f 87 ?_);refine a0p (v:=.pointer none) rfl (d6u rfl rfl rfl (by have:=idx7v (gs:=gs) (os:=os) (B:=B) hj7;rw [hBj]at this;exact this _)) ?_))
          have kd:=(Kept.refl [] wr).drew;replace CC:=hjd (CC.out.a0k (hJ.out _ _ [] (by simp) CC.out.j kd) kd);clear kd;refine Txt.a1k [4] (fun _=>True) [[_,_,_,_,_,_,_,_],[_,_]] (by kernel_rfl) (by kernel_rfl) rfl trivial (Txt.a0e ?_);go_wp2_with fail;refine And.intro rfl (And.intro trivial ?_);unfold Txt.a3j;go_wp2_with fail;refine And.intro rfl (And.intro trivial (Txt.a0w ⟨⟨by kernel_rfl,?_⟩,?_⟩))
          ·intro j hj o ho hw;obtain rfl:j=4:=by simpa using hj
           cases ho
           exact absurd (hw:Region.wanted _ _=true) (by rw [show Region.wanted _ _=false from by kernel_rfl];simp)
          have hst2:=hjd (hst.out.trans (if_neg (fun h=>by rw [hBj]at h;cases h.1)));go_wp2_with fail;go_roundg (7 - (j + 1));case measure=>omega
          case rel=>exact⟨j + 1,_,_,by omega,by omega,by go_num,by rw [hst2.out];exact CC⟩
        | some i=>
          have hi:=hjd (hlt14.out j i hBj);go_upto_region 17 with(first
           | ((with_reducible refine a0f 87 ?_);refine a0p (v:=.pointer (some ⟨gs,os + i * 65 + 1,none⟩)) rfl (d6u rfl rfl rfl (by have:=idx7v (gs:=gs) (os:=os) (B:=B) hj7;rw [hBj]at this;exact this _)) ?_))
          have kd:=(Kept.refl [] wr).drew;replace CC:=hjd (CC.out.a0k (hJ.out _ _ [] (by simp) CC.out.j kd) kd);clear kd;have c1:=CC.out.b.cell 1;have G17:=CC.out.b;by_cases hxq:xs.length < q
          ·have hst2:=hjd (hst.out.trans (if_pos ⟨by rw [hBj];rfl,hxq⟩));refine Txt.a1k [4] (fun u=>Blk u g14 56 #[.slice MA body.length mc,.slice SV xs.length sc1,.slice GV xs.length gc1]) [[_,_,_,_,_,_,_,_],[_,_]] (by kernel_rfl) (by kernel_rfl) rfl G17 (Txt.a0e ?_);go_wp2_with (first
            | (go_at_call 146;(with_reducible refine(cq.out _ CC.out.j).mono ?_);rintro e v95 ⟨rfl,rfl⟩))
           refine And.intro rfl (And.intro G17 ?_);unfold Txt.a3j;go_wp2_with fail;refine And.intro rfl (And.intro G17 (Txt.a0w ⟨⟨by kernel_rfl,?_⟩,?_⟩))
           ·intro j hj o ho hw;obtain rfl:j=4:=by simpa using hj
            cases ho
            exact⟨92,rfl,fun u hu=>a1d rfl (fun w=>by kernel_rfl) rfl (hu.cell 1)⟩
           go_upto_region 18 with fail
           have hCB:∀u,Kept ((Value.slice SV xs.length sc1).ownBlock.toList ++ (Value.slice GV xs.length gc1).ownBlock.toList) wr.drew u→Blk u g14 56 #[.slice MA body.length mc,.slice SV xs.length sc1,.slice GV xs.length gc1]:=fun u hu=>CC.out.b.kept hu fun hk=>by
            rcases List.mem_append.1 hk with hk | hk
            ·exact CC.out.s.a2r CC.out.b (by decide) (Option.mem_toList.1 hk)
            ·exact CC.out.g.a2r CC.out.b (by decide) (Option.mem_toList.1 hk)
           have hCS:∀u,Kept ((Value.slice SV xs.length sc1).ownBlock.toList ++ (Value.slice GV xs.length gc1).ownBlock.toList) wr.drew u→u.rangeAt gs (os + i * 65 + 1) (bv (b7x sh B j)):=fun u hu=>by
            have k1:=CC.out.k.fresh hu fun k hk=>by
             rcases List.mem_append.1 hk with hk | hk
             ·exact CC.out.sf k (Option.mem_toList.1 hk)
             ·exact CC.out.gf k (Option.mem_toList.1 hk)
            obtain rfl:=hA.out (by have:=hi.out;omega);have:=b4b (Rd.elem (i:=i) (HS3.out.a0k k1) (c8l hi.out) (e2p hsl.out i (by have:=hi.out;omega)) (by have:=hi.out;omega));rw [hsgj,hBj];exact this
           have hsl64:=hjd (show(b7x sh B j).length=64 from by rw [hsgj,hBj];exact sh_at hi.out hsl.out);have CB:=hjd hCB;have CS:=hjd hCS;clear hCB hCS c1 G17;obtain⟨W,hW⟩:∃W,wr.drew=W:=⟨_,rfl⟩;rw [hW]at CB CS CC ⊢
           refine Txt.b4x (by kernel_rfl) [Txt.isV (.pointer (some ⟨g14,1,none⟩)),Txt.isV (.slice SV xs.length sc1),Txt.isV (.int .i64 (j:Int)),a8x W.heap.size 3 1 #[.int .i64 (j:Int)],isApp W.heap.size 3 1 (xs.length + 1) (iv (xs.map fun(k:Nat)=>(k:Int)) ++ [.int .i64 (j:Int)]) (Value.slice SV xs.length sc1).ownBlock (Value.slice GV xs.length gc1).ownBlock.toList,Txt.isV (.pointer (some ⟨g14,2,none⟩)),Txt.isV (.slice GV xs.length gc1),Txt.isV (.pointer (some ⟨gs,os + i * 65 + 1,none⟩)),Txt.isV (.pointer (some ⟨gs,os + i * 65 + 1,none⟩)),Txt.isV (ab (b7x sh B j)),a8x W.heap.size 32 1 (bv (b7x sh B j)).toArray,isApp W.heap.size 32 64 (xs.length + 1) (xs.flatMap (fun k=>bv (b7x sh B k)) ++ bv (b7x sh B j)) (Value.slice GV xs.length gc1).ownBlock (Value.slice SV xs.length sc1).ownBlock.toList,Txt.isV (.pointer (some ⟨g14,1,none⟩))] (Txt.Two 4 11 W 3 1 (.slice SV xs.length sc1) xs.length (iv (xs.map fun(k:Nat)=>(k:Int))) 32 64 (.slice GV xs.length gc1) xs.length (xs.flatMap fun k=>bv (b7x sh B k))) (Txt.b4z 4 11 (.slice SV xs.length sc1) (.slice GV xs.length gc1)) (by kernel_rfl) (by kernel_rfl) (by simp) (by kernel_rfl) (Txt.Two.start CC.out.s CC.out.g _) (Txt.Two.same (by decide) (by decide)) (Txt.Two.step (by decide) (by decide)) ⟨?_,?_,?_,?_,?_,?_,?_,?_,?_,?_,?_,?_,?_,trivial⟩ ?_
           ·refine a6e (.inl rfl) fun L a u hL hS hr hoth=>?_
            have e0:a.eval (.tmp 14)=(.pointer (some ⟨g14,0,none⟩)):=(hoth 14 (by decide)).trans rfl;exact b7b rfl e0 (by kernel_rfl)
           ·refine a6e (.inl rfl) fun L a u hL hS hr hoth=>?_
            have e0:a.eval (.tmp 98)=(.pointer (some ⟨g14,1,none⟩)):=hr 0 _ 98 _ rfl rfl rfl ⟨⟨0,.data⟩,by simp,rfl,rfl⟩;exact a1d rfl (fun w=>by kernel_rfl) e0 ((CB.out u hS.1).cell 1)
           ·refine a6e (.inl rfl) fun L a u hL hS hr hoth=>?_
            have e0:a.eval (.tmp 15)=(.int .i64 (j:Int)):=(hoth 15 (by decide)).trans rfl;exact x_mv rfl e0
           ·refine c1h (v0:=.int .i64 (j:Int)) a4d rfl (by decide) rfl rfl (.inl rfl) (fun k x hx=>Txt.b4z.lt CC.out.s CC.out.g k x hx) Txt.Two.size fun L a u hL hS hr hoth=>?_
            exact hr 2 _ 100 _ rfl rfl rfl ⟨⟨2,.data⟩,by simp,rfl,rfl⟩
           ·refine c5x (v:=(.slice SV xs.length sc1)) a4d rfl (by intro u hu;rw [List.mem_singleton.1 hu];rfl) (by have:=hpl.out;omega) (by have:=hpl.out;omega) (.inl rfl) Txt.b4z.at1 (fun k hk _ x hx=>Txt.b4z.far1 k hk x hx) Txt.Two.size (fun k hk=>by have hk2:=Option.mem_toList.1 hk;exact⟨CC.out.g.lt hk2,fun h=>CC.out.s.ne_ CC.out.g (by decide) k h hk2⟩) fun L a u hL hS hr hoth=>?_
            have e0:a.eval (.tmp 99)=(.slice SV xs.length sc1):=hr 1 _ 99 _ rfl rfl rfl ⟨⟨1,.data⟩,by simp,rfl,rfl⟩;obtain⟨g3,e1,b3,_⟩:=(hr 3 _ 101 _ rfl rfl rfl ⟨⟨3,.data⟩,by simp,rfl,rfl⟩:a8x W.heap.size 3 1 #[.int .i64 (j:Int)] (a.tmps.getD 101 undef) u);exact⟨e0,hS.2.1 hL,_,e1,Blk.rd (cs:=[.int .i64 (j:Int)]) b3 rfl (Nat.le_refl _)⟩
           ·refine a6e (.inl rfl) fun L a u hL hS hr hoth=>?_
            have e0:a.eval (.tmp 14)=(.pointer (some ⟨g14,0,none⟩)):=(hoth 14 (by decide)).trans rfl;exact b7b rfl e0 (by kernel_rfl)
           ·refine a6e (.inl rfl) fun L a u hL hS hr hoth=>?_
            have e0:a.eval (.tmp 103)=(.pointer (some ⟨g14,2,none⟩)):=hr 5 _ 103 _ rfl rfl rfl ⟨⟨5,.data⟩,by simp,rfl,rfl⟩;exact a1d rfl (fun w=>by kernel_rfl) e0 ((CB.out u hS.1).cell 2)
           ·refine a6e (.inl rfl) fun L a u hL hS hr hoth=>?_
            have e0:a.eval (.tmp 16)=(.pointer (some ⟨gs,os + i * 65 + 1,none⟩)):=(hoth 16 (by decide)).trans rfl;exact x_mv rfl e0
           ·refine a6e (.inl rfl) fun L a u hL hS hr hoth=>?_
            have e0:a.eval (.tmp 105)=(.pointer (some ⟨gs,os + i * 65 + 1,none⟩)):=hr 7 _ 105 _ rfl rfl rfl ⟨⟨7,.data⟩,by simp,rfl,rfl⟩;exact x_nil rfl e0
           ·refine a6e (.inl rfl) fun L a u hL hS hr hoth=>?_
            have e0:a.eval (.tmp 106)=(.pointer (some ⟨gs,os + i * 65 + 1,none⟩)):=hr 8 _ 106 _ rfl rfl rfl ⟨⟨8,.data⟩,by simp,rfl,rfl⟩;exact a5n Q.b7e (.tmp 106) rfl e0 (CS.out u hS.1) (by simpa using hsl64.out)
           ·refine c1h a4c rfl (by decide) (cells:=(bv (b7x sh B j)).toArray) (v0:=ab (b7x sh B j)) rfl (by simpa using hsl64.out) (.inl rfl) (fun k x hx=>Txt.b4z.lt CC.out.s CC.out.g k x hx) Txt.Two.size fun L a u hL hS hr hoth=>?_
            exact hr 9 _ 107 _ rfl rfl rfl ⟨⟨9,.data⟩,by simp,rfl,rfl⟩
           ·refine c5x (v:=(.slice GV xs.length gc1)) a4c rfl (a2x _) (by have:=hpl.out;omega) (by have:=hpl.out;omega) (.inl rfl) (Txt.b4z.at2 (by decide)) (fun k hk _ x hx=>Txt.b4z.far2 k hk x hx) Txt.Two.size (fun k hk=>by have hk2:=Option.mem_toList.1 hk;exact⟨CC.out.s.lt hk2,fun h=>CC.out.s.ne_ CC.out.g (by decide) k hk2 h⟩) fun L a u hL hS hr hoth=>?_
            have e0:a.eval (.tmp 104)=(.slice GV xs.length gc1):=hr 6 _ 104 _ rfl rfl rfl ⟨⟨6,.data⟩,by simp,rfl,rfl⟩;obtain⟨g3,e1,b3,_⟩:=(hr 10 _ 108 _ rfl rfl rfl ⟨⟨10,.data⟩,by simp,rfl,rfl⟩:a8x W.heap.size 32 1 (bv (b7x sh B j)).toArray (a.tmps.getD 108 undef) u);exact⟨e0,hS.2.2 hL,_,e1,a4x b3 (by simpa using hsl64.out)⟩
           ·refine a6e (.inl rfl) fun L a u hL hS hr hoth=>?_
            have e0:a.eval (.tmp 14)=(.pointer (some ⟨g14,0,none⟩)):=(hoth 14 (by decide)).trans rfl;exact b7b rfl e0 (by kernel_rfl)
           intro v wc kc hv;have y0:v 0=(.pointer (some ⟨g14,1,none⟩)):=hv 0 _ rfl;have y1:v 1=(.slice SV xs.length sc1):=hv 1 _ rfl;have y2:v 2=(.int .i64 (j:Int)):=hv 2 _ rfl;have y5:v 5=(.pointer (some ⟨g14,2,none⟩)):=hv 5 _ rfl;have y6:v 6=(.slice GV xs.length gc1):=hv 6 _ rfl;have y7:v 7=(.pointer (some ⟨gs,os + i * 65 + 1,none⟩)):=hv 7 _ rfl;have y8:v 8=(.pointer (some ⟨gs,os + i * 65 + 1,none⟩)):=hv 8 _ rfl;have y9:v 9=(ab (b7x sh B j)):=hv 9 _ rfl;have y12:v 12=(.pointer (some ⟨g14,1,none⟩)):=hv 12 _ rfl;have r3:(a8x W.heap.size 3 1 #[.int .i64 (j:Int)]:Rel) (v 3) wc:=hv 3 _ rfl;have r4:(isApp W.heap.size 3 1 (xs.length + 1) (iv (xs.map fun(k:Nat)=>(k:Int)) ++ [.int .i64 (j:Int)]) (Value.slice SV xs.length sc1).ownBlock (Value.slice GV xs.length gc1).ownBlock.toList:Rel) (v 4) wc:=hv 4 _ rfl;have r10:(a8x W.heap.size 32 1 (bv (b7x sh B j)).toArray:Rel) (v 10) wc:=hv 10 _ rfl;have r11:(isApp W.heap.size 32 64 (xs.length + 1) (xs.flatMap (fun k=>bv (b7x sh B k)) ++ bv (b7x sh B j)) (Value.slice GV xs.length gc1).ownBlock (Value.slice SV xs.length sc1).ownBlock.toList:Rel) (v 11) wc:=hv 11 _ rfl;clear hv;simp [Txt.a1f,List.range,List.range.loop,Act.put,y0,y1,y2,y5,y6,y7,y8,y9,y12];clear y0 y1 y2 y5 y6 y7 y8 y9 y12;generalize v 3=u3 at *;generalize v 4=u4 at *;generalize v 10=u10 at *;generalize v 11=u11 at *;have o4:=a4w r4.1;have o11:=a4w r11.1;replace r4:=hjd r4;replace r11:=hjd r11;clear r3 r10;unfold Txt.a2t
           refine a2l (.tmp 110) (.tmp 102) rfl rfl rfl o4 (by kernel_rfl) (CB.out wc kc.1) (by show 1 < 3;decide) ?_;intro w1 b1 k1;unfold Txt.a2t;refine a4o (v:=.pointer (some ⟨g14,2,none⟩)) (b7b rfl rfl (by kernel_rfl)) ?_;unfold Txt.a2t;refine a2l (.tmp 111) (.tmp 109) rfl rfl rfl o11 (by kernel_rfl) b1 (by show 2 < 3;decide) ?_;intro w2 b2 k2;unfold Txt.a2t;simp [Act.put];have C2:=hjd (CC.out.next hJ.out NB.out N14.out kc.1 r4.out r11.out k1 b2 k2);clear CC CB CS;go_wp2_with fail;go_roundg (7 - (j + 1));case measure=>omega
           case rel=>exact⟨j + 1,_,_,by omega,by omega,by go_num,by rw [hst2.out];exact C2⟩
          ·have hst2:=hjd (hst.out.trans (if_neg (fun h=>hxq h.2)));refine Txt.a1k [4] (fun u=>Blk u g14 56 #[.slice MA body.length mc,.slice SV xs.length sc1,.slice GV xs.length gc1]) [[_,_,_,_,_,_,_,_],[_,_]] (by kernel_rfl) (by kernel_rfl) rfl G17 (Txt.a0e ?_);go_wp2_with (first
            | (go_at_call 146;(with_reducible refine(cq.out _ CC.out.j).mono ?_);rintro e v95 ⟨rfl,rfl⟩))
           refine And.intro rfl (And.intro G17 ?_);unfold Txt.a3j;go_wp2_with fail;refine And.intro rfl (And.intro G17 (Txt.a0w ⟨⟨by kernel_rfl,?_⟩,?_⟩))
           ·intro j hj o ho hw;obtain rfl:j=4:=by simpa using hj
            cases ho
            exact⟨92,rfl,fun u hu=>a1d rfl (fun w=>by kernel_rfl) rfl (hu.cell 1)⟩
           go_wp2_with fail
           go_roundg (7 - (j + 1));case measure=>omega
           case rel=>exact⟨j + 1,_,_,by omega,by omega,by go_num,by rw [hst2.out];exact CC⟩
       ·obtain rfl:j=7:=by omega
        have B8w:=hjd (B8v.out.kept CC.out.k (by simp));obtain⟨SV,sc1,rfl,e1⟩:=CC.out.s.shape;obtain⟨GV,gc1,rfl,e2⟩:=CC.out.g.shape;clear e1 e2 hf hj hj7;go_wp2_with (first
         | ((with_reducible refine a0f 113 ?_);refine a0d (cs:=#[.slice MA body.length mc,.slice SV (a6b B q 7).length sc1,.slice GV (a6b B q 7).length gc1]) (o:=⟨some 113,_,_,_,_,_⟩) a2i rfl (.tmp 14) rfl rfl CC.out.b rfl ?_)
         | (refine a0a (cs:=#[.slice MA body.length mc,.slice SV (a6b B q 7).length sc1,.slice GV (a6b B q 7).length gc1]) (o:=⟨none,Op.store 56 (.tmp 8) (.tmp 113),_,_,_,_⟩) a2i rfl (.tmp 8) (.tmp 113) rfl rfl rfl B8w.out rfl rfl (a1v _ _ _ _ _ _ _ _ _) ?_;intro wb b8 k8))
        have far:∀{e s n v xs},Ow wr e s v n xs→e≠56→Ow wb e s v n xs:=fun ho he=>ho.kept k8 fun k hk hm=>by
         rw [List.mem_singleton.1 hm]at hk;exact ho.a2r B8w.out he hk
        exact a1j a2i rfl rfl b8 rfl rfl ⟨hJ.out _ _ [g8] (by simpa using N8.out) CC.out.j k8,a7i (a7i K2.out CC.out.k (by simp)) k8 (fun k hk hl=>by rw [List.mem_singleton.1 hk]at hl;have:=N8.out;omega),
         by rw [hBe];exact .inr ⟨by simp,by omega,_,_,_,rfl,Rd.a6w (far CC.out.m (by decide)),Rd.a6w (far CC.out.s (by decide)),Rd.a6w (far CC.out.g (by decide))⟩⟩
end Go.Proofs.YtdbngnlpafcogaaGreat
