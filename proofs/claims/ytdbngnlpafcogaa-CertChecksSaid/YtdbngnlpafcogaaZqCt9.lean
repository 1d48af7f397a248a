/-
  The certificates' laws: which certificates are right (CertChecks): the walk.
-/
import Derived.Test.YtdbngnlpafcogaaZqJ06
import Derived.Deep.CutBlock
import Derived.Deep.DeepCutAuto
set_option maxRecDepth 100000
namespace Go.Proofs.Ytdbngnlpafcogaa
open Go.RowKit Go.Mem Go.Txt
def a5o(t:Int × Int × Int):List Value:=[.int .i64 t.1,.int .i64 t.2.1,.int .i64 t.2.2]
theorem turnsT:SliceT Try.prog 74 76 3 24 (.agg (a5o (0,0,0)).toArray):=⟨Try.underlying74,by kernel_rfl,rfl,by omega⟩
theorem turnR:RowT Try.prog 76 3:=⟨⟨_,Try.underlying76,rfl⟩,by kernel_rfl⟩
theorem d9h(t:Int × Int × Int):(a5o t).toArray.all (·.oneCell')=true:=by simp [a5o,Value.oneCell']
theorem d9s:(Try.prog.info? 76).map (·.zero)=some (some (.agg #[.int .i64 0,.int .i64 0,.int .i64 0])):=by kernel_rfl
theorem d5p(x:Int):∃n:Nat,wrap64 ((IntKind.u64.wrap x).tmod 3)=n∧n < 3:=by
 rw [show IntKind.u64.wrap x=x % 18446744073709551616 from rfl]
 have h0:0≤x % 18446744073709551616:=by omega
 rw [Int.tmod_eq_emod_of_nonneg h0]
 refine⟨(x % 18446744073709551616 % 3).toNat,?_,by omega⟩
 rw [IntWalk.wrap64_in _ (by omega)]
 omega
theorem b5o{n i:Nat}(h:i < n):∃pre post,(a4q n).flatMap bv=pre ++ (bv (a2t i) ++ post)∧pre.length=i * 32:=by
 have:=a5t (keys:=a4q n) (i:=i) (by rw [b1y];exact h) (b6p _)
 rwa [c2n h]at this
theorem d7b{w1 u:World}{ts:List (Int × Int × Int)}{A:Option Addr}{c i:Nat}(hk:Kept [] w1 u)(h:Rd w1 3 (.slice A ts.length c) ts.length (ts.flatMap a5o))(hi:i < ts.length):∀g o c2,Value.slice A ts.length c= .slice (some ⟨g,o,none⟩) ts.length c2→u.rangeAt g (o + i * 3) (a5o (ts.getD i (0,0,0))):=by
 intro g o c2 e
 cases e
 have e:ts=ts.take i ++ (ts.getD i (0,0,0) :: ts.drop (i + 1)):=by
  rw [List.getD_eq_getElem?_getD,List.getElem?_eq_getElem hi]
  simp
 have hl:∀l:List (Int × Int × Int),(l.flatMap a5o).length=l.length * 3:=by
  intro l
  induction l with
  | nil=>rfl
  | cons x l ih=>rw [List.flatMap_cons,List.length_append,ih];simp [a5o];omega
 refine Rd.elem (i:=i) (pre:=(ts.take i).flatMap a5o) (post:=(ts.drop (i + 1)).flatMap a5o) (h.a0k hk) ?_ ?_ (by omega)
 ·conv=>lhs;rw [e]
  rw [List.flatMap_append,List.flatMap_cons]
 ·rw [hl,List.length_take,Nat.min_eq_left (by omega)]
theorem b4j{w1 u:World}{n m sb so sc:Nat}(h:Rd w1 32 (.slice (some ⟨sb,so,none⟩) n sc) n ((a4q n).flatMap bv))(hk:Kept [] w1 u)(hm:m < n):u.rangeAt sb (so + m * 32) (bv (a2t m)):=by
 obtain⟨pre,post,hp,hpl⟩:=b5o hm
 exact Rd.elem (i:=m) (h.a0k hk) hp hpl (by omega)
theorem b1c{g o n c j:Nat}(h0:0 < j)(hj:j < n)(W:World):(Instr.indexAt 54 (.slice (some ⟨g,o,none⟩) n c) (.int .i64 ((j:Int) - 1))).run Try.prog W= .ok (.pointer (some ⟨g,o + (j - 1),none⟩)) W:=by
 have h:=a3x (P:=Try.prog) (g:=g) (off:=o) (n:=n) (c:=c) (i:=j - 1) a5c (by omega) .i64 W
 rw [Nat.mul_one,show((j - 1:Nat):Int)=(j:Int) - 1 by omega]at h
 exact h
theorem d3l:ArrT Try.prog 24 5 64:=⟨Try.underlying24,by kernel_rfl⟩
structure W1 (w1:World) (r b:Nat) (kv sdv:Value) (n:Nat) (keys:List (List UInt8)) (body:List UInt8) (bw:Value) (ts:List (Int × Int × Int)) (tv:Value):Prop where
 j:RgJ r b kv keys w1
 sd:Rd w1 32 sdv n ((a4q n).flatMap bv)
 bo:a2a body bw w1
 tu:Rd w1 3 tv ts.length (ts.flatMap a5o)
set_option maxHeartbeats 6400000 in
theorem c0f{SL:Nat→List UInt8→List UInt8}{KY:Nat→List UInt8}{okm:Nat→List UInt8→List UInt8→Bool}{keys:Nat→List (List UInt8)}{body:List UInt8}{ts:List (Int × Int × Int)}(f:Int)(bw tv:Value)(w:World)
 (hb:a2a body bw w) (hbl:body.length≤140737488351232) (ht:Rd w 3 tv ts.length (ts.flatMap a5o)) (hSL:∀i bd,(SL i bd).length=64)
 (hK:∀n,(keys n).length=n) (hok:∀(n m:Nat) bd sg,m < n→okR (keys n) 5 bd m sg=okm m bd sg) (hself:∀m bd,okm m bd (SL m bd)=true) (hKY:∀m,(KY m).length=32)
 (ck:∀r b kv u (n m:Nat),RgJ r b kv (keys n) u→m < n→Calls Try.prog 22 #[.pointer (some ⟨r,0,none⟩),.int .i64 (m:Int)] u fun e w'=>e= .returned (ab (KY m))∧Kept [] u w')
 (cw:∀(m:Nat) sg bd u v,sg.length=64→a2a bd v u→bd.length≤140737488351900→Calls Try.prog 16 #[ab (KY m),.int .u8 5,v,ab sg] u fun e w'=>e= .returned (.bool (okm m bd sg))∧Kept [] u w')
 (c1:∀u,Calls Try.prog 30 #[] u fun e w'=>e= .returned (.bool true)∧Kept [] u w')
 (co:∀(k:Nat) u,k≤2→Calls Try.prog 31 #[.int .i64 (k:Int)] u fun e w'=>∃r b kv sv,e= .returned (.tuple #[.pointer (some ⟨r,0,none⟩),sv])∧RgJ r b kv (keys (3 * k + 1)) w'∧Rd w' 32 sv (3 * k + 1) ((a4q (3 * k + 1)).flatMap bv)∧Kept [] u w'∧u.heap.size≤b)
 (cs:∀(i:Nat) bd u v,a2a bd v u→bd.length≤140737488351900→Calls Try.prog 17 #[ab (a2t i),.int .u8 5,v] u fun e w'=>e= .returned (ab (SL i bd))∧Kept [] u w') :
 Calls Try.prog 9 #[.int .i64 f,bw,tv] w fun e w'=>e= .returned (.bool true)∧Kept [] w w':=by
 obtain⟨k,hk,hk2⟩:=d5p f
 replace hb:=hjd hb
 replace hbl:=hjd hbl
 replace ht:=hjd ht
 replace hSL:=hjd hSL
 replace c1:=hjd c1
 replace hK:=hjd hK
 replace hok:=hjd hok
 replace hself:=hjd hself
 replace hKY:=hjd hKY
 replace ck:=hjd ck
 replace cw:=hjd cw
 replace co:=hjd co
 replace cs:=hjd cs
 have hbS:=hb.out
 obtain⟨BA,bc,rfl,e1⟩:=hbS
 clear e1
 have hks:=hjd (show k≤2 by omega)
 have hN:=hjd (show 2 * k + 1≤3 * k + 1 by omega)
 have htS:=ht.out
 obtain⟨TA,tc,rfl,e1⟩:=htS
 clear e1
 go_enter Try.func9,Try.ntmps9
 go_upto_region 4 with(first
  | (go_at_call 30;(with_reducible refine(c1.out _).mono ?_);rintro e v21 ⟨rfl,K⟩;replace K:=hjd K))
 rw [hk]
 go_wp2_with (first
  | (go_at_call 31;(with_reducible refine(co.out k _ hks.out).mono ?_);rintro e u1 ⟨r,b,kv,sdv,rfl,J,S,K1,L⟩
     have hB:=hjd (show w.heap.size≤b from Nat.le_trans K.out.size L)
     have B:=hjd (show W1 u1 r b kv sdv (3 * k + 1) (keys (3 * k + 1)) body (.slice BA body.length bc) ts (.slice TA ts.length tc)from⟨J,S,a2a.a0k (a2a.a0k hb.out K.out) K1,(ht.out.a0k K.out).a0k K1⟩)
     replace K:=hjd (K.out.a0f K1)
     obtain⟨sb,so,sc,rfl,e2,e3⟩:=S.at_ (by omega)
     clear e2 e3 L J S K1)
  | (at_builtin;refine a3g a2c rfl (.tmp 32) (.tmp 33) rfl rfl (xs:=[]) (n:=0) (m:=body.length) (news:=bv body) (d8u _ _ _ _ (by rfl)) rfl (B.out.bo.a0k ((Kept.refl [] _).alloc _)) (a4r _) (by have:=hbl.out;omega) (by have:=hbl.out;omega) ?_
     intro x34 w34 o34 k34 b34
     have M:=hjd (show Ow w34 5 1 x34 body.length (bv body)from by simpa using o34)
     have K34:=((Kept.refl [] u1).alloc _).fresh k34 (fun q hq=>by have e:some u1.heap.size=some q:=Option.mem_toList.1 hq;cases e;exact Nat.le_refl _)
     have MF:=hjd (b0y (v:=.slice (some ⟨u1.heap.size,0,none⟩) 0 0) (k0:=u1.heap.size) (fun q hq=>by have e:some u1.heap.size=some q:=hq;cases e;exact Nat.le_refl _) (by simp) (d4c b34))
     obtain⟨MA,mc,rfl,e2⟩:=M.out.shape
     clear o34 k34 b34 e2)
  | ((with_reducible refine a0e 35 ?_);refine a3t (v:=.slice MA body.length mc) (cs:=#[.slice MA body.length mc,.slice none 0 0,.slice none 0 0]) rfl 0 (.tmp 34) rfl rfl (by kernel_rfl) ?_)
  | ((with_reducible refine a0e 10 ?_);(refine a0h (o:=⟨some 10,_,_,_,_,_⟩) rfl rfl a4m ?_);intro g10 w10 m10
     refine a0c (cs:=#[.slice MA body.length mc,.slice none 0 0,.slice none 0 0]) (o:=⟨none,Op.store 63 (.tmp 10) (.tmp 35),_,_,_,_⟩) a4s rfl (.tmp 10) (.tmp 35) rfl rfl rfl m10.blk rfl rfl (a3w _ _ _ _ _ _ _ _ _) ?_
     intro wb b10 k10
     have K10:=m10.kept.a0q k10 m10.le
     have C:=hjd (show CO u1 g10 body [] [] 0 (.slice MA body.length mc) (.slice none 0 0) (.slice none 0 0) wb from⟨K34.a0f K10,Nat.le_trans K34.size m10.le,b10,M.out.a0k K10,MF.out,Ow.nil _ _ _,(fun k h=>by cases h),Ow.nil _ _ _,(fun k h=>by cases h)⟩)
     clear m10 b10 k10 K10 M MF))
 clear K34
 have hbl2:=hjd (show body.length≤140737488351900 by have:=hbl.out;omega)
 go_loopg [11] (2 * k + 1) (fun f' x11 wk=>∃(j:Nat) (ns:List Int) (bs:List UInt8) (sv gv:Value),j≤2 * k + 1∧f' + j=2 * k + 1∧x11= .int .i64 (j:Int)∧Hid (ns.length=j)∧Hid (CO u1 g10 body ns bs j (.slice MA body.length mc) sv gv wk))
 case atStart=>exact⟨0,[],[],_,_,by omega,by omega,rfl,hjd rfl,C⟩
 case round=>
  clear C
  obtain⟨j,ns,bs,sv,gv,hj,hf,rfl,hnl,C⟩:=hrel
  by_cases hlt:j < 2 * k + 1
  ·obtain⟨SV,sc1,rfl,e2⟩:=C.out.s.shape
   obtain⟨GV,gc1,rfl,e3⟩:=C.out.g.shape
   clear e2 e3
   have hns7:=hjd (show ns.length≤7 by have:=hnl.out;have:=hks.out;omega)
   go_upto_region 10 with(first
    | ((with_reducible refine a0e 44 ?_);refine a0p (v:=.slice SV ns.length sc1) rfl (a1e rfl (fun w=>by kernel_rfl) rfl (C.out.b.cell 1)) ?_)
    | ((with_reducible refine a0e 46 ?_);(refine a1r (o:=⟨some 46,_,_,_,_,_⟩) (v0:=.int .i64 (j:Int)) (cells:=#[.int .i64 (j:Int)]) rfl a5c rfl rfl (by decide) rfl rfl ?_);intro g46 w46 m46
       have R46:=hjd (b1f (cells:=[.int .i64 (j:Int)]) m46.blk rfl)
       replace C:=hjd (C.out.a0k m46.kept)
       clear m46)
    | (at_builtin;refine a3g a5c rfl (.tmp 44) (.tmp 46) rfl rfl (xs:=iv ns) (n:=ns.length) (m:=1) (news:=[.int .i64 (j:Int)]) C.out.s rfl R46.out (by intro u hu;rw [List.mem_singleton.1 hu];rfl) (by have:=hns7.out;omega) (by have:=hns7.out;omega) ?_
       intro x47 w47 o47 k47 b47
       have O47:=hjd (show Ow w47 3 1 x47 (ns ++ [(j:Int)]).length (iv (ns ++ [(j:Int)]))from by simpa [iv]using o47)
       have one47:=b7c o47
       have C47:=hjd (C.out.b.kept k47 (fun hk=>C.out.s.a3z C.out.b (by decide) (Option.mem_toList.1 hk)))
       clear o47 R46)
    | ((with_reducible refine a4h (.tmp 48) (.tmp 47) ?_);refine a9j (o':=⟨none,Op.store 54 (.tmp 48) (.tmp 47),_,_,_,_⟩) rfl (.tmp 48) (.tmp 47) rfl rfl rfl one47 (by kernel_rfl) C47.out (by show 1 < 3;decide) ?_
       intro w49 b49 k49
       replace C:=hjd (C.out.e3g k47 O47.out (d4c b47) b49 k49)
       clear b47 k47 b49 k49 C47 O47 one47))
   obtain⟨W,hW⟩:∃W,w49=W:=⟨_,rfl⟩
   rw [hW]at C ⊢
   clear hW
   have hjn:=hjd (show j < 3 * k + 1 by have:=hN.out;omega)
   have hKF:∀u,Kept ((Value.slice GV j gc1).ownBlock.toList ++ (Value.slice none 0 0).ownBlock.toList) W u→Kept [] u1 u:=fun u hu=>C.out.k.fresh hu fun q hq=>by
    rcases List.mem_append.1 hq with hq | hq
    ·exact C.out.gf q (Option.mem_toList.1 hq)
    ·cases hq
   have hCB:∀u,Kept ((Value.slice GV j gc1).ownBlock.toList ++ (Value.slice none 0 0).ownBlock.toList) W u→Blk u g10 63 #[.slice MA body.length mc,_,.slice GV j gc1]:=fun u hu=>C.out.b.kept hu fun hq=>by
    rcases List.mem_append.1 hq with hq | hq
    ·exact C.out.g.a3z C.out.b (by decide) (Option.mem_toList.1 hq)
    ·cases hq
   have hSD:∀u,Kept ((Value.slice GV j gc1).ownBlock.toList ++ (Value.slice none 0 0).ownBlock.toList) W u→u.rangeAt sb (so + j * 32) (bv (a2t j)):=fun u hu=>by
    obtain⟨pre,post,hp,hpl⟩:=b5o hjn.out
    exact Rd.elem (i:=j) (B.out.sd.a0k (hKF u hu)) hp hpl (by omega)
   have KF:=hjd hKF
   have CB:=hjd hCB
   have SD:=hjd hSD
   clear hKF hCB hSD
   refine Txt.a8w (by kernel_rfl) [Txt.isV (.pointer (some ⟨g10,2,none⟩)),Txt.isV (Value.slice GV j gc1),Txt.isV (.slice (some ⟨sb,so,none⟩) (3 * k + 1) sc),Txt.isV (.int .i64 (j:Int)),Txt.isV (.pointer (some ⟨sb,so + j * 32,none⟩)),Txt.isV (ab (a2t j)),Txt.isV (.slice BA body.length bc),Txt.isV (ab (SL j body)),a6h W.heap.size 24 1 (bv (SL j body)).toArray,isApp W.heap.size 24 64 (j + 1) (bv bs ++ bv (SL j body)) (Value.slice GV j gc1).ownBlock (Value.slice none 0 0).ownBlock.toList,Txt.isV (.pointer (some ⟨g10,2,none⟩))] (Txt.Two 9 0 W 24 64 (Value.slice GV j gc1) j (bv bs) 3 1 (Value.slice none 0 0) 0 []) (Txt.b1v 9 0 (Value.slice GV j gc1) (Value.slice none 0 0)) (by kernel_rfl) (by kernel_rfl) (by simp) (by kernel_rfl) (Txt.Two.start C.out.g (Ow.nil _ _ _) _) (Txt.Two.same (by decide) (by decide)) (Txt.Two.step (by decide) (by decide)) ⟨?_,?_,?_,?_,?_,?_,?_,?_,?_,?_,?_,trivial⟩ ?_
   ·refine a1s (.inl rfl) fun L a u hL hS hr hoth=>?_
    have e0:a.eval (.tmp 10)=(.pointer (some ⟨g10,0,none⟩)):=(hoth 10 (by decide)).trans rfl
    exact c1o rfl e0 (by kernel_rfl)
   ·refine a1s (.inl rfl) fun L a u hL hS hr hoth=>?_
    have e0:a.eval (.tmp 49)=(.pointer (some ⟨g10,2,none⟩)):=hr 0 _ 49 _ rfl rfl rfl ⟨⟨0,.data⟩,by simp,rfl,rfl⟩
    exact a1e rfl (fun w=>by kernel_rfl) e0 ((CB.out u hS.1).cell 2)
   ·refine a1s (.inl rfl) fun L a u hL hS hr hoth=>?_
    have e0:a.eval (.tmp 9)=(.slice (some ⟨sb,so,none⟩) (3 * k + 1) sc):=(hoth 9 (by decide)).trans rfl
    exact e2c rfl e0
   ·refine a1s (.inl rfl) fun L a u hL hS hr hoth=>?_
    have e0:a.eval (.tmp 11)=(.int .i64 (j:Int)):=(hoth 11 (by decide)).trans rfl
    exact e2c rfl e0
   ·refine a1s (.inl rfl) fun L a u hL hS hr hoth=>?_
    have e0:a.eval (.tmp 51)=(.slice (some ⟨sb,so,none⟩) (3 * k + 1) sc):=hr 2 _ 51 _ rfl rfl rfl ⟨⟨2,.data⟩,by simp,rfl,rfl⟩
    have e1:a.eval (.tmp 52)=(.int .i64 (j:Int)):=hr 3 _ 52 _ rfl rfl rfl ⟨⟨3,.data⟩,by simp,rfl,rfl⟩
    exact a6j rfl e0 e1 (a3x a6l hjn.out _ _)
   ·refine a1s (.inl rfl) fun L a u hL hS hr hoth=>?_
    have e0:a.eval (.tmp 53)=(.pointer (some ⟨sb,so + j * 32,none⟩)):=hr 4 _ 53 _ rfl rfl rfl ⟨⟨4,.data⟩,by simp,rfl,rfl⟩
    exact a2n a2h.row (.tmp 53) rfl e0 (SD.out u hS.1) (by simpa using a2y j)
   ·refine a1s (.inl rfl) fun L a u hL hS hr hoth=>?_
    have e0:a.eval (.tmp 1)=(.slice BA body.length bc):=(hoth 1 (by decide)).trans rfl
    exact e2c rfl e0
   ·refine c1f rfl (fun xs w=>enters_of (c:=_) Try.func17 (by kernel_rfl) rfl xs w) (.inl rfl) (fun _ _ _ _ _ _ h _=>h) fun L a u hL hS hr hoth=>?_
    have e0:a.eval (.tmp 54)=(ab (a2t j)):=hr 5 _ 54 _ rfl rfl rfl ⟨⟨5,.data⟩,by simp,rfl,rfl⟩
    have e1:a.eval (.tmp 55)=(.slice BA body.length bc):=hr 6 _ 55 _ rfl rfl rfl ⟨⟨6,.data⟩,by simp,rfl,rfl⟩
    refine⟨#[(ab (a2t j)),(.int IntKind.u8 5),(.slice BA body.length bc)],by simp only [List.map_toArray,List.map_cons,List.map_nil,e0,e1] <;> rfl,(cs.out j body u _ (a2a.a0k B.out.bo (KF.out u hS.1)) hbl2.out).mono ?_⟩
    rintro e u2 ⟨rfl,hk⟩
    exact⟨_,rfl,rfl,hk⟩
   ·refine b5h (v0:=ab (SL j body)) a8j rfl (by decide) rfl (by simpa using hSL.out j body) (.inl rfl) (fun k x hx=>Txt.b1v.lt C.out.g (Ow.nil W 3 1) k x hx) Txt.Two.size fun L a u hL hS hr hoth=>?_
    exact hr 7 _ 56 _ rfl rfl rfl ⟨⟨7,.data⟩,by simp,rfl,rfl⟩
   ·refine b8h (v:=(Value.slice GV j gc1)) a8j rfl (a4r _) (by omega) (by omega) (.inl rfl) Txt.b1v.at1 (fun k hk _ x hx=>Txt.b1v.far1 k hk x hx) Txt.Two.size (fun k hk=>by cases hk) fun L a u hL hS hr hoth=>?_
    have e0:a.eval (.tmp 50)=(Value.slice GV j gc1):=hr 1 _ 50 _ rfl rfl rfl ⟨⟨1,.data⟩,by simp,rfl,rfl⟩
    obtain⟨g3,e1,b3,_⟩:=(hr 8 _ 57 _ rfl rfl rfl ⟨⟨8,.data⟩,by simp,rfl,rfl⟩:a6h W.heap.size 24 1 (bv (SL j body)).toArray (a.tmps.getD 57 undef) u)
    exact⟨e0,hS.2.1 hL,_,e1,b1f b3 (by simpa using hSL.out j body)⟩
   ·refine a1s (.inl rfl) fun L a u hL hS hr hoth=>?_
    have e0:a.eval (.tmp 10)=(.pointer (some ⟨g10,0,none⟩)):=(hoth 10 (by decide)).trans rfl
    exact c1o rfl e0 (by kernel_rfl)
   intro v wc kc hv
   have y0:v 0=(.pointer (some ⟨g10,2,none⟩)):=hv 0 _ rfl
   have y1:v 1=(Value.slice GV j gc1):=hv 1 _ rfl
   have y2:v 2=(.slice (some ⟨sb,so,none⟩) (3 * k + 1) sc):=hv 2 _ rfl
   have y3:v 3=(.int .i64 (j:Int)):=hv 3 _ rfl
   have y4:v 4=(.pointer (some ⟨sb,so + j * 32,none⟩)):=hv 4 _ rfl
   have y5:v 5=(ab (a2t j)):=hv 5 _ rfl
   have y6:v 6=(.slice BA body.length bc):=hv 6 _ rfl
   have y7:v 7=(ab (SL j body)):=hv 7 _ rfl
   have y10:v 10=(.pointer (some ⟨g10,2,none⟩)):=hv 10 _ rfl
   have r8:(a6h W.heap.size 24 1 (bv (SL j body)).toArray:Rel) (v 8) wc:=hv 8 _ rfl
   have r9:(isApp W.heap.size 24 64 (j + 1) (bv bs ++ bv (SL j body)) (Value.slice GV j gc1).ownBlock (Value.slice none 0 0).ownBlock.toList:Rel) (v 9) wc:=hv 9 _ rfl
   clear hv
   simp [Txt.a1c,List.range,List.range.loop,Act.put,y0,y1,y2,y3,y4,y5,y6,y7,y10]
   clear y0 y1 y2 y3 y4 y5 y6 y7 y10
   generalize v 8=u8 at *
   generalize v 9=u9 at *
   have o9:=b7c r9.1
   replace r9:=hjd r9
   clear r8
   unfold Txt.a8e
   refine b0p (.tmp 59) (.tmp 58) rfl rfl rfl o9 (by kernel_rfl) (CB.out wc kc.1) (by show 2 < 3;decide) ?_
   intro w1 b1 k1
   unfold Txt.a8e
   simp [Act.put]
   have C2:=hjd (C.out.e3r (bs':=bs ++ SL j body) (n':=j + 1) (by have h:=kc.1;rw [show∀(l:List Nat),l ++ (Value.slice none 0 0).ownBlock.toList=l from fun l=>List.append_nil l]at h;exact h) (by have h:=r9.out.1;rw [←List.map_append]at h;exact h) r9.out.2.1 b1 k1)
   clear C KF CB SD kc o9 r9 b1 k1
   go_wp2_with fail
   go_roundg (2 * k + 1 - (j + 1))
   case measure=>omega
   case rel=>exact⟨j + 1,_,_,_,_,by omega,by omega,by go_num,hjd (by simp [hnl.out]),C2⟩
  ·obtain rfl:j=2 * k + 1:=by omega
   have hns7:=hjd (show ns.length≤7 by have:=hnl.out;have:=hks.out;omega)
   have hkk:=hjd (show 2 * k + 1≤7 by omega)
   clear hnl hj hlt hf
   have HK:=hjd (hk2)
   go_upto_block 2 with fail
   go_cut [] (fun wc=>True∧Hid (∃(bd:List UInt8) (ns:List Int) (bs:List UInt8) (n:Nat) (bw sv gv:Value),bd.length≤140737488351900∧ns.length≤100∧n≤100∧CO u1 g10 bd ns bs n bw sv gv wc))
   case first=>
    go_wp2_with fail
    go_loopg [62] ts.length (fun f' x62 wk=>∃i:Nat,i≤ts.length∧f' + i=ts.length∧x62= .int .i64 (i:Int)∧Hid (i≤4)∧Hid (∃(bd:List UInt8) (ns:List Int) (bs:List UInt8) (n:Nat) (bw sv gv:Value),bd.length≤140737488351232 + i∧ns.length≤7 + i∧n≤7∧CO u1 g10 bd ns bs n bw sv gv wk))
    case atStart=>exact⟨0,by omega,by omega,rfl,hjd (by omega),hjd ⟨_,_,_,_,_,_,_,by have:=hbl.out;omega,by have:=hns7.out;omega,by have:=hkk.out;omega,C.out⟩⟩
    case round=>
     clear C
     obtain⟨i,hi,hf,rfl,hi4,hE⟩:=hrel
     by_cases hlt:i < ts.length
     ·obtain⟨bd,ns,bs,n,bv0,sv,gv,l1,l2,l3,C⟩:=hE.out
      clear hE
      replace C:=hjd C
      have hl1:=hjd l1
      have hl2:=hjd l2
      have hl3:=hjd l3
      clear l1 l2 l3
      obtain⟨SV,sc1,rfl,e2⟩:=C.out.s.shape
      obtain⟨GV,gc1,rfl,e3⟩:=C.out.g.shape
      obtain⟨BV,bc1,rfl,e4⟩:=C.out.m.shape
      clear e2 e3 e4
      obtain⟨⟨p,q,t⟩,hpe⟩:∃x,ts.getD i (0,0,0)=x:=⟨_,rfl⟩
      have T:=hjd (d7b (C.out.k) B.out.tu hlt)
      rw [hpe]at T
      clear hpe
      obtain⟨tb,tp,tc2,e,e2,e3⟩:=B.out.tu.at_ (by omega)
      cases e
      clear e2 e3
      go_upto_region 14 with(first
       | ((with_reducible refine a0e 65 ?_);refine a1n (o:=⟨some 65,_,_,_,_,_⟩) turnsT rfl (.tmp 60) (.tmp 62) rfl rfl rfl hlt ?_)
       | ((with_reducible refine a0e 66 ?_);refine a0x (o:=⟨some 66,_,_,_,_,_⟩) (cs:=a5o (p,q,t)) turnR rfl (.tmp 65) rfl rfl (T.out _ _ _ rfl) rfl ?_)
       | ((with_reducible refine a0e 13 ?_);(refine a0h (o:=⟨some 13,_,_,_,_,_⟩) rfl rfl d9s ?_);intro g13 w13 m13)
       | ((with_reducible refine a4h (.tmp 13) (.tmp 66) ?_);refine a0c (cs:=(a5o (p,q,t)).toArray) (o:=⟨none,Op.store 76 (.tmp 13) (.tmp 66),_,_,_,_⟩) turnR rfl (.tmp 13) (.tmp 66) rfl rfl rfl m13.blk rfl rfl (d9h _) ?_
          intro wb b13 k13
          have B13:=hjd b13
          have K13:=m13.kept.a0q k13 m13.le
          replace C:=hjd (C.out.a0k K13)
          clear m13 b13 k13 K13))
      by_cases h4:(4:Int)≤(i:Int)
      ·go_wp2_with fail
       go_meet
       have hb4:=hi4.out
       exact⟨trivial,hjd ⟨bd,ns,bs,n,_,_,_,by have:=hl1.out;omega,by have:=hl2.out;omega,by have:=hl3.out;omega,C.out⟩⟩
      ·by_cases h0:ns.length=0
       ·have hb0:((ns.length:Int) == 0)=true:=by simp [h0]
        replace h0:=hjd h0
        go_wp2_with (first
         | ((with_reducible refine a0e 71 ?_);refine a0p (v:=.slice SV ns.length sc1) (by kernel_rfl) (a1e rfl (fun w=>by kernel_rfl) rfl (C.out.b.cell 1)) ?_))
        go_meet
        have hb4:=hi4.out
        exact⟨trivial,hjd ⟨bd,ns,bs,n,_,_,_,by have:=hl1.out;omega,by have:=hl2.out;omega,by have:=hl3.out;omega,C.out⟩⟩
       ·have hb0:((ns.length:Int) == 0)=false:=by simpa using h0
        have h0p:0 < ns.length:=by omega
        have hns:ns.length≤100:=by have:=hl2.out;omega
        replace h0:=hjd h0
        go_upto_region 16 with(first
         | ((with_reducible refine a0e 71 ?_);refine a0p (v:=.slice SV ns.length sc1) (by kernel_rfl) (a1e rfl (fun w=>by kernel_rfl) rfl (C.out.b.cell 1)) ?_)
         | ((with_reducible refine a0e 76 ?_);refine a0p (v:=.int .i64 q) (by kernel_rfl) (a1e rfl (fun w=>by kernel_rfl) rfl (B13.out.cell 1)) ?_)
         | ((with_reducible refine a0e 79 ?_);refine a0p (v:=.slice SV ns.length sc1) (by kernel_rfl) (a1e rfl (fun w=>by kernel_rfl) rfl (C.out.b.cell 1)) ?_))
        obtain⟨a,ha,haL⟩:=mod_n q h0p (by omega)
        rw [ha]
        clear ha
        replace haL:=hjd haL
        go_upto_region 21 with(first
         | ((with_reducible refine a0e 85 ?_);refine a0p (v:=.int .i64 p) (by kernel_rfl) (a1e rfl (fun w=>by kernel_rfl) rfl (B13.out.cell 0)) ?_))
        have hz:=six_n p
        rcases hz with hz | hz | hz | hz | hz | hz
        ·rw [hz]
         clear hz
         obtain⟨svb,svo,sc2,e,e2,e3,e4,e5⟩:=C.out.s.at_ h0p
         cases e
         clear e2 e3 e4 e5
         go_wp2_with (first
          | ((with_reducible refine a0e 120 ?_);refine a0p (v:=.slice (some ⟨svb,svo,none⟩) ns.length sc1) (by kernel_rfl) (a1e rfl (fun w=>by kernel_rfl) rfl (C.out.b.cell 1)) ?_)
          | ((with_reducible refine a0e 123 ?_);refine a0p (v:=.int .i64 t) (by kernel_rfl) (a1e rfl (fun w=>by kernel_rfl) rfl (B13.out.cell 2)) ?_)
          | ((with_reducible refine a0e 124 ?_);refine a0p (v:=.pointer (some ⟨svb,svo + a,none⟩)) (by kernel_rfl) (a6j rfl rfl rfl (by have:=a3x (P:=Try.prog) (g:=svb) (off:=svo) (c:=sc1) (i:=a) a5c haL.out;rw [Nat.mul_one]at this;exact this _ _)) ?_)
          | ((with_reducible refine a4h (.tmp 124) (.tmp 123) ?_);refine b2o (o':=⟨none,Op.store 3 (.tmp 124) (.tmp 123),_,_,_,_⟩) (by kernel_rfl) (.tmp 124) (.tmp 123) rfl (j:=a) rfl (v:=.int .i64 t) rfl rfl (by kernel_rfl) C.out.s (by simpa [iv]using haL.out) ?_
             intro ws os ks
             rw [e0w]at os
             replace C:=hjd (C.out.e1j ks (by rw [List.length_set];exact os))
             clear os ks))
         go_wp2_with fail
         go_roundg (ts.length - (i + 1))
         case measure=>omega
         case rel=>exact⟨i + 1,by omega,by omega,by go_num,hjd (by omega),hjd ⟨_,_,_,_,_,_,_,by have:=hl1.out;omega,by have:=hl2.out;(try rw [List.length_set]);omega,by have:=hl3.out;omega,C.out⟩⟩
        ·rw [hz]
         clear hz
         by_cases hg:a < n
         ·have hgH:=hjd hg
          go_upto_region 25 with(first
           | ((with_reducible refine a0e 129 ?_);refine a0p (v:=.slice GV n gc1) (by kernel_rfl) (a1e rfl (fun w=>by kernel_rfl) rfl (C.out.b.cell 2)) ?_))
          have kd:=(Kept.refl [] wb).drew
          replace C:=hjd (C.out.a0k kd)
          replace B13:=hjd (B13.out.kept kd (by simp))
          clear kd
          obtain⟨gvb,gvo,gc2,e,e2,e3,e4,e5⟩:=C.out.g.at_ (by omega)
          cases e
          clear e2 e3 e4 e5
          obtain⟨x,hx,hxL⟩:=mod_u t (m:=64) (by omega)
          have hx2:(IntKind.u64.wrap t).tmod 64=(x:Int):=hx
          clear hx
          replace hxL:=hjd hxL
          have hbl3:=hjd (show a * 64 + x < bs.length by have h:=C.out.g.1;simp at h;have:=hxL.out;have:=hgH.out;omega)
          obtain⟨y,hy⟩:∃y,bs[a * 64 + x]?=some y:=⟨_,List.getElem?_eq_getElem hbl3.out⟩
          have qy:=e6i C.out.g (j:=a * 64 + x) (u:=.int .u8 (y.toNat:Int)) (by simp [hy,a2m])
          replace qy:=hjd qy
          clear hy hg
          have x0:=e4m y
          refine Txt.a1i [] (fun _=>True) [[_,_,_,_,_,_,_,_,_,_,_,_,_,_],[]] (by kernel_rfl) (by kernel_rfl) rfl trivial (Txt.a0g ?_)
          go_wp2_with (first
           | ((with_reducible refine a0e 133 ?_);refine a0p (v:=.slice (some ⟨gvb,gvo,none⟩) n gc1) (by kernel_rfl) (a1e rfl (fun w=>by kernel_rfl) rfl (C.out.b.cell 2)) ?_)
           | ((with_reducible refine a0e 136 ?_);refine a0p (v:=.int .i64 t) (by kernel_rfl) (a1e rfl (fun w=>by kernel_rfl) rfl (B13.out.cell 2)) ?_)
           | ((with_reducible refine a0e 139 ?_);refine a0p (v:=.pointer (some ⟨gvb,gvo + a * 64,none⟩)) (by kernel_rfl) (a6j rfl rfl rfl (a3x (P:=Try.prog) (g:=gvb) (off:=gvo) (c:=gc1) (i:=a) a8j hgH.out _ _)) ?_)
           | ((with_reducible refine a0e 140 ?_);refine a0p (v:=.pointer (some ⟨gvb,gvo + (a * 64 + x),none⟩)) (by kernel_rfl) (a6j rfl rfl rfl (by rw [←Nat.add_assoc];exact idx64 hxL.out _ _)) ?_)
           | ((with_reducible refine a0e 141 ?_);refine a0p (v:=.int .u8 (y.toNat:Int)) (by kernel_rfl) (a1e rfl (fun w=>by kernel_rfl) rfl qy.out) ?_)
           | ((with_reducible refine a0e 143 ?_);refine a0p (v:=.pointer (some ⟨gvb,gvo + a * 64,none⟩)) (by kernel_rfl) (a6j rfl rfl rfl (a3x (P:=Try.prog) (g:=gvb) (off:=gvo) (c:=gc1) (i:=a) a8j hgH.out _ _)) ?_)
           | ((with_reducible refine a0e 144 ?_);refine a0p (v:=.pointer (some ⟨gvb,gvo + (a * 64 + x),none⟩)) (by kernel_rfl) (a6j rfl rfl rfl (by rw [←Nat.add_assoc];exact idx64 hxL.out _ _)) ?_)
           | ((with_reducible refine a4h (.tmp 144) (.tmp 142) ?_);refine b2o (o':=⟨none,Op.store 5 (.tmp 144) (.tmp 142),_,_,_,_⟩) (by kernel_rfl) (.tmp 144) (.tmp 142) rfl (j:=a * 64 + x) rfl (v:=a2m (y ^^^ 4)) rfl rfl (by kernel_rfl) C.out.g (by simpa using hbl3.out) ?_
              intro ws os ks
              rw [e1n]at os
              replace C:=hjd (C.out.e0f ks os)
              clear os ks))
          refine And.intro rfl (And.intro trivial ?_)
          unfold Txt.a2q
          go_wp2_with fail
          refine And.intro rfl (And.intro trivial (Txt.a1d ⟨⟨by kernel_rfl,by simp⟩,?_⟩))
          go_wp2_with fail
          go_roundg (ts.length - (i + 1))
          case measure=>omega
          case rel=>exact⟨i + 1,by omega,by omega,by go_num,hjd (by omega),hjd ⟨_,_,_,_,_,_,_,by have:=hl1.out;omega,by have:=hl2.out;omega,by have:=hl3.out;omega,C.out⟩⟩
         ·go_wp2_with (first
           | ((with_reducible refine a0e 129 ?_);refine a0p (v:=.slice GV n gc1) (by kernel_rfl) (a1e rfl (fun w=>by kernel_rfl) rfl (C.out.b.cell 2)) ?_))
          go_wp2_with fail
          go_roundg (ts.length - (i + 1))
          case measure=>omega
          case rel=>exact⟨i + 1,by omega,by omega,by go_num,hjd (by omega),hjd ⟨_,_,_,_,_,_,_,by have:=hl1.out;omega,by have:=hl2.out;omega,by have:=hl3.out;omega,C.out⟩⟩
        ·rw [hz]
         clear hz
         go_wp2_with (first
          | ((with_reducible refine a0e 148 ?_);refine a0p (v:=.slice SV ns.length sc1) (by kernel_rfl) (a1e rfl (fun w=>by kernel_rfl) rfl (C.out.b.cell 1)) ?_)
          | ((with_reducible refine a0e 150 ?_);refine a0p (v:=.int .i64 t) (by kernel_rfl) (a1e rfl (fun w=>by kernel_rfl) rfl (B13.out.cell 2)) ?_)
          | ((with_reducible refine a0e 151 ?_);(refine a1r (o:=⟨some 151,_,_,_,_,_⟩) (v0:=.int .i64 t) (cells:=#[.int .i64 t]) (by kernel_rfl) a5c rfl rfl (by decide) rfl rfl ?_);intro gm wm mm
             have Rm:=hjd (b1f (cells:=[.int .i64 t]) mm.blk rfl)
             replace C:=hjd (C.out.a0k mm.kept)
             clear mm)
          | (at_builtin;refine a3g a5c rfl (.tmp 148) (.tmp 151) rfl rfl (xs:=iv ns) (n:=ns.length) (m:=1) (news:=[.int .i64 t]) C.out.s rfl Rm.out (by intro u hu;rw [List.mem_singleton.1 hu];rfl) (by omega) (by omega) ?_
             intro x4 w4 o4 k4 b4
             have O4:=hjd (show Ow w4 3 1 x4 (ns ++ [t]).length (iv (ns ++ [t]))from by simpa [iv]using o4)
             have one4:=b7c o4
             have C4:=hjd (C.out.b.kept k4 (fun hk=>C.out.s.a3z C.out.b (by decide) (Option.mem_toList.1 hk)))
             clear o4 Rm)
          | ((with_reducible refine a4h (.tmp 153) (.tmp 152) ?_);refine a9j (o':=⟨none,Op.store 54 (.tmp 153) (.tmp 152),_,_,_,_⟩) (by kernel_rfl) (.tmp 153) (.tmp 152) rfl rfl rfl one4 (by kernel_rfl) C4.out (by show 1 < 3;decide) ?_
             intro w5 b5 k5
             replace C:=hjd (C.out.e3g k4 O4.out (d4c b4) b5 k5)
             clear b4 k4 b5 k5 C4 O4 one4))
         go_wp2_with fail
         go_roundg (ts.length - (i + 1))
         case measure=>omega
         case rel=>exact⟨i + 1,by omega,by omega,by go_num,hjd (by omega),hjd ⟨_,_,_,_,_,_,_,by have:=hl1.out;omega,by have:=hl2.out;(try rw [List.length_append]);simp;omega,by have:=hl3.out;omega,C.out⟩⟩
        ·rw [hz]
         clear hz
         have hmin:=c9f n a
         obtain⟨mB,mD,hcut,mO,mN⟩:=ow_to a8j C.out.g .i64 (Nat.min n a) (Nat.min_le_left _ _)
         replace hcut:=hjd hcut
         replace mN:=hjd mN
         have mO2:=hjd (show Ow _ 24 64 (.slice mB (Nat.min n a) mD) (Nat.min n a) (bv (bs.take (Nat.min n a * 64)))from by rw [←List.map_take]at mO;exact mO)
         have hmL:=hjd (Nat.min_le_left n a)
         clear mO
         generalize Nat.min n a=mm at *
         go_wp2_with (first
          | ((with_reducible refine a0e 157 ?_);refine a0p (v:=.slice GV n gc1) (by kernel_rfl) (a1e rfl (fun w=>by kernel_rfl) rfl (C.out.b.cell 2)) ?_)
          | ((with_reducible refine a0e 159 ?_);refine a0p (v:=.slice GV n gc1) (by kernel_rfl) (a1e rfl (fun w=>by kernel_rfl) rfl (C.out.b.cell 2)) ?_)
          | ((with_reducible refine a0e 162 ?_);refine e4p (by kernel_rfl) (.tmp 160) (.tmp 161) rfl rfl rfl hmin.symm ?_)
          | ((with_reducible refine a0e 163 ?_);refine a0p (v:=.slice mB mm mD) (by kernel_rfl) (e5j rfl rfl rfl rfl rfl (hcut.out _)) ?_)
          | ((with_reducible refine a4h (.tmp 164) (.tmp 163) ?_);refine a9j (o':=⟨none,Op.store 61 (.tmp 164) (.tmp 163),_,_,_,_⟩) (by kernel_rfl) (.tmp 164) (.tmp 163) rfl rfl rfl rfl (by kernel_rfl) C.out.b (by show 2 < 3;decide) ?_
             intro w5 b5 k5
             replace C:=hjd (C.out.e3r (Kept.refl _ _) mO2.out (.inl mN.out) b5 k5)
             clear b5 k5 mO2 mN))
         go_wp2_with fail
         go_roundg (ts.length - (i + 1))
         case measure=>omega
         case rel=>exact⟨i + 1,by omega,by omega,by go_num,hjd (by omega),hjd ⟨_,_,_,_,_,_,_,by have:=hl1.out;omega,by have:=hl2.out;omega,by have:=hl3.out;have:=hmL.out;omega,C.out⟩⟩
        ·rw [hz]
         clear hz
         obtain⟨bt,hbt⟩:=u8_val t
         go_wp2_with (first
          | ((with_reducible refine a0e 168 ?_);refine a0p (v:=.slice BV bd.length bc1) (by kernel_rfl) (a1e rfl (fun w=>by kernel_rfl) rfl (C.out.b.cell 0)) ?_)
          | ((with_reducible refine a0e 170 ?_);refine a0p (v:=.int .i64 t) (by kernel_rfl) (a1e rfl (fun w=>by kernel_rfl) rfl (B13.out.cell 2)) ?_)
          | ((with_reducible refine a0e 171 ?_);refine a0p (v:=a2m bt) (by kernel_rfl) (x_conv rfl rfl (by rw [show a2m bt= .int .u8 (IntKind.u8.wrap t)from by rw [hbt];rfl];kernel_rfl)) ?_)
          | ((with_reducible refine a0e 172 ?_);(refine a1r (o:=⟨some 172,_,_,_,_,_⟩) (v0:=a2m bt) (cells:=(bv [bt]).toArray) (by kernel_rfl) a2c rfl rfl (by decide) rfl rfl ?_);intro gm wm mm
             have Rm:=hjd (b1f (cells:=bv [bt]) mm.blk rfl)
             replace C:=hjd (C.out.a0k mm.kept)
             clear mm)
          | (at_builtin;refine a3g a2c rfl (.tmp 168) (.tmp 172) rfl rfl (xs:=bv bd) (n:=bd.length) (m:=1) (news:=bv [bt]) C.out.m rfl Rm.out (a4r _) (by have:=hl1.out;omega) (by have:=hl1.out;omega) ?_
             intro x4 w4 o4 k4 b4
             have O4:=hjd (show Ow w4 5 1 x4 (bd ++ [bt]).length (bv (bd ++ [bt]))from by simpa [bv]using o4)
             have one4:=b7c o4
             have C4:=hjd (C.out.b.kept k4 (fun hk=>C.out.m.a3z C.out.b (by decide) (Option.mem_toList.1 hk)))
             clear o4 Rm)
          | ((with_reducible refine a4h (.tmp 174) (.tmp 173) ?_);refine a9j (o':=⟨none,Op.store 23 (.tmp 174) (.tmp 173),_,_,_,_⟩) (by kernel_rfl) (.tmp 174) (.tmp 173) rfl rfl rfl one4 (by kernel_rfl) C4.out (by show 0 < 3;decide) ?_
             intro w5 b5 k5
             replace C:=hjd (C.out.turnB k4 O4.out (d4c b4) b5 k5)
             clear b4 k4 b5 k5 C4 O4 one4))
         go_wp2_with fail
         go_roundg (ts.length - (i + 1))
         case measure=>omega
         case rel=>exact⟨i + 1,by omega,by omega,by go_num,hjd (by omega),hjd ⟨_,_,_,_,_,_,_,by have:=hl1.out;(try rw [List.length_append]);simp;omega,by have:=hl2.out;omega,by have:=hl3.out;omega,C.out⟩⟩
        ·rw [hz]
         clear hz
         obtain⟨m,hm,hmL⟩:=mod_n t (m:=3 * k + 1) (by omega) (by omega)
         have hm2:wrap64 ((IntKind.u64.wrap t).tmod (3 * (k:Int) + 1))=(m:Int):=by exact_mod_cast hm
         replace hmL:=hjd hmL
         go_upto_region 18 with(first
          | ((with_reducible refine a0e 89 ?_);refine a0p (v:=.int .i64 t) (by kernel_rfl) (a1e rfl (fun w=>by kernel_rfl) rfl (B13.out.cell 2)) ?_))
         first | rw [hm] | rw [hm2] | skip
         clear hm hm2
         obtain⟨svb,svo,sc2,e,e2,e3,e4,e5⟩:=C.out.s.at_ h0p
         cases e
         clear e2 e3 e4 e5
         go_upto_region 19 with(first
          | ((with_reducible refine a0e 97 ?_);refine a0p (v:=.slice (some ⟨svb,svo,none⟩) ns.length sc1) (by kernel_rfl) (a1e rfl (fun w=>by kernel_rfl) rfl (C.out.b.cell 1)) ?_)
          | ((with_reducible refine a0e 100 ?_);refine a0p (v:=.pointer (some ⟨svb,svo + a,none⟩)) (by kernel_rfl) (a6j rfl rfl rfl (by have:=a3x (P:=Try.prog) (g:=svb) (off:=svo) (c:=sc1) (i:=a) a5c haL.out;rw [Nat.mul_one]at this;exact this _ _)) ?_)
          | ((with_reducible refine a4h (.tmp 100) (.tmp 99) ?_);refine b2o (o':=⟨none,Op.store 3 (.tmp 100) (.tmp 99),_,_,_,_⟩) (by kernel_rfl) (.tmp 100) (.tmp 99) rfl (j:=a) rfl (v:=.int .i64 (m:Int)) rfl rfl (by kernel_rfl) C.out.s (by simpa [iv]using haL.out) ?_
             intro ws os ks
             rw [e0w]at os
             replace C:=hjd (C.out.e1j ks (by rw [List.length_set];exact os))
             clear os ks))
         have hnsl:=hjd (show(ns.set a (m:Int)).length=ns.length from by simp)
         generalize ns.set a (m:Int)=ns2 at *
         rw [←hnsl.out]at h0p hns
         have hl2':=hjd (show ns2.length≤7 + i by have:=hl2.out;have:=hnsl.out;omega)
         by_cases hg:a < n
         ·have hgH:=hjd hg
          go_upto_region 20 with(first
           | ((with_reducible refine a0e 103 ?_);refine a0p (v:=.slice GV n gc1) (by kernel_rfl) (a1e rfl (fun w=>by kernel_rfl) rfl (C.out.b.cell 2)) ?_))
          obtain⟨gvb,gvo,gc2,e,e2,e3,e4,e5⟩:=C.out.g.at_ (by omega)
          cases e
          clear e2 e3 e4 e5
          clear hg
          obtain⟨W,hWd⟩:∃W,ws=W:=⟨_,rfl⟩
          have C20:=hjd (show CO u1 g10 bd ns2 bs n (.slice BV bd.length bc1) (.slice (some ⟨svb,svo,none⟩) ns.length sc1) (.slice (some ⟨gvb,gvo,none⟩) n gc1) W from hWd▸C.out)
          have HBd:=hjd (show a2a bd (.slice BV bd.length bc1) W from Rd.a6m C20.out.m)
          have CB:=hjd (fun u (hu:Kept [] W u)=>C20.out.b.kept hu (by simp))
          have SD:=hjd (fun u (hu:Kept [] W u)=>b4j B.out.sd (C20.out.k.a0f hu) hmL.out)
          have HB3:=hjd (fun u (hu:Kept [] W u)=>a2a.a0k HBd.out hu)
          have hbd5:=hjd (show bd.length≤140737488351900 by have:=hl1.out;omega)
          refine Txt.a8w (by kernel_rfl) [Txt.isV (.pointer (some ⟨g10,2,none⟩)),Txt.isV (.slice (some ⟨gvb,gvo,none⟩) n gc1),Txt.isV (.int .i64 (a:Int)),Txt.isV (.slice (some ⟨sb,so,none⟩) (3 * k + 1) sc),Txt.isV (.int .i64 (m:Int)),Txt.isV (.pointer (some ⟨sb,so + m * 32,none⟩)),Txt.isV (ab (a2t m)),Txt.isV (.pointer (some ⟨g10,0,none⟩)),Txt.isV (.slice BV bd.length bc1),Txt.isV (ab (SL m bd)),Txt.isV (.pointer (some ⟨gvb,gvo + a * 64,none⟩))] (fun _ u=>Kept [] W u) (fun _=>[]) (by kernel_rfl) (by kernel_rfl) (by simp) (by kernel_rfl) (hWd▸(Kept.refl [] ws).drew) (fun _ _ _ _ h=>h) (fun _ _ _ _ _ h k=>h.a0f k) ⟨?_,?_,?_,?_,?_,?_,?_,?_,?_,?_,?_,trivial⟩ ?_
          ·refine a1s (.inl rfl) fun L ac u hL hS hr hoth=>?_
           have e0:ac.eval (.tmp 10)=(.pointer (some ⟨g10,0,none⟩)):=(hoth 10 (by decide)).trans rfl
           exact c1o rfl e0 (by kernel_rfl)
          ·refine a1s (.inl rfl) fun L ac u hL hS hr hoth=>?_
           have e0:ac.eval (.tmp 106)=(.pointer (some ⟨g10,2,none⟩)):=hr 0 _ 106 _ rfl rfl rfl ⟨⟨0,.data⟩,by simp,rfl,rfl⟩
           exact a1e rfl (fun w=>by kernel_rfl) e0 ((CB.out u hS).cell 2)
          ·refine a1s (.inl rfl) fun L ac u hL hS hr hoth=>?_
           have e0:ac.eval (.tmp 14)=(.int .i64 (a:Int)):=(hoth 14 (by decide)).trans rfl
           exact e2c rfl e0
          ·refine a1s (.inl rfl) fun L ac u hL hS hr hoth=>?_
           have e0:ac.eval (.tmp 9)=(.slice (some ⟨sb,so,none⟩) (3 * k + 1) sc):=(hoth 9 (by decide)).trans rfl
           exact e2c rfl e0
          ·refine a1s (.inl rfl) fun L ac u hL hS hr hoth=>?_
           have e0:ac.eval (.tmp 15)=(.int .i64 (m:Int)):=(hoth 15 (by decide)).trans rfl
           exact e2c rfl e0
          ·refine a1s (.inl rfl) fun L ac u hL hS hr hoth=>?_
           have e0:ac.eval (.tmp 109)=(.slice (some ⟨sb,so,none⟩) (3 * k + 1) sc):=hr 3 _ 109 _ rfl rfl rfl ⟨⟨3,.data⟩,by simp,rfl,rfl⟩
           have e1:ac.eval (.tmp 110)=(.int .i64 (m:Int)):=hr 4 _ 110 _ rfl rfl rfl ⟨⟨4,.data⟩,by simp,rfl,rfl⟩
           exact a6j rfl e0 e1 (a3x a6l hmL.out _ _)
          ·refine a1s (.inl rfl) fun L ac u hL hS hr hoth=>?_
           have e0:ac.eval (.tmp 111)=(.pointer (some ⟨sb,so + m * 32,none⟩)):=hr 5 _ 111 _ rfl rfl rfl ⟨⟨5,.data⟩,by simp,rfl,rfl⟩
           exact a2n a2h.row (.tmp 111) rfl e0 (SD.out u hS) (by simpa using a2y m)
          ·refine a1s (.inl rfl) fun L ac u hL hS hr hoth=>?_
           have e0:ac.eval (.tmp 10)=(.pointer (some ⟨g10,0,none⟩)):=(hoth 10 (by decide)).trans rfl
           exact c1o rfl e0 (by kernel_rfl)
          ·refine a1s (.inl rfl) fun L ac u hL hS hr hoth=>?_
           have e0:ac.eval (.tmp 113)=(.pointer (some ⟨g10,0,none⟩)):=hr 7 _ 113 _ rfl rfl rfl ⟨⟨7,.data⟩,by simp,rfl,rfl⟩
           exact a1e rfl (fun w=>by kernel_rfl) e0 ((CB.out u hS).cell 0)
          ·refine c1f rfl (fun xs w=>enters_of (c:=_) Try.func17 (by kernel_rfl) rfl xs w) (.inl rfl) (fun _ _ _ _ _ _ h _=>h) fun L ac u hL hS hr hoth=>?_
           have e0:ac.eval (.tmp 112)=(ab (a2t m)):=hr 6 _ 112 _ rfl rfl rfl ⟨⟨6,.data⟩,by simp,rfl,rfl⟩
           have e1:ac.eval (.tmp 114)=(.slice BV bd.length bc1):=hr 8 _ 114 _ rfl rfl rfl ⟨⟨8,.data⟩,by simp,rfl,rfl⟩
           refine⟨#[(ab (a2t m)),(.int IntKind.u8 5),(.slice BV bd.length bc1)],by simp only [List.map_toArray,List.map_cons,List.map_nil,e0,e1] <;> rfl,(cs.out m bd u _ (HB3.out u hS) hbd5.out).mono ?_⟩
           rintro e u2 ⟨rfl,hk⟩
           exact⟨_,rfl,rfl,hk⟩
          ·refine a1s (.inl rfl) fun L ac u hL hS hr hoth=>?_
           have e0:ac.eval (.tmp 107)=(.slice (some ⟨gvb,gvo,none⟩) n gc1):=hr 1 _ 107 _ rfl rfl rfl ⟨⟨1,.data⟩,by simp,rfl,rfl⟩
           have e1:ac.eval (.tmp 108)=(.int .i64 (a:Int)):=hr 2 _ 108 _ rfl rfl rfl ⟨⟨2,.data⟩,by simp,rfl,rfl⟩
           exact a6j rfl e0 e1 (a3x a8j hgH.out _ _)
          intro v wc kc hv
          have y0:v 0=(.pointer (some ⟨g10,2,none⟩)):=hv 0 _ rfl
          have y1:v 1=(.slice (some ⟨gvb,gvo,none⟩) n gc1):=hv 1 _ rfl
          have y2:v 2=(.int .i64 (a:Int)):=hv 2 _ rfl
          have y3:v 3=(.slice (some ⟨sb,so,none⟩) (3 * k + 1) sc):=hv 3 _ rfl
          have y4:v 4=(.int .i64 (m:Int)):=hv 4 _ rfl
          have y5:v 5=(.pointer (some ⟨sb,so + m * 32,none⟩)):=hv 5 _ rfl
          have y6:v 6=(ab (a2t m)):=hv 6 _ rfl
          have y7:v 7=(.pointer (some ⟨g10,0,none⟩)):=hv 7 _ rfl
          have y8:v 8=(.slice BV bd.length bc1):=hv 8 _ rfl
          have y9:v 9=(ab (SL m bd)):=hv 9 _ rfl
          have y10:v 10=(.pointer (some ⟨gvb,gvo + a * 64,none⟩)):=hv 10 _ rfl
          clear hv
          simp [Txt.a1c,List.range,List.range.loop,Act.put,y0,y1,y2,y3,y4,y5,y6,y7,y8,y9,y10]
          clear y0 y1 y2 y3 y4 y5 y6 y7 y8 y9 y10
          unfold Txt.a8e
          refine c8m (sg:=SL m bd) Q.b3j (.tmp 116) (.tmp 115) rfl (j:=a * 64) rfl rfl (hSL.out m bd) (C20.out.a0k kc).g (by have h:=C20.out.g.1;simp at h;have:=hgH.out;omega) ?_
          intro wz bs2 os ks
          replace C:=hjd ((C20.out.a0k kc).e0f ks os)
          unfold Txt.a8e
          simp [Act.put]
          clear os ks kc CB SD HB3 HBd C20 hWd
          go_wp2_with fail
          go_roundg (ts.length - (i + 1))
          case measure=>omega
          case rel=>exact⟨i + 1,by omega,by omega,by go_num,hjd (by omega),hjd ⟨_,_,_,_,_,_,_,by have:=hl1.out;omega,by have:=hl2.out;have:=hl2'.out;omega,by have:=hl3.out;omega,C.out⟩⟩
         ·go_wp2_with (first
           | ((with_reducible refine a0e 103 ?_);refine a0p (v:=.slice GV n gc1) (by kernel_rfl) (a1e rfl (fun w=>by kernel_rfl) rfl (C.out.b.cell 2)) ?_))
          go_wp2_with fail
          go_roundg (ts.length - (i + 1))
          case measure=>omega
          case rel=>exact⟨i + 1,by omega,by omega,by go_num,hjd (by omega),hjd ⟨_,_,_,_,_,_,_,by have:=hl1.out;omega,by have:=hl2.out;have:=hl2'.out;omega,by have:=hl3.out;omega,C.out⟩⟩
     ·obtain rfl:i=ts.length:=by omega
      go_wp2_with fail
      go_meet
      obtain⟨bd,ns,bs,n,bv0,sv,gv,l1,l2,l3,C⟩:=hE.out
      have:=hi4.out
      exact⟨trivial,hjd ⟨bd,ns,bs,n,bv0,sv,gv,by omega,by omega,by omega,C⟩⟩
   case rest=>
    obtain⟨_,hH⟩:=hcut
    obtain⟨bd,ns,bs,n,bv0,sv,gv,l1,l2,l3,C⟩:=hH.out
    clear hH
    obtain⟨SV,sc1,rfl,e2⟩:=C.s.shape
    obtain⟨GV,gc1,rfl,e3⟩:=C.g.shape
    obtain⟨BV,bc1,rfl,e4⟩:=C.m.shape
    clear e2 e3 e4
    obtain⟨gs,g1,g2,g3⟩:=c7s n bs (by have h:=C.g.1;simpa using h)
    subst g1
    have g2:=hjd g2
    have hbd:=hjd l1
    have HBd:=hjd (show a2a bd (.slice BV bd.length bc1) wc from Rd.a6m C.m)
    have HS:=hjd (Rd.a6m C.s)
    have HG:=hjd (show Rd wc 64 (.slice GV gs.length gc1) gs.length (gs.flatMap bv)from by rw [g3];exact Rd.a6m C.g)
    have J:=hjd (RgJ.far B.out.j (by simp) B.out.j C.k)
    clear g3
    obtain⟨R,hR⟩:∃R,a3n (2 * k + 1) (3 * k + 1) (okR (keys (3 * k + 1)) 5 bd) ns gs=R:=⟨_,rfl⟩
    have CC:∀u,Kept [] wc u→Calls Try.prog 34 #[.pointer (some ⟨r,0,none⟩),.int .u8 5,.agg #[.slice BV bd.length bc1,.slice SV ns.length sc1,.slice GV gs.length gc1]] u fun e w'=>e= .returned (.int .i64 R)∧RgJ r b kv (keys (3 * k + 1)) w'∧Kept [b] u w':=fun u hu=>by
     have h:=a7h (RgJ.far J.out (by simp) J.out hu) 5 (ns:=ns) (gs:=gs) (body:=bd) _ _ _ (a2a.a0k HBd.out hu) hbd.out (HS.out.a0k hu) (HG.out.a0k hu) g2.out (by omega) (by omega)
     have hq:b7y (keys (3 * k + 1)).length=2 * k + 1:=by rw [hK.out];unfold b7y;omega
     rw [hq,hK.out,hR]at h
     exact h
    have CN:∀u,Calls Try.prog 34 #[.pointer none,.int .u8 5,.agg #[.slice BV bd.length bc1,.slice SV ns.length sc1,.slice GV gs.length gc1]] u fun e w'=>e= .returned (.int .i64 80)∧Kept [] u w':=fun u=>d4d _ _ _ _ u
    have NB:=hjd (show g10∉[b]from fun h=>by
     obtain⟨D,hD⟩:=B.out.j
     have h1:=hD.blt
     have h2:=C.gg
     rw [List.mem_singleton.1 h]at h2
     omega)
    have hB1:=hjd (show∀k∈[b],w.heap.size≤k by simpa using hB.out)
    replace CC:=hjd CC
    replace CN:=hjd CN
    replace C:=hjd C
    replace hR:=hjd hR
    have KK:=hjd (Kept.refl [] wc)
    clear HK l1
    by_cases h1:ns.length=2 * k + 1
    ·have b1:((ns.length:Int) !=2 * (k:Int) + 1)=false:=by simp;omega
     by_cases h2:gs.length=2 * k + 1
     ·have b2:((gs.length:Int) !=2 * (k:Int) + 1)=false:=by simp;omega
      replace h1:=hjd h1
      replace h2:=hjd h2
      go_wp2_with (first
       | ((with_reducible refine a0e 177 ?_);refine a0p (v:=.slice SV ns.length sc1) (by kernel_rfl) (a1e rfl (fun w=>by kernel_rfl) rfl ((C.out.b.kept KK.out (by simp)).cell 1)) ?_)
       | ((with_reducible refine a0e 185 ?_);refine a0p (v:=.slice GV gs.length gc1) (by kernel_rfl) (a1e rfl (fun w=>by kernel_rfl) rfl ((C.out.b.kept KK.out (by simp)).cell 2)) ?_)
       | ((with_reducible refine a0e 193 ?_);refine a0p (v:=.slice SV ns.length sc1) (by kernel_rfl) (a1e rfl (fun w=>by kernel_rfl) rfl ((C.out.b.kept KK.out (by simp)).cell 1)) ?_))
      clear b1 b2
      go_loopg [16,195] ns.length (fun f' x16 x195 wk=>∃j:Nat,j≤ns.length∧f' + j=ns.length∧x195= .int .i64 (j:Int)∧x16= .int .i64 (b4v (3 * k + 1) ns j)∧Hid (Kept [] wc wk))
      case atStart=>exact⟨0,by omega,by omega,rfl,rfl,KK⟩
      case round=>
       clear KK
       obtain⟨j,hj,hf,rfl,rfl,KK⟩:=hrel
       by_cases hlt:j < ns.length
       ·obtain⟨svb,svo,sc2,e,e2,e3⟩:=(HS.out.a0k KK.out).at_ (by omega)
        cases e
        have q0:=e3 j (.int .i64 (ns.getD j 0)) (by simp [iv,List.getElem?_eq_getElem hlt,List.getD_eq_getElem?_getD])
        have q1:wr.cell? ⟨svb,svo + (j - 1),none⟩=some (.int .i64 (ns.getD (j - 1) 0)):=e3 (j - 1) _ (by simp [iv,List.getElem?_eq_getElem (show j - 1 < ns.length by omega),List.getD_eq_getElem?_getD])
        clear e2 e3
        have hw1:b4v (3 * k + 1) ns (j + 1)=if d0i (3 * k + 1) ns j then 81 else b4v (3 * k + 1) ns j:=rfl
        have hbO:d0i (3 * k + 1) ns j↔(ns.getD j 0 < 0∨((3 * k + 1:Nat):Int)≤ns.getD j 0∨(0 < j∧ns.getD j 0≤ns.getD (j - 1) 0)):=Iff.rfl
        generalize ns.getD j 0=c at *
        generalize ns.getD (j - 1) 0=d at *
        have hW:=hjd hw1
        have hb:=hjd hbO
        clear hw1 hbO
        generalize b4v (3 * k + 1) ns j=wj at *
        by_cases x1:c < 0
        ·have hy:=hjd (hW.out.trans (if_pos (hb.out.2 (.inl x1))))
         go_wp2_with (first
          | ((with_reducible refine a0e 198 ?_);refine a1n (o:=⟨some 198,_,_,_,_,_⟩) a5c (by kernel_rfl) (.tmp 193) (.tmp 195) rfl rfl rfl hlt ?_)
          | ((with_reducible refine a0e 214 ?_);refine a0p (v:=.slice (some ⟨svb,svo,none⟩) ns.length sc1) (by kernel_rfl) (a1e rfl (fun w=>by kernel_rfl) rfl ((C.out.b.kept KK.out (by simp)).cell 1)) ?_)
          | ((with_reducible refine a0e 217 ?_);refine a0p (v:=.pointer (some ⟨svb,svo + (j - 1),none⟩)) (by kernel_rfl) (a6j rfl rfl rfl (b1c (by omega) hlt _)) ?_))
         go_roundg (ns.length - (j + 1))
         case measure=>omega
         case rel=>exact⟨j + 1,by omega,by omega,by go_num,by rw [hy.out],KK⟩
        ·by_cases x2:3 * (k:Int) + 1≤c
         ·have hy:=hjd (hW.out.trans (if_pos (hb.out.2 (.inr (.inl (by omega))))))
          go_wp2_with (first
           | ((with_reducible refine a0e 198 ?_);refine a1n (o:=⟨some 198,_,_,_,_,_⟩) a5c (by kernel_rfl) (.tmp 193) (.tmp 195) rfl rfl rfl hlt ?_)
           | ((with_reducible refine a0e 214 ?_);refine a0p (v:=.slice (some ⟨svb,svo,none⟩) ns.length sc1) (by kernel_rfl) (a1e rfl (fun w=>by kernel_rfl) rfl ((C.out.b.kept KK.out (by simp)).cell 1)) ?_)
           | ((with_reducible refine a0e 217 ?_);refine a0p (v:=.pointer (some ⟨svb,svo + (j - 1),none⟩)) (by kernel_rfl) (a6j rfl rfl rfl (b1c (by omega) hlt _)) ?_))
          go_roundg (ns.length - (j + 1))
          case measure=>omega
          case rel=>exact⟨j + 1,by omega,by omega,by go_num,by rw [hy.out],KK⟩
         ·by_cases x3:0 < j
          ·have x3i:(0:Int) < (j:Int):=by omega
           by_cases x4:c≤d
           ·have hy:=hjd (hW.out.trans (if_pos (hb.out.2 (.inr (.inr ⟨x3,x4⟩)))))
            go_wp2_with (first
             | ((with_reducible refine a0e 198 ?_);refine a1n (o:=⟨some 198,_,_,_,_,_⟩) a5c (by kernel_rfl) (.tmp 193) (.tmp 195) rfl rfl rfl hlt ?_)
             | ((with_reducible refine a0e 214 ?_);refine a0p (v:=.slice (some ⟨svb,svo,none⟩) ns.length sc1) (by kernel_rfl) (a1e rfl (fun w=>by kernel_rfl) rfl ((C.out.b.kept KK.out (by simp)).cell 1)) ?_)
             | ((with_reducible refine a0e 217 ?_);refine a0p (v:=.pointer (some ⟨svb,svo + (j - 1),none⟩)) (by kernel_rfl) (a6j rfl rfl rfl (b1c (by omega) hlt _)) ?_))
            go_roundg (ns.length - (j + 1))
            case measure=>omega
            case rel=>exact⟨j + 1,by omega,by omega,by go_num,by rw [hy.out],KK⟩
           ·have hy:=hjd (hW.out.trans (if_neg (fun h=>by rcases hb.out.1 h with h | h | h <;> omega)))
            go_wp2_with (first
             | ((with_reducible refine a0e 198 ?_);refine a1n (o:=⟨some 198,_,_,_,_,_⟩) a5c (by kernel_rfl) (.tmp 193) (.tmp 195) rfl rfl rfl hlt ?_)
             | ((with_reducible refine a0e 214 ?_);refine a0p (v:=.slice (some ⟨svb,svo,none⟩) ns.length sc1) (by kernel_rfl) (a1e rfl (fun w=>by kernel_rfl) rfl ((C.out.b.kept KK.out (by simp)).cell 1)) ?_)
             | ((with_reducible refine a0e 217 ?_);refine a0p (v:=.pointer (some ⟨svb,svo + (j - 1),none⟩)) (by kernel_rfl) (a6j rfl rfl rfl (b1c (by omega) hlt _)) ?_))
            go_roundg (ns.length - (j + 1))
            case measure=>omega
            case rel=>exact⟨j + 1,by omega,by omega,by go_num,by rw [hy.out],KK⟩
          ·have x3i:¬(0:Int) < (j:Int):=by omega
           have hy:=hjd (hW.out.trans (if_neg (fun h=>by rcases hb.out.1 h with h | h | h <;> omega)))
           go_wp2_with (first
            | ((with_reducible refine a0e 198 ?_);refine a1n (o:=⟨some 198,_,_,_,_,_⟩) a5c (by kernel_rfl) (.tmp 193) (.tmp 195) rfl rfl rfl hlt ?_)
            | ((with_reducible refine a0e 214 ?_);refine a0p (v:=.slice (some ⟨svb,svo,none⟩) ns.length sc1) (by kernel_rfl) (a1e rfl (fun w=>by kernel_rfl) rfl ((C.out.b.kept KK.out (by simp)).cell 1)) ?_)
            | ((with_reducible refine a0e 217 ?_);refine a0p (v:=.pointer (some ⟨svb,svo + (j - 1),none⟩)) (by kernel_rfl) (a6j rfl rfl rfl (b1c (by omega) hlt _)) ?_))
           go_roundg (ns.length - (j + 1))
           case measure=>omega
           case rel=>exact⟨j + 1,by omega,by omega,by go_num,by rw [hy.out],KK⟩
       ·obtain rfl:j=ns.length:=by omega
        clear hj hf hlt
        by_cases hw:b4v (3 * k + 1) ns ns.length=0
        ·obtain⟨hRS,hord⟩:=d7h (ok:=okR (keys (3 * k + 1)) 5 bd) h1.out h2.out hw
         rw [hw]
         replace hRS:=hjd hRS
         replace hord:=hjd hord
         clear hw
         have hCB:∀u,Kept [] wc u→Blk u g10 63 #[.slice BV bd.length bc1,.slice SV ns.length sc1,.slice GV gs.length gc1]:=fun u hu=>C.out.b.kept hu (by simp)
         go_wp2_with (first
          | ((with_reducible refine a0e 226 ?_);refine a0p (v:=.slice SV ns.length sc1) (by kernel_rfl) (a1e rfl (fun w=>by kernel_rfl) rfl ((C.out.b.kept KK.out (by simp)).cell 1)) ?_))
         go_loopg [16,228] ns.length (fun f' x16 x228 wk=>∃j:Nat,j≤ns.length∧f' + j=ns.length∧x228= .int .i64 (j:Int)∧x16= .int .i64 (c1n (fun i=>okR (keys (3 * k + 1)) 5 bd (ns.getD i 0).toNat (gs.getD i [])) j)∧Hid (Kept [] wc wk))
         case atStart=>exact⟨0,by omega,by omega,rfl,rfl,KK⟩
         case round=>
          clear KK
          obtain⟨j,hj,hf,rfl,rfl,KK⟩:=hrel
          by_cases hlt:j < ns.length
          ·have hgj:=hjd (show j < gs.length by have:=h1.out;have:=h2.out;omega)
           obtain⟨svb,svo,sc2,e,e2,e3⟩:=(HS.out.a0k KK.out).at_ (by omega)
           cases e
           obtain⟨gvb,gvo,gc2,e,e4,e5⟩:=HG.out.at_ (by have:=hgj.out;omega)
           cases e
           clear e2 e4 e5
           obtain⟨m,hm,hmL⟩:∃m:Nat,ns.getD j 0=(m:Int)∧m < 3 * k + 1:=by
            have hmem:ns.getD j 0∈ns:=by rw [List.getD_eq_getElem?_getD,List.getElem?_eq_getElem hlt];exact List.getElem_mem _
            have:=b9e ns (-1) hord.out _ hmem
            exact⟨(ns.getD j 0).toNat,by omega,by omega⟩
           obtain⟨sg,hsg⟩:∃sg,gs.getD j []=sg:=⟨_,rfl⟩
           have q0:=e3 j (.int .i64 (ns.getD j 0)) (by simp [iv,List.getElem?_eq_getElem hlt,List.getD_eq_getElem?_getD])
           rw [hm]at q0
           clear e3
           have hsl:=hjd (show sg.length=64 from hsg▸c7a hgj.out g2.out)
           have hGG:∀u,Kept [] wc u→u.rangeAt gvb (gvo + j * 64) (bv sg):=fun u hu=>by
            obtain⟨pre,post,hp,hpl⟩:=c6j hgj.out g2.out
            rw [hsg]at hp
            exact Rd.elem (i:=j) (HG.out.a0k hu) hp hpl (by have:=hgj.out;omega)
           have GG:=hjd hGG
           have hW:=hjd (show c1n (fun i=>okR (keys (3 * k + 1)) 5 bd (ns.getD i 0).toNat (gs.getD i [])) (j + 1)=if okm m bd sg=true then c1n (fun i=>okR (keys (3 * k + 1)) 5 bd (ns.getD i 0).toNat (gs.getD i [])) j else 60 from by
            have e:okR (keys (3 * k + 1)) 5 bd (ns.getD j 0).toNat (gs.getD j [])=okm m bd sg:=by rw [hm,hsg];exact hok.out _ _ _ _ hmL
            show(if okR (keys (3 * k + 1)) 5 bd (ns.getD j 0).toNat (gs.getD j [])=true then _ else _)=_
            rw [e])
           replace hmL:=hjd hmL
           clear hm hsg hGG
           have CBc:=hjd hCB
           generalize c1n (fun i=>okR (keys (3 * k + 1)) 5 bd (ns.getD i 0).toNat (gs.getD i [])) j=wj at *
           go_upto_region 46 with(first
            | ((with_reducible refine a0e 231 ?_);refine a1n (o:=⟨some 231,_,_,_,_,_⟩) a5c rfl (.tmp 226) (.tmp 228) rfl rfl rfl hlt ?_))
           clear q0 hCB
           obtain⟨W,hWd⟩:∃W,wr.drew=W:=⟨_,rfl⟩
           have hk0:=hjd (show Kept [] wc W from hWd▸KK.out.drew)
           have HBd0:=HBd
           replace HBd:=hjd (a2a.a0k HBd.out hk0.out)
           have KW:=hjd (show Kept [] W wr.drew from hWd▸Kept.refl [] _)
           replace HBd:=hjd (show a2a bd (.slice BV bd.length bc1) wr.drew from hWd▸HBd.out)
           have hkW:=hjd (fun u (hu:Kept [] W u)=>(hk0.out.a0f hu))
           have CB:=hjd (fun u (hu:Kept [] W u)=>CBc.out u (hk0.out.a0f hu))
           have SD:=hjd (fun u (hu:Kept [] wc u)=>b4j B.out.sd (C.out.k.a0f hu) hmL.out)
           have JJ:=J
           replace J:=hjd (fun u (hu:Kept [] W u)=>RgJ.far JJ.out (by simp) JJ.out (hk0.out.a0f hu))
           clear hWd CBc KK JJ HBd0
           cases hq:(sg == SL m bd)with
           | true=>
             have hqH:=hjd hq
             have hoky:=hjd (hW.out.trans (if_pos (by rw [eq_of_beq hq];exact hself.out m bd)))
             clear hq
             refine Txt.a1i [1,4,12,18,20,23] (fun u=>Kept [] W u) [[_,_,_,_,_,_,_,_,_,_,_,_],[_,_,_,_,_],[_,_,_,_,_,_,_,_],[_,_]] (by kernel_rfl) (by kernel_rfl) rfl KW.out (Txt.a0g ?_)
             go_wp2_with (first
              | ((with_reducible refine a0e 234 ?_);refine a0p (v:=.slice (some ⟨gvb,gvo,none⟩) gs.length gc1) (by kernel_rfl) (a1e rfl (fun w=>by kernel_rfl) rfl ((CB.out _ KW.out).cell 2)) ?_)
              | ((with_reducible refine a0e 236 ?_);refine a0p (v:=.pointer (some ⟨gvb,gvo + j * 64,none⟩)) (by kernel_rfl) (a6j rfl rfl rfl (a3x (P:=Try.prog) (g:=gvb) (off:=gvo) (c:=gc1) (i:=j) a8j hgj.out _ _)) ?_)
              | ((with_reducible refine a0e 237 ?_);refine a0x (o:=⟨some 237,_,_,_,_,_⟩) (cs:=bv sg) Q.b3j (by kernel_rfl) (.tmp 236) rfl rfl (GG.out _ (hkW.out _ KW.out)) (by simpa using hsl.out) ?_)
              | ((with_reducible refine a0e 240 ?_);refine a0p (v:=.pointer (some ⟨sb,so + m * 32,none⟩)) (by kernel_rfl) (a6j rfl rfl rfl (a3x (P:=Try.prog) (g:=sb) (off:=so) (c:=sc) (i:=m) a6l hmL.out _ _)) ?_)
              | ((with_reducible refine a0e 241 ?_);refine a0x (o:=⟨some 241,_,_,_,_,_⟩) (cs:=bv (a2t m)) a2h.row (by kernel_rfl) (.tmp 240) rfl rfl (SD.out _ (hkW.out _ KW.out)) (by simpa using a2y m) ?_)
              | ((with_reducible refine a0e 243 ?_);refine a0p (v:=.slice BV bd.length bc1) (by kernel_rfl) (a1e rfl (fun w=>by kernel_rfl) rfl ((CB.out _ KW.out).cell 0)) ?_)
              | (go_at_call 17;(with_reducible refine(cs.out m bd _ _ (HBd.out) hbd.out).mono ?_);rintro e v244 ⟨rfl,kk⟩
                 replace KW:=hjd (KW.out.a0f kk)
                 replace HBd:=hjd (a2a.a0k HBd.out kk)
                 clear kk))
             refine And.intro rfl (And.intro KW.out ?_)
             unfold Txt.a2q
             go_wp2_with (first
              | ((with_reducible refine a0e 245 ?_);refine a0p (v:=.bool false) (by kernel_rfl) ((a2g d3l Try.underlying5 (by kernel_rfl) (by kernel_rfl) (.tmp 237) (.tmp 244) rfl (xs:=sg) (ys:=SL m bd) rfl rfl hsl.out (hSL.out _ _)).trans (by rw [hqH.out];rfl)) ?_))
             refine And.intro rfl (And.intro KW.out ?_)
             unfold Txt.a2q
             go_wp2_with fail
             refine And.intro rfl (And.intro KW.out ?_)
             unfold Txt.a2q
             go_wp2_with fail
             refine And.intro rfl (And.intro KW.out (Txt.a1d ⟨⟨by kernel_rfl,?_⟩,?_⟩))
             ·intro j hj o ho hw
              have hj2:j=1∨j=4∨j=12∨j=18∨j=20∨j=23:=by simpa using hj
              rcases hj2 with rfl | rfl | rfl | rfl | rfl | rfl <;> cases ho
              ·exact⟨234,rfl,fun u hu=>a1e rfl (fun w=>by kernel_rfl) rfl ((CB.out u hu).cell 2)⟩
              ·exact⟨237,rfl,fun u hu=>a2n Q.b3j (.tmp 236) rfl rfl (GG.out _ (hkW.out u hu)) (by simpa using hsl.out)⟩
              ·exact⟨245,rfl,fun u hu=>(a2g d3l Try.underlying5 (by kernel_rfl) (by kernel_rfl) (.tmp 237) (.tmp 244) rfl (xs:=sg) (ys:=SL m bd) rfl rfl hsl.out (hSL.out _ _)).trans (by rw [hqH.out];rfl)⟩
              ·exact absurd (hw:Region.wanted _ _=true) (by rw [show Region.wanted _ _=false from by kernel_rfl];simp)
              ·exact absurd (hw:Region.wanted _ _=true) (by rw [show Region.wanted _ _=false from by kernel_rfl];simp)
              ·exact absurd (hw:Region.wanted _ _=true) (by rw [show Region.wanted _ _=false from by kernel_rfl];simp)
             go_wp2_with fail
             go_roundg (ns.length - (j + 1))
             case measure=>omega
             case rel=>exact⟨j + 1,by omega,by omega,by go_num,by rw [hoky.out],hjd (hk0.out.a0f KW.out)⟩
           | false=>
             have hqH:=hjd hq
             clear hq
             refine Txt.a1i [1,4,12,18,20,23] (fun u=>Kept [] W u) [[_,_,_,_,_,_,_,_,_,_,_,_],[_,_,_,_,_],[_,_,_,_,_,_,_,_],[_,_]] (by kernel_rfl) (by kernel_rfl) rfl KW.out (Txt.a0g ?_)
             go_wp2_with (first
              | ((with_reducible refine a0e 234 ?_);refine a0p (v:=.slice (some ⟨gvb,gvo,none⟩) gs.length gc1) (by kernel_rfl) (a1e rfl (fun w=>by kernel_rfl) rfl ((CB.out _ KW.out).cell 2)) ?_)
              | ((with_reducible refine a0e 236 ?_);refine a0p (v:=.pointer (some ⟨gvb,gvo + j * 64,none⟩)) (by kernel_rfl) (a6j rfl rfl rfl (a3x (P:=Try.prog) (g:=gvb) (off:=gvo) (c:=gc1) (i:=j) a8j hgj.out _ _)) ?_)
              | ((with_reducible refine a0e 237 ?_);refine a0x (o:=⟨some 237,_,_,_,_,_⟩) (cs:=bv sg) Q.b3j (by kernel_rfl) (.tmp 236) rfl rfl (GG.out _ (hkW.out _ KW.out)) (by simpa using hsl.out) ?_)
              | ((with_reducible refine a0e 240 ?_);refine a0p (v:=.pointer (some ⟨sb,so + m * 32,none⟩)) (by kernel_rfl) (a6j rfl rfl rfl (a3x (P:=Try.prog) (g:=sb) (off:=so) (c:=sc) (i:=m) a6l hmL.out _ _)) ?_)
              | ((with_reducible refine a0e 241 ?_);refine a0x (o:=⟨some 241,_,_,_,_,_⟩) (cs:=bv (a2t m)) a2h.row (by kernel_rfl) (.tmp 240) rfl rfl (SD.out _ (hkW.out _ KW.out)) (by simpa using a2y m) ?_)
              | ((with_reducible refine a0e 243 ?_);refine a0p (v:=.slice BV bd.length bc1) (by kernel_rfl) (a1e rfl (fun w=>by kernel_rfl) rfl ((CB.out _ KW.out).cell 0)) ?_)
              | (go_at_call 17;(with_reducible refine(cs.out m bd _ _ (HBd.out) hbd.out).mono ?_);rintro e v244 ⟨rfl,kk⟩
                 replace KW:=hjd (KW.out.a0f kk)
                 replace HBd:=hjd (a2a.a0k HBd.out kk)
                 clear kk))
             refine And.intro rfl (And.intro KW.out ?_)
             unfold Txt.a2q
             go_wp2_with (first
              | ((with_reducible refine a0e 245 ?_);refine a0p (v:=.bool true) (by kernel_rfl) ((a2g d3l Try.underlying5 (by kernel_rfl) (by kernel_rfl) (.tmp 237) (.tmp 244) rfl (xs:=sg) (ys:=SL m bd) rfl rfl hsl.out (hSL.out _ _)).trans (by rw [hqH.out];rfl)) ?_)
              | (go_at_call 22;(with_reducible refine(ck.out _ _ _ _ _ _ (J.out _ KW.out) hmL.out).mono ?_);rintro e v249 ⟨rfl,kk⟩
                 replace KW:=hjd (KW.out.a0f kk)
                 replace HBd:=hjd (a2a.a0k HBd.out kk)
                 clear kk))
             refine And.intro rfl (And.intro KW.out ?_)
             unfold Txt.a2q
             go_wp2_with (first
              | ((with_reducible refine a0e 251 ?_);refine a0p (v:=.slice BV bd.length bc1) (by kernel_rfl) (a1e rfl (fun w=>by kernel_rfl) rfl ((CB.out _ KW.out).cell 0)) ?_)
              | ((with_reducible refine a0e 253 ?_);refine a0p (v:=.slice (some ⟨gvb,gvo,none⟩) gs.length gc1) (by kernel_rfl) (a1e rfl (fun w=>by kernel_rfl) rfl ((CB.out _ KW.out).cell 2)) ?_)
              | ((with_reducible refine a0e 255 ?_);refine a0p (v:=.pointer (some ⟨gvb,gvo + j * 64,none⟩)) (by kernel_rfl) (a6j rfl rfl rfl (a3x (P:=Try.prog) (g:=gvb) (off:=gvo) (c:=gc1) (i:=j) a8j hgj.out _ _)) ?_)
              | ((with_reducible refine a0e 256 ?_);refine a0x (o:=⟨some 256,_,_,_,_,_⟩) (cs:=bv sg) Q.b3j (by kernel_rfl) (.tmp 255) rfl rfl (GG.out _ (hkW.out _ KW.out)) (by simpa using hsl.out) ?_)
              | (go_at_call 16;(with_reducible refine(cw.out m sg bd _ _ hsl.out HBd.out hbd.out).mono ?_);rintro e v257 ⟨rfl,kk⟩
                 replace KW:=hjd (KW.out.a0f kk)
                 clear kk))
             cases hkm:okm m bd sg with
             | true=>
               have hy:=hjd (hW.out.trans (if_pos hkm))
               replace hkm:=hjd hkm
               refine And.intro rfl (And.intro KW.out ?_)
               unfold Txt.a2q
               go_wp2_with fail
               refine And.intro rfl (And.intro KW.out (Txt.a1d ⟨⟨by kernel_rfl,?_⟩,?_⟩))
               ·intro j hj o ho hw
                have hj2:j=1∨j=4∨j=12∨j=18∨j=20∨j=23:=by simpa using hj
                rcases hj2 with rfl | rfl | rfl | rfl | rfl | rfl <;> cases ho
                ·exact⟨234,rfl,fun u hu=>a1e rfl (fun w=>by kernel_rfl) rfl ((CB.out u hu).cell 2)⟩
                ·exact⟨237,rfl,fun u hu=>a2n Q.b3j (.tmp 236) rfl rfl (GG.out _ (hkW.out u hu)) (by simpa using hsl.out)⟩
                ·exact⟨245,rfl,fun u hu=>(a2g d3l Try.underlying5 (by kernel_rfl) (by kernel_rfl) (.tmp 237) (.tmp 244) rfl (xs:=sg) (ys:=SL m bd) rfl rfl hsl.out (hSL.out _ _)).trans (by rw [hqH.out];rfl)⟩
                ·exact⟨251,rfl,fun u hu=>a1e rfl (fun w=>by kernel_rfl) rfl ((CB.out u hu).cell 0)⟩
                ·exact⟨253,rfl,fun u hu=>a1e rfl (fun w=>by kernel_rfl) rfl ((CB.out u hu).cell 2)⟩
                ·exact⟨256,rfl,fun u hu=>a2n Q.b3j (.tmp 255) rfl rfl (GG.out _ (hkW.out u hu)) (by simpa using hsl.out)⟩
               go_wp2_with fail
               go_roundg (ns.length - (j + 1))
               case measure=>omega
               case rel=>exact⟨j + 1,by omega,by omega,by go_num,by rw [hy.out],hjd (hk0.out.a0f KW.out)⟩
             | false=>
               have hy:=hjd (hW.out.trans (if_neg (by rw [hkm];simp)))
               replace hkm:=hjd hkm
               refine And.intro rfl (And.intro KW.out ?_)
               unfold Txt.a2q
               go_wp2_with fail
               refine And.intro rfl (And.intro KW.out (Txt.a1d ⟨⟨by kernel_rfl,?_⟩,?_⟩))
               ·intro j hj o ho hw
                have hj2:j=1∨j=4∨j=12∨j=18∨j=20∨j=23:=by simpa using hj
                rcases hj2 with rfl | rfl | rfl | rfl | rfl | rfl <;> cases ho
                ·exact⟨234,rfl,fun u hu=>a1e rfl (fun w=>by kernel_rfl) rfl ((CB.out u hu).cell 2)⟩
                ·exact⟨237,rfl,fun u hu=>a2n Q.b3j (.tmp 236) rfl rfl (GG.out _ (hkW.out u hu)) (by simpa using hsl.out)⟩
                ·exact⟨245,rfl,fun u hu=>(a2g d3l Try.underlying5 (by kernel_rfl) (by kernel_rfl) (.tmp 237) (.tmp 244) rfl (xs:=sg) (ys:=SL m bd) rfl rfl hsl.out (hSL.out _ _)).trans (by rw [hqH.out];rfl)⟩
                ·exact⟨251,rfl,fun u hu=>a1e rfl (fun w=>by kernel_rfl) rfl ((CB.out u hu).cell 0)⟩
                ·exact⟨253,rfl,fun u hu=>a1e rfl (fun w=>by kernel_rfl) rfl ((CB.out u hu).cell 2)⟩
                ·exact⟨256,rfl,fun u hu=>a2n Q.b3j (.tmp 255) rfl rfl (GG.out _ (hkW.out u hu)) (by simpa using hsl.out)⟩
               go_wp2_with fail
               go_roundg (ns.length - (j + 1))
               case measure=>omega
               case rel=>exact⟨j + 1,by omega,by omega,by go_num,by rw [hy.out],hjd (hk0.out.a0f KW.out)⟩
          ·obtain rfl:j=ns.length:=by omega
           clear hj hf hlt
           rw [←hRS.out,hR.out]
           go_wp2_with (first
            | ((with_reducible refine a0e 262 ?_);refine a0d (cs:=#[.slice BV bd.length bc1,.slice SV ns.length sc1,.slice GV gs.length gc1]) (o:=⟨some 262,_,_,_,_,_⟩) a4s (by kernel_rfl) (.tmp 10) rfl rfl (C.out.b.kept KK.out (by simp)) rfl ?_)
            | (go_at_call 34;(with_reducible refine(CC.out _ KK.out).mono ?_);rintro e v263 ⟨rfl,J2,k2⟩
               have KF:=hjd (((K.out.a0f C.out.k).a0f KK.out).fresh k2 hB1.out)
               have B2:=hjd ((C.out.b.kept KK.out (by simp)).kept k2 NB.out)
               clear J2 k2)
            | ((with_reducible refine a0e 267 ?_);refine a0d (cs:=#[.slice BV bd.length bc1,.slice SV ns.length sc1,.slice GV gs.length gc1]) (o:=⟨some 267,_,_,_,_,_⟩) a4s (by kernel_rfl) (.tmp 10) rfl rfl B2.out rfl ?_)
            | (go_at_call 34;(with_reducible refine(CN.out _).mono ?_);rintro e v268 ⟨rfl,k3⟩
               replace KF:=hjd (KF.out.a0f k3)
               clear k3))
           go_ret
           exact⟨rfl,KF.out⟩
        ·obtain⟨h81,hR81⟩:=d6s (ok:=okR (keys (3 * k + 1)) 5 bd) h1.out h2.out hw
         rw [h81]
         obtain rfl:R=81:=hR.out.symm.trans hR81
         clear h81 hR81 hw
         go_wp2_with (first
          | ((with_reducible refine a0e 262 ?_);refine a0d (cs:=#[.slice BV bd.length bc1,.slice SV ns.length sc1,.slice GV gs.length gc1]) (o:=⟨some 262,_,_,_,_,_⟩) a4s (by kernel_rfl) (.tmp 10) rfl rfl (C.out.b.kept KK.out (by simp)) rfl ?_)
          | (go_at_call 34;(with_reducible refine(CC.out _ KK.out).mono ?_);rintro e v263 ⟨rfl,J2,k2⟩
             have KF:=hjd (((K.out.a0f C.out.k).a0f KK.out).fresh k2 hB1.out)
             have B2:=hjd ((C.out.b.kept KK.out (by simp)).kept k2 NB.out)
             clear J2 k2)
          | ((with_reducible refine a0e 267 ?_);refine a0d (cs:=#[.slice BV bd.length bc1,.slice SV ns.length sc1,.slice GV gs.length gc1]) (o:=⟨some 267,_,_,_,_,_⟩) a4s (by kernel_rfl) (.tmp 10) rfl rfl B2.out rfl ?_)
          | (go_at_call 34;(with_reducible refine(CN.out _).mono ?_);rintro e v268 ⟨rfl,k3⟩
             replace KF:=hjd (KF.out.a0f k3)
             clear k3))
         go_ret
         exact⟨rfl,KF.out⟩
     ·have b2:((gs.length:Int) !=2 * (k:Int) + 1)=true:=by simp;omega
      obtain rfl:R=80:=hR.out.symm.trans (c7y (.inr h2))
      replace h1:=hjd h1
      replace h2:=hjd h2
      go_wp2_with (first
       | ((with_reducible refine a0e 177 ?_);refine a0p (v:=.slice SV ns.length sc1) (by kernel_rfl) (a1e rfl (fun w=>by kernel_rfl) rfl ((C.out.b.kept KK.out (by simp)).cell 1)) ?_)
       | ((with_reducible refine a0e 185 ?_);refine a0p (v:=.slice GV gs.length gc1) (by kernel_rfl) (a1e rfl (fun w=>by kernel_rfl) rfl ((C.out.b.kept KK.out (by simp)).cell 2)) ?_)
       | ((with_reducible refine a0e 262 ?_);refine a0d (cs:=#[.slice BV bd.length bc1,.slice SV ns.length sc1,.slice GV gs.length gc1]) (o:=⟨some 262,_,_,_,_,_⟩) a4s (by kernel_rfl) (.tmp 10) rfl rfl (C.out.b.kept KK.out (by simp)) rfl ?_)
       | (go_at_call 34;(with_reducible refine(CC.out _ KK.out).mono ?_);rintro e v263 ⟨rfl,J2,k2⟩
          have KF:=hjd (((K.out.a0f C.out.k).a0f KK.out).fresh k2 hB1.out)
          have B2:=hjd ((C.out.b.kept KK.out (by simp)).kept k2 NB.out)
          clear J2 k2)
       | ((with_reducible refine a0e 267 ?_);refine a0d (cs:=#[.slice BV bd.length bc1,.slice SV ns.length sc1,.slice GV gs.length gc1]) (o:=⟨some 267,_,_,_,_,_⟩) a4s (by kernel_rfl) (.tmp 10) rfl rfl B2.out rfl ?_)
       | (go_at_call 34;(with_reducible refine(CN.out _).mono ?_);rintro e v268 ⟨rfl,k3⟩
          replace KF:=hjd (KF.out.a0f k3)
          clear k3))
      go_ret
      exact⟨rfl,KF.out⟩
    ·have b1:((ns.length:Int) !=2 * (k:Int) + 1)=true:=by simp;omega
     obtain rfl:R=80:=hR.out.symm.trans (c7y (.inl h1))
     replace h1:=hjd h1
     go_wp2_with (first
      | ((with_reducible refine a0e 177 ?_);refine a0p (v:=.slice SV ns.length sc1) (by kernel_rfl) (a1e rfl (fun w=>by kernel_rfl) rfl ((C.out.b.kept KK.out (by simp)).cell 1)) ?_)
      | ((with_reducible refine a0e 262 ?_);refine a0d (cs:=#[.slice BV bd.length bc1,.slice SV ns.length sc1,.slice GV gs.length gc1]) (o:=⟨some 262,_,_,_,_,_⟩) a4s (by kernel_rfl) (.tmp 10) rfl rfl (C.out.b.kept KK.out (by simp)) rfl ?_)
      | (go_at_call 34;(with_reducible refine(CC.out _ KK.out).mono ?_);rintro e v263 ⟨rfl,J2,k2⟩
         have KF:=hjd (((K.out.a0f C.out.k).a0f KK.out).fresh k2 hB1.out)
         have B2:=hjd ((C.out.b.kept KK.out (by simp)).kept k2 NB.out)
         clear J2 k2)
      | ((with_reducible refine a0e 267 ?_);refine a0d (cs:=#[.slice BV bd.length bc1,.slice SV ns.length sc1,.slice GV gs.length gc1]) (o:=⟨some 267,_,_,_,_,_⟩) a4s (by kernel_rfl) (.tmp 10) rfl rfl B2.out rfl ?_)
      | (go_at_call 34;(with_reducible refine(CN.out _).mono ?_);rintro e v268 ⟨rfl,k3⟩
         replace KF:=hjd (KF.out.a0f k3)
         clear k3))
     go_ret
     exact⟨rfl,KF.out⟩
end Go.Proofs.Ytdbngnlpafcogaa
