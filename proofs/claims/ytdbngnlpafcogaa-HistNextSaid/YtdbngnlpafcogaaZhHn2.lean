/-
  The keys' laws: which update is a history's next one (HistNext): the walk.
-/
import Derived.Test.YtdbngnlpafcogaaZhHn1
set_option maxRecDepth 100000
namespace Go.Proofs.Ytdbngnlpafcogaa
open Go.RowKit Go.Mem Go.Txt
section
variable {P:Program} {w:World} {a:Act} {ops:Array Oper} {rest:List Oper} {o:Oper} {Q:Exit→Act→World→Prop} {t e:TypeId}
theorem c4g{size bytes n m:Nat}{z:Value}{xs news:List Value}(T:SliceT P t e size bytes z)(hgd:Region.wanted o (yielded ops a.tmps)=true)(x y:Operand)
 (ho:o.op= .call {callee:=.builtin .append,args:=#[x,y],argTypes:=#[t,t]}) {v:Value} (hs:a.eval x=v) (hown:Ow w e size v n xs)
 {xv:Value} (hx:a.eval y=xv) (hr:Rd w size xv m news) (h1:∀u∈news,u.oneCell'=true) (hbytes:(n + m) * bytes≤140737488355328) (h63:n + m≤9223372036854775807)
 (h:∀v' w',Ow w' e size v' (n + m) (xs ++ news)→Kept v.ownBlock.toList w w'→(v'.ownBlock=v.ownBlock∨v'.ownBlock=some w.heap.size)→wpList P ops Q rest (a.put o.dst v') w'):wpList P ops Q (o :: rest) a w:=
 a1k hgd fun _ hK=>d8c T x y ho hs hown hx hr h1 hbytes h63 fun v' w' a b c=>hK _ _ (h v' w' a b c)
end
theorem xorN1:∀n:_root_.Fin 256,bits .xor .u8 (n.val:Int) 1=((n.val ^^^ 1:Nat):Int):=by decide +kernel
theorem d8k(a:UInt8):bits .xor .u8 (a.toNat:Int) 1=((a ^^^ 1).toNat:Int):=by
 rw [xorN1 ⟨a.toNat,UInt8.toNat_lt a⟩,UInt8.toNat_xor]
 rfl
def c6r(wrong:Bool)(y:UInt8)(r:List UInt8):List UInt8:=(if wrong then y ^^^ 1 else y) :: r
theorem c5a{u:World}{g:Nat}{id key r:List UInt8}{ver:Int}{y z:UInt8}(L:UpL id key (y :: r))(h:Blk u g 44 (a2o id ver key (y :: r)).toArray):Blk (u.setCell ⟨g,65,none⟩ (.int .u8 (z.toNat:Int))) g 44 (a2o id ver key (z :: r)).toArray:=by
 have h1:=h.b6k 65 (.int .u8 (z.toNat:Int))
 have e:(a2o id ver key (y :: r)).toArray.setIfInBounds 65 (.int .u8 (z.toNat:Int))=(a2o id ver key (z :: r)).toArray:=by
  rw [List.setIfInBounds_toArray]
  congr 1
  unfold a2o
  have l1:(bv id).length=32:=by simpa using L.id
  have l2:(bv key).length=32:=by simpa using L.key
  rw [List.set_append_right _ _ (by omega),l1]
  show _ ++ (Value.int .i64 ver :: ((bv key ++ bv (y :: r)).set 32 _))=_
  rw [List.set_append_right _ _ (by omega),l2]
  rfl
 rw [←e]
 exact h1
theorem c4a{u:World}{g:Nat}{id key r:List UInt8}{ver:Int}{y:UInt8}(L:UpL id key (y :: r))(h:Blk u g 44 (a2o id ver key (y :: r)).toArray):u.cell? ⟨g,65,none⟩=some (.int .u8 (y.toNat:Int)):=by
 rw [h.cell,List.getElem?_toArray]
 have l1:(bv id).length=32:=by simpa using L.id
 have l2:(bv key).length=32:=by simpa using L.key
 unfold a2o
 rw [List.getElem?_append_right (by omega),l1]
 show(bv key ++ bv (y :: r))[32]?=_
 rw [List.getElem?_append_right (by omega),l2]
 rfl
def c2r(ver:Int)(ok:Bool)(lk:List (List UInt8))(k:List UInt8)(N:Nat)(v:Value)(c:Int)(w:World):Prop:=
 ((ver < 1∨64 < ver∨ok=false)∧c=110∧v= .slice none 0 0)∨((1≤ver∧ver≤64∧ok=true)∧ver≠(lk.length:Int) + 1∧c=111∧v= .slice none 0 0)∨
   ((1≤ver∧ver≤64∧ok=true)∧ver=(lk.length:Int) + 1∧c=0∧Ow w 26 32 v (lk ++ [k]).length ((lk ++ [k]).flatMap bv)∧∀j,v.ownBlock=some j→N≤j)
theorem c2r.kept{ver c:Int}{ok:Bool}{lk:List (List UInt8)}{k:List UInt8}{N:Nat}{v:Value}{w w2:World}(h:c2r ver ok lk k N v c w)(kk:Kept [] w w2):c2r ver ok lk k N v c w2:=by
 rcases h with h | h | ⟨a,b,d,e,f⟩
 ·exact .inl h
 ·exact .inr (.inl h)
 ·exact .inr (.inr ⟨a,b,d,e.a0q kk,f⟩)
set_option maxHeartbeats 6400000 in
theorem d2b{keys lk:List (List UInt8)}{s k K S2 Z V V2 r:List UInt8}{y:UInt8}{v:Value}{w:World}(ver:Int)(wrong ok:Bool){B:Option Addr}{d:Nat}
 (rd:Rd w 32 v keys.length (keys.flatMap bv)) (htest:(70:Int) < keys.length) (hlk:(lk.length:Int)=70) (hlk2:lk.length≤70)
 (hsl:∀W,(Instr.sliceAt 38 v none (some (.int .i64 70)) none).run Try.prog W= .ok (.slice B lk.length d) W) (hrow:∀u,Kept [] w u→Rd u 32 (.slice B lk.length d) lk.length (lk.flatMap bv))
 (hs:s.length=32) (hS2:S2=c6r wrong y r) (L:UpL K k (y :: r)) (L2:UpL K k S2) (hzl:Z.length=32) (hV:V.length=32) (hV2:V2.length=32) (l9:Value.agg ((bv Z).set 0 (.int .u8 9)).toArray=ab s) (l44:Value.agg (((bv Z).set 0 (.int .u8 4)).set 1 (.int .u8 4)).toArray=ab k) (l0:Value.agg #[.int .u8 0,.int .u8 0,.int .u8 0,.int .u8 0,.int .u8 0,.int .u8 0,.int .u8 0,.int .u8 0,.int .u8 0,.int .u8 0,.int .u8 0,.int .u8 0,.int .u8 0,.int .u8 0,.int .u8 0,.int .u8 0,.int .u8 0,.int .u8 0,.int .u8 0,.int .u8 0,.int .u8 0,.int .u8 0,.int .u8 0,.int .u8 0,.int .u8 0,.int .u8 0,.int .u8 0,.int .u8 0,.int .u8 0,.int .u8 0,.int .u8 0,.int .u8 0]=ab Z)
 (cm:∀u,Calls Try.prog 24 #[ab s,.int .i64 ver,ab k] u fun e w'=>e= .returned (b0x K ver k (y :: r))∧Kept [] u w')
 (cn:∀u v,Rd u 32 v lk.length (lk.flatMap bv)→Calls Try.prog 25 #[v,Value.agg (a2o K ver k S2).toArray] u fun e w'=>∃v' c,e= .returned (.tuple #[v',.int .i64 c])∧Kept [] u w'∧c2r ver ok lk k u.heap.size v' c w')
 (cs:∀u va vb,Rd u 32 va lk.length (lk.flatMap bv)→Rd u 32 vb lk.length (lk.flatMap bv)→Calls Try.prog 26 #[va,vb] u fun e w'=>e= .returned (.bool true)∧Kept [] u w')
 (cs2:∀u va vb,Rd u 32 va (lk ++ [k]).length ((lk ++ [k]).flatMap bv)→Rd u 32 vb (lk ++ [k]).length ((lk ++ [k]).flatMap bv)→Calls Try.prog 26 #[va,vb] u fun e w'=>e= .returned (.bool true)∧Kept [] u w')
 (v1:∀u va,Rd u 32 va lk.length (lk.flatMap bv)→Calls Try.prog 27 #[va] u fun e w'=>e= .returned (ab V)∧Kept [] u w')
 (r1:∀u va,Rd u 32 va lk.length (lk.flatMap bv)→Calls Try.prog 28 #[va] u fun e w'=>e= .returned (ab V)∧Kept [] u w')
 (v2:∀u va,Rd u 32 va (lk ++ [k]).length ((lk ++ [k]).flatMap bv)→Calls Try.prog 27 #[va] u fun e w'=>e= .returned (ab V2)∧Kept [] u w')
 (r2:∀u va,Rd u 32 va (lk ++ [k]).length ((lk ++ [k]).flatMap bv)→Calls Try.prog 28 #[va] u fun e w'=>e= .returned (ab V2)∧Kept [] u w')
 (cb:∀u,Calls Try.prog 29 #[.int .i64 ver,ab k] u fun e w'=>∃v',e= .returned v'∧a4a (a5a ver k) v' w'∧Kept [] u w')
 (co:∀u v,a4a (a5a ver k) v u→Calls Try.prog 16 #[ab K,.int .u8 1,v,ab S2] u fun e w'=>e= .returned (.bool ok)∧Kept [] u w') :
 Calls Try.prog 5 #[v,.int .i64 ver,.bool wrong] w fun e w'=>e= .returned (.bool true)∧Kept [] w w':=by
 have c1:=hjd b1e
 have ho:=hjd (b4e (id:=K) (key:=k) (sig:=y :: r) (ver:=ver))
 have hz:=hjd (a2w (ver:=0) (show UpL (a0j 32) (a0j 32) (a0j 64)from⟨rfl,rfl,rfl⟩))
 have hz2:=hjd (a2w (ver:=ver) L)
 have hz3:=hjd (a2w (ver:=ver) L2)
 have hzn:¬Z= []:=by
  intro h
  rw [h]at hzl
  cases hzl
 have hzl2:=hjd hzl
 replace hlk:=hjd hlk
 replace hlk2:=hjd hlk2
 replace hrow:=hjd hrow
 replace hS2:=hjd hS2
 replace hs:=hjd hs
 replace L:=hjd L
 replace L2:=hjd L2
 replace hV:=hjd hV
 replace hV2:=hjd hV2
 replace cm:=hjd cm
 replace cn:=hjd cn
 replace cs:=hjd cs
 replace cs2:=hjd cs2
 replace v1:=hjd v1
 replace r1:=hjd r1
 replace v2:=hjd v2
 replace r2:=hjd r2
 replace cb:=hjd cb
 replace co:=hjd co
 obtain⟨VA,vc,rfl,_⟩:=rd
 have t:=hjd (Pm.none w)
 go_enter Try.func5,Try.ntmps5
 go_upto_if 26 with(first
  | (go_at_call 23;(with_reducible refine(c1.out _).mono ?_);rintro e v12 ⟨rfl,kk⟩;replace t:=hjd (t.out.kept kk);clear kk;have R:=hjd (hrow.out _ t.out.k))
  | (at_builtin;refine a2l a7l rfl (.tmp 19) (.tmp 20) rfl rfl (xs:=[]) (n:=0) (m:=lk.length) (news:=lk.flatMap bv) (Ow.b2a (a4b (by simp) rfl rfl (by omega))) rfl (R.out.alloc _) (a8h lk) (by have:=hlk2.out;omega) (by have:=hlk2.out;omega) ?_
     intro x21 w21 o21 k21 b21
     have F21:=hjd (show∀g,x21.ownBlock=some g→w.heap.size≤g from fun g hg=>by
      have h0:=t.out.k.size
      rcases b21 with b21 | b21
      ·have:some v12.heap.size=some g:=b21.symm.trans hg
       cases this
       exact h0
      ·have:some (v12.heap.push _).size=some g:=b21.symm.trans hg
       rw [Array.size_push]at this
       cases this
       omega)
     have kk:=Kept.fresh (S:=[v12.heap.size]) ((Kept.refl [] v12).alloc _) k21 (by simp)
     rw [Nat.zero_add,List.nil_append]at o21
     obtain⟨OA,oc,rfl,_⟩:=o21.shape
     have O21:=hjd o21
     replace t:=hjd (t.out.kept kk)
     clear o21 k21 b21 kk)
  | (go_at_call 24;(with_reducible refine(cm.out _).mono ?_);rintro e v25 ⟨rfl,kk⟩;replace t:=hjd (t.out.kept kk);replace O21:=hjd (O21.out.a0q kk);clear kk)
  | ((with_reducible refine a0l 9 ?_);(refine a0g (o:=⟨some 9,_,_,_,_,_⟩) rfl rfl a8r ?_);intro g9 w9 m9
     have B9:=hjd (show Blk w9 g9 44 (a2o (a0j 32) 0 (a0j 32) (a0j 64)).toArray from m9.blk)
     have N9:=hjd (show∀j,(Value.slice OA lk.length oc).ownBlock=some j→j∉[g9]from fun j hj=>by have:=m9.ne (O21.out.lt hj);simpa using this)
     refine a0b (cs:=(a2o K ver k (y :: r)).toArray) (o:=⟨none,Op.store 44 (.tmp 9) (.tmp 25),_,_,_,_⟩) b7n rfl (.tmp 9) (.tmp 25) rfl rfl rfl B9.out (List.size_toArray.trans hz.out) (List.size_toArray.trans hz2.out) ho.out ?_
     intro wb b9 k9
     replace O21:=hjd (O21.out.a0q (m9.kept.a0p k9 m9.le))
     have L9:=hjd (Nat.le_trans t.out.k.size m9.le)
     replace t:=hjd (t.out.put m9 b9 k9)
     clear m9 b9 k9 B9))
 go_cut [2,26,27,28,29,30,31,32] (fun _ _ _ _ _ _ _ _ wc=>True∧Hid (Pm w [(g9,44,(a2o K ver k S2).toArray)] wc∧Ow wc 26 32 (.slice OA lk.length oc) lk.length (lk.flatMap bv)))
 case first=>
  have hb:=hjd (t.out.s (g9,44,(a2o K ver k (y :: r)).toArray) (by simp))
  cases wrong with
  | false=>
    go_wp2_with fail
    go_meet
    have e:S2=y :: r:=hS2.out
    exact⟨trivial,hjd (by rw [e];exact⟨t.out,O21.out⟩)⟩
  | true=>
    have q0:=c4a L.out hb.out
    have f0:=hb.out.frozen 65
    have x0:=d8k y
    go_wp2_with fail
    go_meet
    have e:S2=(y ^^^ 1) :: r:=hS2.out
    have hbt:=c5a (z:=y ^^^ 1) L.out hb.out
    rw [UInt8.toNat_xor]at hbt
    refine⟨trivial,hjd (by rw [e];exact⟨t.out.again L9.out (by simp) hbt ((Kept.refl _ _).setCell (.inl (by simp)) _),O21.out.setCell (fun h=>by have:=N9.out _ h;simp at this) _⟩)⟩
 case rest=>
 obtain⟨_,hH⟩:=hcut
 have t:=hjd hH.out.1
 have O21:=hjd hH.out.2
 have R:=hjd (hrow.out _ t.out.k)
 clear hH
 have qV:=a5x (b:=true) (beq_self_eq_true V) hV.out hV.out
 have qW:=a5x (b:=true) (beq_self_eq_true V2) hV2.out hV2.out
 go_wp2_with (first
  | ((with_reducible refine a0l 35 ?_);refine a0d (cs:=(a2o K ver k S2).toArray) (o:=⟨some 35,_,_,_,_,_⟩) b7n rfl (.tmp 9) rfl rfl (t.out.s (g9,44,(a2o K ver k S2).toArray) (by simp)) (List.size_toArray.trans hz3.out) ?_)
  | (go_at_call 25;(with_reducible refine(cn.out _ _ R.out).mono ?_);rintro e v36 ⟨x36,c36,rfl,kk,hx⟩
     have G21:=hjd (fun j (hj:(Value.slice OA lk.length oc).ownBlock=some j)=>O21.out.lt hj)
     have X:=hjd hx
     replace t:=hjd (t.out.kept kk);replace O21:=hjd (O21.out.a0q kk);replace R:=hjd (R.out.a0q kk);clear kk hx)
  | (go_at_call 26;(with_reducible refine(cs.out _ _ _ R.out (Rd.a4x O21.out)).mono ?_);rintro e v41 ⟨rfl,kk⟩
     replace t:=hjd (t.out.kept kk);replace O21:=hjd (O21.out.a0q kk);replace R:=hjd (R.out.a0q kk);replace X:=hjd (X.out.kept kk);clear kk)
  | (go_at_call 27;(with_reducible refine(v1.out _ _ R.out).mono ?_);rintro e v45 ⟨rfl,kk⟩
     replace t:=hjd (t.out.kept kk);replace O21:=hjd (O21.out.a0q kk);replace R:=hjd (R.out.a0q kk);replace X:=hjd (X.out.kept kk);clear kk)
  | (go_at_call 28;(with_reducible refine(r1.out _ _ R.out).mono ?_);rintro e v47 ⟨rfl,kk⟩
     replace t:=hjd (t.out.kept kk);replace O21:=hjd (O21.out.a0q kk);replace R:=hjd (R.out.a0q kk);replace X:=hjd (X.out.kept kk);clear kk))
 have kd:=(Kept.refl [] v47).drew
 replace t:=hjd (t.out.kept kd)
 replace O21:=hjd (O21.out.a0q kd)
 replace X:=hjd (X.out.kept kd)
 have B:=hjd (t.out.s (g9,44,(a2o K ver k S2).toArray) (by simp))
 clear kd qV
 rcases X.out with⟨hA,rfl,rfl⟩ | ⟨hB,hne,rfl,rfl⟩ | ⟨hB,he,rfl,h36⟩
 ·by_cases h1:ver < 1
  ·clear hA
   refine Txt.a1e [8,10,12,15] (fun u=>Blk u g9 44 (a2o K ver k S2).toArray) [[_,_,_,_,_,_,_,_,_,_,_,_,_,_],[_,_,_],[_,_,_]] (by kernel_rfl) (by kernel_rfl) rfl B.out (Txt.a0e ?_)
   go_wp2_with fail
   refine And.intro rfl (And.intro B.out ?_)
   unfold Txt.a3r
   go_wp2_with fail
   refine And.intro rfl (And.intro B.out ?_)
   unfold Txt.a3r
   go_wp2_with fail
   refine And.intro rfl (And.intro B.out (Txt.a0x ⟨⟨by kernel_rfl,?_⟩,?_⟩))
   ·intro j hj o ho hw
    have hj2:j=8∨j=10∨j=12∨j=15:=by simpa using hj
    rcases hj2 with rfl | rfl | rfl | rfl <;> cases ho
    all_goals exact absurd (hw:Region.wanted _ _=true) (by rw [show Region.wanted _ _=false from by kernel_rfl];simp)
   go_wp2_with fail
   go_ret
   exact⟨rfl,t.out.k⟩
  ·by_cases h64:64 < ver
   ·clear hA
    refine Txt.a1e [8,10,12,15] (fun u=>Blk u g9 44 (a2o K ver k S2).toArray) [[_,_,_,_,_,_,_,_,_,_,_,_,_,_],[_,_,_],[_,_,_]] (by kernel_rfl) (by kernel_rfl) rfl B.out (Txt.a0e ?_)
    go_wp2_with fail
    refine And.intro rfl (And.intro B.out ?_)
    unfold Txt.a3r
    go_wp2_with fail
    refine And.intro rfl (And.intro B.out ?_)
    unfold Txt.a3r
    go_wp2_with fail
    refine And.intro rfl (And.intro B.out (Txt.a0x ⟨⟨by kernel_rfl,?_⟩,?_⟩))
    ·intro j hj o ho hw
     have hj2:j=8∨j=10∨j=12∨j=15:=by simpa using hj
     rcases hj2 with rfl | rfl | rfl | rfl <;> cases ho
     all_goals exact absurd (hw:Region.wanted _ _=true) (by rw [show Region.wanted _ _=false from by kernel_rfl];simp)
    go_wp2_with fail
    go_ret
    exact⟨rfl,t.out.k⟩
   ·have h0:ok=false:=by
     rcases hA with h | h | h
     ·exact absurd h h1
     ·exact absurd h h64
     ·exact h
    subst h0
    clear hA
    have n1:¬(ver < 1):=by omega
    have n2:¬(64 < ver):=by omega
    have q1:=a2j L2.out B.out
    refine Txt.a1e [8,10,12,15] (fun u=>Blk u g9 44 (a2o K ver k S2).toArray) [[_,_,_,_,_,_,_,_,_,_,_,_,_,_],[_,_,_],[_,_,_]] (by kernel_rfl) (by kernel_rfl) rfl B.out (Txt.a0e ?_)
    go_wp2_with (first
     | ((with_reducible refine a0l 59 ?_);refine a0r (o:=⟨some 59,_,_,_,_,_⟩) (cs:=bv K) a1o.row rfl (.tmp 58) rfl rfl (a5e B.out) (by simpa using L2.out.id) ?_)
     | ((with_reducible refine a0l 63 ?_);refine a0r (o:=⟨some 63,_,_,_,_,_⟩) (cs:=bv k) a1o.row rfl (.tmp 62) rfl rfl (a3g L2.out B.out) (by simpa using L2.out.key) ?_)
     | (go_at_call 29;(with_reducible refine(cb.out _).mono ?_);rintro e v64 ⟨x64,rfl,h64,k64⟩
        have R64:=hjd h64
        obtain⟨NA,nc,rfl,_⟩:=h64
        replace t:=hjd (t.out.kept k64)
        replace O21:=hjd (O21.out.a0q k64)
        replace X:=hjd (X.out.kept k64)
        replace B:=hjd (B.out.kept k64 (by simp))
        clear k64))
    refine⟨rfl,B.out,Txt.a0e ?_⟩
    go_wp2_with (first
     | ((with_reducible refine a0l 66 ?_);refine a0r (o:=⟨some 66,_,_,_,_,_⟩) (cs:=bv S2) Q.b1y rfl (.tmp 65) rfl rfl (a3x L2.out B.out) (by simpa using L2.out.sig) ?_)
     | (go_at_call 16;(with_reducible refine(co.out _ _ R64.out).mono ?_);rintro e v67 ⟨rfl,k67⟩
        replace t:=hjd (t.out.kept k67)
        replace O21:=hjd (O21.out.a0q k67)
        replace X:=hjd (X.out.kept k67)
        replace B:=hjd (B.out.kept k67 (by simp))
        clear k67))
    refine⟨rfl,B.out,Txt.a0e ?_⟩
    go_wp2_with fail
    refine⟨rfl,B.out,Txt.a0x ⟨⟨by kernel_rfl,?_⟩,?_⟩⟩
    ·intro j hj o ho hw
     have hj2:j=8∨j=10∨j=12∨j=15:=by simpa using hj
     rcases hj2 with rfl | rfl | rfl | rfl <;> cases ho
     ·exact⟨59,rfl,fun u hu=>a1c a1o.row (.tmp 58) rfl rfl (a5e hu) (by simpa using L2.out.id)⟩
     ·exact⟨61,rfl,fun u hu=>a2e (.tmp 60) rfl (fun w=>by kernel_rfl) rfl (a2j L2.out hu)⟩
     ·exact⟨63,rfl,fun u hu=>a1c a1o.row (.tmp 62) rfl rfl (a3g L2.out hu) (by simpa using L2.out.key)⟩
     ·exact⟨66,rfl,fun u hu=>a1c Q.b1y (.tmp 65) rfl rfl (a3x L2.out hu) (by simpa using L2.out.sig)⟩
    clear q1
    go_wp2_with fail
    go_ret
    exact⟨rfl,t.out.k⟩
 ·obtain⟨h1,h64,rfl⟩:=hB
  have n1:¬(ver < 1):=by omega
  have n2:¬(64 < ver):=by omega
  have q1:=a2j L2.out B.out
  refine Txt.a1e [8,10,12,15] (fun u=>Blk u g9 44 (a2o K ver k S2).toArray) [[_,_,_,_,_,_,_,_,_,_,_,_,_,_],[_,_,_],[_,_,_]] (by kernel_rfl) (by kernel_rfl) rfl B.out (Txt.a0e ?_)
  go_wp2_with (first
   | ((with_reducible refine a0l 59 ?_);refine a0r (o:=⟨some 59,_,_,_,_,_⟩) (cs:=bv K) a1o.row rfl (.tmp 58) rfl rfl (a5e B.out) (by simpa using L2.out.id) ?_)
   | ((with_reducible refine a0l 63 ?_);refine a0r (o:=⟨some 63,_,_,_,_,_⟩) (cs:=bv k) a1o.row rfl (.tmp 62) rfl rfl (a3g L2.out B.out) (by simpa using L2.out.key) ?_)
   | (go_at_call 29;(with_reducible refine(cb.out _).mono ?_);rintro e v64 ⟨x64,rfl,h64,k64⟩
      have R64:=hjd h64
      obtain⟨NA,nc,rfl,_⟩:=h64
      replace t:=hjd (t.out.kept k64)
      replace O21:=hjd (O21.out.a0q k64)
      replace X:=hjd (X.out.kept k64)
      replace B:=hjd (B.out.kept k64 (by simp))
      clear k64))
  refine⟨rfl,B.out,Txt.a0e ?_⟩
  go_wp2_with (first
   | ((with_reducible refine a0l 66 ?_);refine a0r (o:=⟨some 66,_,_,_,_,_⟩) (cs:=bv S2) Q.b1y rfl (.tmp 65) rfl rfl (a3x L2.out B.out) (by simpa using L2.out.sig) ?_)
   | (go_at_call 16;(with_reducible refine(co.out _ _ R64.out).mono ?_);rintro e v67 ⟨rfl,k67⟩
      replace t:=hjd (t.out.kept k67)
      replace O21:=hjd (O21.out.a0q k67)
      replace X:=hjd (X.out.kept k67)
      replace B:=hjd (B.out.kept k67 (by simp))
      clear k67))
  refine⟨rfl,B.out,Txt.a0e ?_⟩
  go_wp2_with fail
  refine⟨rfl,B.out,Txt.a0x ⟨⟨by kernel_rfl,?_⟩,?_⟩⟩
  ·intro j hj o ho hw
   have hj2:j=8∨j=10∨j=12∨j=15:=by simpa using hj
   rcases hj2 with rfl | rfl | rfl | rfl <;> cases ho
   ·exact⟨59,rfl,fun u hu=>a1c a1o.row (.tmp 58) rfl rfl (a5e hu) (by simpa using L2.out.id)⟩
   ·exact⟨61,rfl,fun u hu=>a2e (.tmp 60) rfl (fun w=>by kernel_rfl) rfl (a2j L2.out hu)⟩
   ·exact⟨63,rfl,fun u hu=>a1c a1o.row (.tmp 62) rfl rfl (a3g L2.out hu) (by simpa using L2.out.key)⟩
   ·exact⟨66,rfl,fun u hu=>a1c Q.b1y (.tmp 65) rfl rfl (a3x L2.out hu) (by simpa using L2.out.sig)⟩
  clear q1
  have hl70:=hlk2.out
  have hb:(ver !=(lk.length:Int) + 1)=true:=by simpa using hne
  go_wp2_with fail
  go_ret
  exact⟨rfl,t.out.k⟩
 ·obtain⟨h1,h64,rfl⟩:=hB
  replace h36:=hjd h36
  replace he:=hjd he
  have n1:¬(ver < 1):=by omega
  have n2:¬(64 < ver):=by omega
  have q1:=a2j L2.out B.out
  refine Txt.a1e [8,10,12,15] (fun u=>Blk u g9 44 (a2o K ver k S2).toArray) [[_,_,_,_,_,_,_,_,_,_,_,_,_,_],[_,_,_],[_,_,_]] (by kernel_rfl) (by kernel_rfl) rfl B.out (Txt.a0e ?_)
  go_wp2_with (first
   | ((with_reducible refine a0l 59 ?_);refine a0r (o:=⟨some 59,_,_,_,_,_⟩) (cs:=bv K) a1o.row rfl (.tmp 58) rfl rfl (a5e B.out) (by simpa using L2.out.id) ?_)
   | ((with_reducible refine a0l 63 ?_);refine a0r (o:=⟨some 63,_,_,_,_,_⟩) (cs:=bv k) a1o.row rfl (.tmp 62) rfl rfl (a3g L2.out B.out) (by simpa using L2.out.key) ?_)
   | (go_at_call 29;(with_reducible refine(cb.out _).mono ?_);rintro e v64 ⟨x64,rfl,h64,k64⟩
      have R64:=hjd h64
      obtain⟨NA,nc,rfl,_⟩:=h64
      replace t:=hjd (t.out.kept k64)
      replace O21:=hjd (O21.out.a0q k64)
      replace X:=hjd (X.out.kept k64)
      replace B:=hjd (B.out.kept k64 (by simp))
      clear k64))
  refine⟨rfl,B.out,Txt.a0e ?_⟩
  go_wp2_with (first
   | ((with_reducible refine a0l 66 ?_);refine a0r (o:=⟨some 66,_,_,_,_,_⟩) (cs:=bv S2) Q.b1y rfl (.tmp 65) rfl rfl (a3x L2.out B.out) (by simpa using L2.out.sig) ?_)
   | (go_at_call 16;(with_reducible refine(co.out _ _ R64.out).mono ?_);rintro e v67 ⟨rfl,k67⟩
      replace t:=hjd (t.out.kept k67)
      replace O21:=hjd (O21.out.a0q k67)
      replace X:=hjd (X.out.kept k67)
      replace B:=hjd (B.out.kept k67 (by simp))
      clear k67))
  refine⟨rfl,B.out,Txt.a0e ?_⟩
  go_wp2_with fail
  refine⟨rfl,B.out,Txt.a0x ⟨⟨by kernel_rfl,?_⟩,?_⟩⟩
  ·intro j hj o ho hw
   have hj2:j=8∨j=10∨j=12∨j=15:=by simpa using hj
   rcases hj2 with rfl | rfl | rfl | rfl <;> cases ho
   ·exact⟨59,rfl,fun u hu=>a1c a1o.row (.tmp 58) rfl rfl (a5e hu) (by simpa using L2.out.id)⟩
   ·exact⟨61,rfl,fun u hu=>a2e (.tmp 60) rfl (fun w=>by kernel_rfl) rfl (a2j L2.out hu)⟩
   ·exact⟨63,rfl,fun u hu=>a1c a1o.row (.tmp 62) rfl rfl (a3g L2.out hu) (by simpa using L2.out.key)⟩
   ·exact⟨66,rfl,fun u hu=>a1c Q.b1y (.tmp 65) rfl rfl (a3x L2.out hu) (by simpa using L2.out.sig)⟩
  clear q1
  have o36:=hjd (show Ow v67 26 32 x36 (lk ++ [k]).length ((lk ++ [k]).flatMap bv)from by
   rcases X.out with⟨_,hc,_⟩ | ⟨_,_,hc,_⟩ | ⟨_,_,_,h,_⟩
   ·exact absurd hc (by decide)
   ·exact absurd hc (by decide)
   ·exact h)
  have D:=hjd (show∀j,x36.ownBlock=some j→j∉(Value.slice OA lk.length oc).ownBlock.toList from fun j hj hm=>by
   have h1:=h36.out.2 j hj
   have h2:=G21.out j (Option.mem_toList.1 hm)
   omega)
  have hl70:=hlk2.out
  have hb:(ver !=(lk.length:Int) + 1)=false:=by simpa using he.out
  go_wp2_with (first
   | ((with_reducible refine a0l 96 ?_);refine a0r (o:=⟨some 96,_,_,_,_,_⟩) (cs:=bv k) a1o.row rfl (.tmp 95) rfl rfl (a3g L2.out B.out) (by simpa using L2.out.key) ?_)
   | ((with_reducible refine a0l 97 ?_);(refine a1m (o:=⟨some 97,_,_,_,_,_⟩) (v0:=ab k) (cells:=(bv k).toArray) rfl a7l rfl rfl (by decide) rfl (by simpa using L2.out.key) ?_);intro g97 w97 m97
      have R97:=hjd (show a5r k (.slice (some ⟨g97,0,none⟩) 1 1) w97 from b7r m97.blk L2.out.key)
      replace t:=hjd (t.out.kept m97.kept)
      replace O21:=hjd (O21.out.a0q m97.kept)
      replace o36:=hjd (o36.out.a0q m97.kept)
      clear m97)
   | (at_builtin;refine c4g a7l rfl (.tmp 94) (.tmp 97) rfl rfl (xs:=lk.flatMap bv) (n:=lk.length) (m:=[k].length) (news:=[k].flatMap bv) O21.out rfl R97.out (a8h [k]) (by have:=hlk2.out;simp;omega) (by have:=hlk2.out;simp;omega) ?_
      intro x98 w98 o98 k98 b98
      have KF:=hjd (t.out.k.fresh k98 (fun j hj=>F21.out j (Option.mem_toList.1 hj)))
      replace o36:=hjd (o36.out.kept k98 D.out)
      have R98:=hjd (show Rd w98 32 x98 (lk ++ [k]).length ((lk ++ [k]).flatMap bv)from by
       have:=Rd.a4x o98
       simpa using this)
      clear o98 k98 b98)
   | (go_at_call 26;(with_reducible refine(cs2.out _ _ _ (Rd.a4x o36.out) R98.out).mono ?_);rintro e v99 ⟨rfl,kk⟩
      replace KF:=hjd (KF.out.a0f kk);replace o36:=hjd (o36.out.a0q kk);clear kk)
   | (go_at_call 27;(with_reducible refine(v2.out _ _ (Rd.a4x o36.out)).mono ?_);rintro e v103 ⟨rfl,kk⟩
      replace KF:=hjd (KF.out.a0f kk);replace o36:=hjd (o36.out.a0q kk);clear kk)
   | (go_at_call 28;(with_reducible refine(r2.out _ _ (Rd.a4x o36.out)).mono ?_);rintro e v105 ⟨rfl,kk⟩
      replace KF:=hjd (KF.out.a0f kk);replace o36:=hjd (o36.out.a0q kk);clear kk))
  go_ret
  exact⟨rfl,KF.out⟩
set_option maxHeartbeats 6400000 in
theorem c0v{keys lk:List (List UInt8)}{s k K S2 Z V V2 r:List UInt8}{y:UInt8}{v:Value}{w:World}(ver:Int)(wrong ok:Bool){B:Option Addr}{d:Nat}
 (rd:Rd w 32 v keys.length (keys.flatMap bv)) (htest:¬((70:Int) < keys.length)) (hlk:(lk.length:Int)=(keys.length:Int)) (hlk2:lk.length≤70)
 (hsl:∀W,(Instr.sliceAt 38 v none (some (.int .i64 (keys.length:Int))) none).run Try.prog W= .ok (.slice B lk.length d) W) (hrow:∀u,Kept [] w u→Rd u 32 (.slice B lk.length d) lk.length (lk.flatMap bv))
 (hs:s.length=32) (hS2:S2=c6r wrong y r) (L:UpL K k (y :: r)) (L2:UpL K k S2) (hzl:Z.length=32) (hV:V.length=32) (hV2:V2.length=32) (l9:Value.agg ((bv Z).set 0 (.int .u8 9)).toArray=ab s) (l44:Value.agg (((bv Z).set 0 (.int .u8 4)).set 1 (.int .u8 4)).toArray=ab k) (l0:Value.agg #[.int .u8 0,.int .u8 0,.int .u8 0,.int .u8 0,.int .u8 0,.int .u8 0,.int .u8 0,.int .u8 0,.int .u8 0,.int .u8 0,.int .u8 0,.int .u8 0,.int .u8 0,.int .u8 0,.int .u8 0,.int .u8 0,.int .u8 0,.int .u8 0,.int .u8 0,.int .u8 0,.int .u8 0,.int .u8 0,.int .u8 0,.int .u8 0,.int .u8 0,.int .u8 0,.int .u8 0,.int .u8 0,.int .u8 0,.int .u8 0,.int .u8 0,.int .u8 0]=ab Z)
 (cm:∀u,Calls Try.prog 24 #[ab s,.int .i64 ver,ab k] u fun e w'=>e= .returned (b0x K ver k (y :: r))∧Kept [] u w')
 (cn:∀u v,Rd u 32 v lk.length (lk.flatMap bv)→Calls Try.prog 25 #[v,Value.agg (a2o K ver k S2).toArray] u fun e w'=>∃v' c,e= .returned (.tuple #[v',.int .i64 c])∧Kept [] u w'∧c2r ver ok lk k u.heap.size v' c w')
 (cs:∀u va vb,Rd u 32 va lk.length (lk.flatMap bv)→Rd u 32 vb lk.length (lk.flatMap bv)→Calls Try.prog 26 #[va,vb] u fun e w'=>e= .returned (.bool true)∧Kept [] u w')
 (cs2:∀u va vb,Rd u 32 va (lk ++ [k]).length ((lk ++ [k]).flatMap bv)→Rd u 32 vb (lk ++ [k]).length ((lk ++ [k]).flatMap bv)→Calls Try.prog 26 #[va,vb] u fun e w'=>e= .returned (.bool true)∧Kept [] u w')
 (v1:∀u va,Rd u 32 va lk.length (lk.flatMap bv)→Calls Try.prog 27 #[va] u fun e w'=>e= .returned (ab V)∧Kept [] u w')
 (r1:∀u va,Rd u 32 va lk.length (lk.flatMap bv)→Calls Try.prog 28 #[va] u fun e w'=>e= .returned (ab V)∧Kept [] u w')
 (v2:∀u va,Rd u 32 va (lk ++ [k]).length ((lk ++ [k]).flatMap bv)→Calls Try.prog 27 #[va] u fun e w'=>e= .returned (ab V2)∧Kept [] u w')
 (r2:∀u va,Rd u 32 va (lk ++ [k]).length ((lk ++ [k]).flatMap bv)→Calls Try.prog 28 #[va] u fun e w'=>e= .returned (ab V2)∧Kept [] u w')
 (cb:∀u,Calls Try.prog 29 #[.int .i64 ver,ab k] u fun e w'=>∃v',e= .returned v'∧a4a (a5a ver k) v' w'∧Kept [] u w')
 (co:∀u v,a4a (a5a ver k) v u→Calls Try.prog 16 #[ab K,.int .u8 1,v,ab S2] u fun e w'=>e= .returned (.bool ok)∧Kept [] u w') :
 Calls Try.prog 5 #[v,.int .i64 ver,.bool wrong] w fun e w'=>e= .returned (.bool true)∧Kept [] w w':=by
 have c1:=hjd b1e
 have ho:=hjd (b4e (id:=K) (key:=k) (sig:=y :: r) (ver:=ver))
 have hz:=hjd (a2w (ver:=0) (show UpL (a0j 32) (a0j 32) (a0j 64)from⟨rfl,rfl,rfl⟩))
 have hz2:=hjd (a2w (ver:=ver) L)
 have hz3:=hjd (a2w (ver:=ver) L2)
 have hzn:¬Z= []:=by
  intro h
  rw [h]at hzl
  cases hzl
 have hzl2:=hjd hzl
 replace hlk:=hjd hlk
 replace hlk2:=hjd hlk2
 replace hrow:=hjd hrow
 replace hS2:=hjd hS2
 replace hs:=hjd hs
 replace L:=hjd L
 replace L2:=hjd L2
 replace hV:=hjd hV
 replace hV2:=hjd hV2
 replace cm:=hjd cm
 replace cn:=hjd cn
 replace cs:=hjd cs
 replace cs2:=hjd cs2
 replace v1:=hjd v1
 replace r1:=hjd r1
 replace v2:=hjd v2
 replace r2:=hjd r2
 replace cb:=hjd cb
 replace co:=hjd co
 obtain⟨VA,vc,rfl,_⟩:=rd
 have t:=hjd (Pm.none w)
 go_enter Try.func5,Try.ntmps5
 go_upto_if 26 with(first
  | (go_at_call 23;(with_reducible refine(c1.out _).mono ?_);rintro e v12 ⟨rfl,kk⟩;replace t:=hjd (t.out.kept kk);clear kk;have R:=hjd (hrow.out _ t.out.k))
  | (at_builtin;refine a2l a7l rfl (.tmp 19) (.tmp 20) rfl rfl (xs:=[]) (n:=0) (m:=lk.length) (news:=lk.flatMap bv) (Ow.b2a (a4b (by simp) rfl rfl (by omega))) rfl (R.out.alloc _) (a8h lk) (by have:=hlk2.out;omega) (by have:=hlk2.out;omega) ?_
     intro x21 w21 o21 k21 b21
     have F21:=hjd (show∀g,x21.ownBlock=some g→w.heap.size≤g from fun g hg=>by
      have h0:=t.out.k.size
      rcases b21 with b21 | b21
      ·have:some v12.heap.size=some g:=b21.symm.trans hg
       cases this
       exact h0
      ·have:some (v12.heap.push _).size=some g:=b21.symm.trans hg
       rw [Array.size_push]at this
       cases this
       omega)
     have kk:=Kept.fresh (S:=[v12.heap.size]) ((Kept.refl [] v12).alloc _) k21 (by simp)
     rw [Nat.zero_add,List.nil_append]at o21
     obtain⟨OA,oc,rfl,_⟩:=o21.shape
     have O21:=hjd o21
     replace t:=hjd (t.out.kept kk)
     clear o21 k21 b21 kk)
  | (go_at_call 24;(with_reducible refine(cm.out _).mono ?_);rintro e v25 ⟨rfl,kk⟩;replace t:=hjd (t.out.kept kk);replace O21:=hjd (O21.out.a0q kk);clear kk)
  | ((with_reducible refine a0l 9 ?_);(refine a0g (o:=⟨some 9,_,_,_,_,_⟩) rfl rfl a8r ?_);intro g9 w9 m9
     have B9:=hjd (show Blk w9 g9 44 (a2o (a0j 32) 0 (a0j 32) (a0j 64)).toArray from m9.blk)
     have N9:=hjd (show∀j,(Value.slice OA lk.length oc).ownBlock=some j→j∉[g9]from fun j hj=>by have:=m9.ne (O21.out.lt hj);simpa using this)
     refine a0b (cs:=(a2o K ver k (y :: r)).toArray) (o:=⟨none,Op.store 44 (.tmp 9) (.tmp 25),_,_,_,_⟩) b7n rfl (.tmp 9) (.tmp 25) rfl rfl rfl B9.out (List.size_toArray.trans hz.out) (List.size_toArray.trans hz2.out) ho.out ?_
     intro wb b9 k9
     replace O21:=hjd (O21.out.a0q (m9.kept.a0p k9 m9.le))
     have L9:=hjd (Nat.le_trans t.out.k.size m9.le)
     replace t:=hjd (t.out.put m9 b9 k9)
     clear m9 b9 k9 B9))
 go_cut [2,26,27,28,29,30,31,32] (fun _ _ _ _ _ _ _ _ wc=>True∧Hid (Pm w [(g9,44,(a2o K ver k S2).toArray)] wc∧Ow wc 26 32 (.slice OA lk.length oc) lk.length (lk.flatMap bv)))
 case first=>
  have hb:=hjd (t.out.s (g9,44,(a2o K ver k (y :: r)).toArray) (by simp))
  cases wrong with
  | false=>
    go_wp2_with fail
    go_meet
    have e:S2=y :: r:=hS2.out
    exact⟨trivial,hjd (by rw [e];exact⟨t.out,O21.out⟩)⟩
  | true=>
    have q0:=c4a L.out hb.out
    have f0:=hb.out.frozen 65
    have x0:=d8k y
    go_wp2_with fail
    go_meet
    have e:S2=(y ^^^ 1) :: r:=hS2.out
    have hbt:=c5a (z:=y ^^^ 1) L.out hb.out
    rw [UInt8.toNat_xor]at hbt
    refine⟨trivial,hjd (by rw [e];exact⟨t.out.again L9.out (by simp) hbt ((Kept.refl _ _).setCell (.inl (by simp)) _),O21.out.setCell (fun h=>by have:=N9.out _ h;simp at this) _⟩)⟩
 case rest=>
 obtain⟨_,hH⟩:=hcut
 have t:=hjd hH.out.1
 have O21:=hjd hH.out.2
 have R:=hjd (hrow.out _ t.out.k)
 clear hH
 have qV:=a5x (b:=true) (beq_self_eq_true V) hV.out hV.out
 have qW:=a5x (b:=true) (beq_self_eq_true V2) hV2.out hV2.out
 go_wp2_with (first
  | ((with_reducible refine a0l 35 ?_);refine a0d (cs:=(a2o K ver k S2).toArray) (o:=⟨some 35,_,_,_,_,_⟩) b7n rfl (.tmp 9) rfl rfl (t.out.s (g9,44,(a2o K ver k S2).toArray) (by simp)) (List.size_toArray.trans hz3.out) ?_)
  | (go_at_call 25;(with_reducible refine(cn.out _ _ R.out).mono ?_);rintro e v36 ⟨x36,c36,rfl,kk,hx⟩
     have G21:=hjd (fun j (hj:(Value.slice OA lk.length oc).ownBlock=some j)=>O21.out.lt hj)
     have X:=hjd hx
     replace t:=hjd (t.out.kept kk);replace O21:=hjd (O21.out.a0q kk);replace R:=hjd (R.out.a0q kk);clear kk hx)
  | (go_at_call 26;(with_reducible refine(cs.out _ _ _ R.out (Rd.a4x O21.out)).mono ?_);rintro e v41 ⟨rfl,kk⟩
     replace t:=hjd (t.out.kept kk);replace O21:=hjd (O21.out.a0q kk);replace R:=hjd (R.out.a0q kk);replace X:=hjd (X.out.kept kk);clear kk)
  | (go_at_call 27;(with_reducible refine(v1.out _ _ R.out).mono ?_);rintro e v45 ⟨rfl,kk⟩
     replace t:=hjd (t.out.kept kk);replace O21:=hjd (O21.out.a0q kk);replace R:=hjd (R.out.a0q kk);replace X:=hjd (X.out.kept kk);clear kk)
  | (go_at_call 28;(with_reducible refine(r1.out _ _ R.out).mono ?_);rintro e v47 ⟨rfl,kk⟩
     replace t:=hjd (t.out.kept kk);replace O21:=hjd (O21.out.a0q kk);replace R:=hjd (R.out.a0q kk);replace X:=hjd (X.out.kept kk);clear kk))
 have kd:=(Kept.refl [] v47).drew
 replace t:=hjd (t.out.kept kd)
 replace O21:=hjd (O21.out.a0q kd)
 replace X:=hjd (X.out.kept kd)
 have B:=hjd (t.out.s (g9,44,(a2o K ver k S2).toArray) (by simp))
 clear kd qV
 rcases X.out with⟨hA,rfl,rfl⟩ | ⟨hB,hne,rfl,rfl⟩ | ⟨hB,he,rfl,h36⟩
 ·by_cases h1:ver < 1
  ·clear hA
   refine Txt.a1e [8,10,12,15] (fun u=>Blk u g9 44 (a2o K ver k S2).toArray) [[_,_,_,_,_,_,_,_,_,_,_,_,_,_],[_,_,_],[_,_,_]] (by kernel_rfl) (by kernel_rfl) rfl B.out (Txt.a0e ?_)
   go_wp2_with fail
   refine And.intro rfl (And.intro B.out ?_)
   unfold Txt.a3r
   go_wp2_with fail
   refine And.intro rfl (And.intro B.out ?_)
   unfold Txt.a3r
   go_wp2_with fail
   refine And.intro rfl (And.intro B.out (Txt.a0x ⟨⟨by kernel_rfl,?_⟩,?_⟩))
   ·intro j hj o ho hw
    have hj2:j=8∨j=10∨j=12∨j=15:=by simpa using hj
    rcases hj2 with rfl | rfl | rfl | rfl <;> cases ho
    all_goals exact absurd (hw:Region.wanted _ _=true) (by rw [show Region.wanted _ _=false from by kernel_rfl];simp)
   go_wp2_with fail
   go_ret
   exact⟨rfl,t.out.k⟩
  ·by_cases h64:64 < ver
   ·clear hA
    refine Txt.a1e [8,10,12,15] (fun u=>Blk u g9 44 (a2o K ver k S2).toArray) [[_,_,_,_,_,_,_,_,_,_,_,_,_,_],[_,_,_],[_,_,_]] (by kernel_rfl) (by kernel_rfl) rfl B.out (Txt.a0e ?_)
    go_wp2_with fail
    refine And.intro rfl (And.intro B.out ?_)
    unfold Txt.a3r
    go_wp2_with fail
    refine And.intro rfl (And.intro B.out ?_)
    unfold Txt.a3r
    go_wp2_with fail
    refine And.intro rfl (And.intro B.out (Txt.a0x ⟨⟨by kernel_rfl,?_⟩,?_⟩))
    ·intro j hj o ho hw
     have hj2:j=8∨j=10∨j=12∨j=15:=by simpa using hj
     rcases hj2 with rfl | rfl | rfl | rfl <;> cases ho
     all_goals exact absurd (hw:Region.wanted _ _=true) (by rw [show Region.wanted _ _=false from by kernel_rfl];simp)
    go_wp2_with fail
    go_ret
    exact⟨rfl,t.out.k⟩
   ·have h0:ok=false:=by
     rcases hA with h | h | h
     ·exact absurd h h1
     ·exact absurd h h64
     ·exact h
    subst h0
    clear hA
    have n1:¬(ver < 1):=by omega
    have n2:¬(64 < ver):=by omega
    have q1:=a2j L2.out B.out
    refine Txt.a1e [8,10,12,15] (fun u=>Blk u g9 44 (a2o K ver k S2).toArray) [[_,_,_,_,_,_,_,_,_,_,_,_,_,_],[_,_,_],[_,_,_]] (by kernel_rfl) (by kernel_rfl) rfl B.out (Txt.a0e ?_)
    go_wp2_with (first
     | ((with_reducible refine a0l 59 ?_);refine a0r (o:=⟨some 59,_,_,_,_,_⟩) (cs:=bv K) a1o.row rfl (.tmp 58) rfl rfl (a5e B.out) (by simpa using L2.out.id) ?_)
     | ((with_reducible refine a0l 63 ?_);refine a0r (o:=⟨some 63,_,_,_,_,_⟩) (cs:=bv k) a1o.row rfl (.tmp 62) rfl rfl (a3g L2.out B.out) (by simpa using L2.out.key) ?_)
     | (go_at_call 29;(with_reducible refine(cb.out _).mono ?_);rintro e v64 ⟨x64,rfl,h64,k64⟩
        have R64:=hjd h64
        obtain⟨NA,nc,rfl,_⟩:=h64
        replace t:=hjd (t.out.kept k64)
        replace O21:=hjd (O21.out.a0q k64)
        replace X:=hjd (X.out.kept k64)
        replace B:=hjd (B.out.kept k64 (by simp))
        clear k64))
    refine⟨rfl,B.out,Txt.a0e ?_⟩
    go_wp2_with (first
     | ((with_reducible refine a0l 66 ?_);refine a0r (o:=⟨some 66,_,_,_,_,_⟩) (cs:=bv S2) Q.b1y rfl (.tmp 65) rfl rfl (a3x L2.out B.out) (by simpa using L2.out.sig) ?_)
     | (go_at_call 16;(with_reducible refine(co.out _ _ R64.out).mono ?_);rintro e v67 ⟨rfl,k67⟩
        replace t:=hjd (t.out.kept k67)
        replace O21:=hjd (O21.out.a0q k67)
        replace X:=hjd (X.out.kept k67)
        replace B:=hjd (B.out.kept k67 (by simp))
        clear k67))
    refine⟨rfl,B.out,Txt.a0e ?_⟩
    go_wp2_with fail
    refine⟨rfl,B.out,Txt.a0x ⟨⟨by kernel_rfl,?_⟩,?_⟩⟩
    ·intro j hj o ho hw
     have hj2:j=8∨j=10∨j=12∨j=15:=by simpa using hj
     rcases hj2 with rfl | rfl | rfl | rfl <;> cases ho
     ·exact⟨59,rfl,fun u hu=>a1c a1o.row (.tmp 58) rfl rfl (a5e hu) (by simpa using L2.out.id)⟩
     ·exact⟨61,rfl,fun u hu=>a2e (.tmp 60) rfl (fun w=>by kernel_rfl) rfl (a2j L2.out hu)⟩
     ·exact⟨63,rfl,fun u hu=>a1c a1o.row (.tmp 62) rfl rfl (a3g L2.out hu) (by simpa using L2.out.key)⟩
     ·exact⟨66,rfl,fun u hu=>a1c Q.b1y (.tmp 65) rfl rfl (a3x L2.out hu) (by simpa using L2.out.sig)⟩
    clear q1
    go_wp2_with fail
    go_ret
    exact⟨rfl,t.out.k⟩
 ·obtain⟨h1,h64,rfl⟩:=hB
  have n1:¬(ver < 1):=by omega
  have n2:¬(64 < ver):=by omega
  have q1:=a2j L2.out B.out
  refine Txt.a1e [8,10,12,15] (fun u=>Blk u g9 44 (a2o K ver k S2).toArray) [[_,_,_,_,_,_,_,_,_,_,_,_,_,_],[_,_,_],[_,_,_]] (by kernel_rfl) (by kernel_rfl) rfl B.out (Txt.a0e ?_)
  go_wp2_with (first
   | ((with_reducible refine a0l 59 ?_);refine a0r (o:=⟨some 59,_,_,_,_,_⟩) (cs:=bv K) a1o.row rfl (.tmp 58) rfl rfl (a5e B.out) (by simpa using L2.out.id) ?_)
   | ((with_reducible refine a0l 63 ?_);refine a0r (o:=⟨some 63,_,_,_,_,_⟩) (cs:=bv k) a1o.row rfl (.tmp 62) rfl rfl (a3g L2.out B.out) (by simpa using L2.out.key) ?_)
   | (go_at_call 29;(with_reducible refine(cb.out _).mono ?_);rintro e v64 ⟨x64,rfl,h64,k64⟩
      have R64:=hjd h64
      obtain⟨NA,nc,rfl,_⟩:=h64
      replace t:=hjd (t.out.kept k64)
      replace O21:=hjd (O21.out.a0q k64)
      replace X:=hjd (X.out.kept k64)
      replace B:=hjd (B.out.kept k64 (by simp))
      clear k64))
  refine⟨rfl,B.out,Txt.a0e ?_⟩
  go_wp2_with (first
   | ((with_reducible refine a0l 66 ?_);refine a0r (o:=⟨some 66,_,_,_,_,_⟩) (cs:=bv S2) Q.b1y rfl (.tmp 65) rfl rfl (a3x L2.out B.out) (by simpa using L2.out.sig) ?_)
   | (go_at_call 16;(with_reducible refine(co.out _ _ R64.out).mono ?_);rintro e v67 ⟨rfl,k67⟩
      replace t:=hjd (t.out.kept k67)
      replace O21:=hjd (O21.out.a0q k67)
      replace X:=hjd (X.out.kept k67)
      replace B:=hjd (B.out.kept k67 (by simp))
      clear k67))
  refine⟨rfl,B.out,Txt.a0e ?_⟩
  go_wp2_with fail
  refine⟨rfl,B.out,Txt.a0x ⟨⟨by kernel_rfl,?_⟩,?_⟩⟩
  ·intro j hj o ho hw
   have hj2:j=8∨j=10∨j=12∨j=15:=by simpa using hj
   rcases hj2 with rfl | rfl | rfl | rfl <;> cases ho
   ·exact⟨59,rfl,fun u hu=>a1c a1o.row (.tmp 58) rfl rfl (a5e hu) (by simpa using L2.out.id)⟩
   ·exact⟨61,rfl,fun u hu=>a2e (.tmp 60) rfl (fun w=>by kernel_rfl) rfl (a2j L2.out hu)⟩
   ·exact⟨63,rfl,fun u hu=>a1c a1o.row (.tmp 62) rfl rfl (a3g L2.out hu) (by simpa using L2.out.key)⟩
   ·exact⟨66,rfl,fun u hu=>a1c Q.b1y (.tmp 65) rfl rfl (a3x L2.out hu) (by simpa using L2.out.sig)⟩
  clear q1
  have hl70:=hlk2.out
  have hb:(ver !=(lk.length:Int) + 1)=true:=by simpa using hne
  go_wp2_with fail
  go_ret
  exact⟨rfl,t.out.k⟩
 ·obtain⟨h1,h64,rfl⟩:=hB
  replace h36:=hjd h36
  replace he:=hjd he
  have n1:¬(ver < 1):=by omega
  have n2:¬(64 < ver):=by omega
  have q1:=a2j L2.out B.out
  refine Txt.a1e [8,10,12,15] (fun u=>Blk u g9 44 (a2o K ver k S2).toArray) [[_,_,_,_,_,_,_,_,_,_,_,_,_,_],[_,_,_],[_,_,_]] (by kernel_rfl) (by kernel_rfl) rfl B.out (Txt.a0e ?_)
  go_wp2_with (first
   | ((with_reducible refine a0l 59 ?_);refine a0r (o:=⟨some 59,_,_,_,_,_⟩) (cs:=bv K) a1o.row rfl (.tmp 58) rfl rfl (a5e B.out) (by simpa using L2.out.id) ?_)
   | ((with_reducible refine a0l 63 ?_);refine a0r (o:=⟨some 63,_,_,_,_,_⟩) (cs:=bv k) a1o.row rfl (.tmp 62) rfl rfl (a3g L2.out B.out) (by simpa using L2.out.key) ?_)
   | (go_at_call 29;(with_reducible refine(cb.out _).mono ?_);rintro e v64 ⟨x64,rfl,h64,k64⟩
      have R64:=hjd h64
      obtain⟨NA,nc,rfl,_⟩:=h64
      replace t:=hjd (t.out.kept k64)
      replace O21:=hjd (O21.out.a0q k64)
      replace X:=hjd (X.out.kept k64)
      replace B:=hjd (B.out.kept k64 (by simp))
      clear k64))
  refine⟨rfl,B.out,Txt.a0e ?_⟩
  go_wp2_with (first
   | ((with_reducible refine a0l 66 ?_);refine a0r (o:=⟨some 66,_,_,_,_,_⟩) (cs:=bv S2) Q.b1y rfl (.tmp 65) rfl rfl (a3x L2.out B.out) (by simpa using L2.out.sig) ?_)
   | (go_at_call 16;(with_reducible refine(co.out _ _ R64.out).mono ?_);rintro e v67 ⟨rfl,k67⟩
      replace t:=hjd (t.out.kept k67)
      replace O21:=hjd (O21.out.a0q k67)
      replace X:=hjd (X.out.kept k67)
      replace B:=hjd (B.out.kept k67 (by simp))
      clear k67))
  refine⟨rfl,B.out,Txt.a0e ?_⟩
  go_wp2_with fail
  refine⟨rfl,B.out,Txt.a0x ⟨⟨by kernel_rfl,?_⟩,?_⟩⟩
  ·intro j hj o ho hw
   have hj2:j=8∨j=10∨j=12∨j=15:=by simpa using hj
   rcases hj2 with rfl | rfl | rfl | rfl <;> cases ho
   ·exact⟨59,rfl,fun u hu=>a1c a1o.row (.tmp 58) rfl rfl (a5e hu) (by simpa using L2.out.id)⟩
   ·exact⟨61,rfl,fun u hu=>a2e (.tmp 60) rfl (fun w=>by kernel_rfl) rfl (a2j L2.out hu)⟩
   ·exact⟨63,rfl,fun u hu=>a1c a1o.row (.tmp 62) rfl rfl (a3g L2.out hu) (by simpa using L2.out.key)⟩
   ·exact⟨66,rfl,fun u hu=>a1c Q.b1y (.tmp 65) rfl rfl (a3x L2.out hu) (by simpa using L2.out.sig)⟩
  clear q1
  have o36:=hjd (show Ow v67 26 32 x36 (lk ++ [k]).length ((lk ++ [k]).flatMap bv)from by
   rcases X.out with⟨_,hc,_⟩ | ⟨_,_,hc,_⟩ | ⟨_,_,_,h,_⟩
   ·exact absurd hc (by decide)
   ·exact absurd hc (by decide)
   ·exact h)
  have D:=hjd (show∀j,x36.ownBlock=some j→j∉(Value.slice OA lk.length oc).ownBlock.toList from fun j hj hm=>by
   have h1:=h36.out.2 j hj
   have h2:=G21.out j (Option.mem_toList.1 hm)
   omega)
  have hl70:=hlk2.out
  have hb:(ver !=(lk.length:Int) + 1)=false:=by simpa using he.out
  go_wp2_with (first
   | ((with_reducible refine a0l 96 ?_);refine a0r (o:=⟨some 96,_,_,_,_,_⟩) (cs:=bv k) a1o.row rfl (.tmp 95) rfl rfl (a3g L2.out B.out) (by simpa using L2.out.key) ?_)
   | ((with_reducible refine a0l 97 ?_);(refine a1m (o:=⟨some 97,_,_,_,_,_⟩) (v0:=ab k) (cells:=(bv k).toArray) rfl a7l rfl rfl (by decide) rfl (by simpa using L2.out.key) ?_);intro g97 w97 m97
      have R97:=hjd (show a5r k (.slice (some ⟨g97,0,none⟩) 1 1) w97 from b7r m97.blk L2.out.key)
      replace t:=hjd (t.out.kept m97.kept)
      replace O21:=hjd (O21.out.a0q m97.kept)
      replace o36:=hjd (o36.out.a0q m97.kept)
      clear m97)
   | (at_builtin;refine c4g a7l rfl (.tmp 94) (.tmp 97) rfl rfl (xs:=lk.flatMap bv) (n:=lk.length) (m:=[k].length) (news:=[k].flatMap bv) O21.out rfl R97.out (a8h [k]) (by have:=hlk2.out;simp;omega) (by have:=hlk2.out;simp;omega) ?_
      intro x98 w98 o98 k98 b98
      have KF:=hjd (t.out.k.fresh k98 (fun j hj=>F21.out j (Option.mem_toList.1 hj)))
      replace o36:=hjd (o36.out.kept k98 D.out)
      have R98:=hjd (show Rd w98 32 x98 (lk ++ [k]).length ((lk ++ [k]).flatMap bv)from by
       have:=Rd.a4x o98
       simpa using this)
      clear o98 k98 b98)
   | (go_at_call 26;(with_reducible refine(cs2.out _ _ _ (Rd.a4x o36.out) R98.out).mono ?_);rintro e v99 ⟨rfl,kk⟩
      replace KF:=hjd (KF.out.a0f kk);replace o36:=hjd (o36.out.a0q kk);clear kk)
   | (go_at_call 27;(with_reducible refine(v2.out _ _ (Rd.a4x o36.out)).mono ?_);rintro e v103 ⟨rfl,kk⟩
      replace KF:=hjd (KF.out.a0f kk);replace o36:=hjd (o36.out.a0q kk);clear kk)
   | (go_at_call 28;(with_reducible refine(r2.out _ _ (Rd.a4x o36.out)).mono ?_);rintro e v105 ⟨rfl,kk⟩
      replace KF:=hjd (KF.out.a0f kk);replace o36:=hjd (o36.out.a0q kk);clear kk))
  go_ret
  exact⟨rfl,KF.out⟩
end Go.Proofs.Ytdbngnlpafcogaa
