/-
  The keys' laws: a history is signed link by link (HistChains): the walk.
  The keys' laws: a history is signed link by link (HistChains): the law.
-/
import Derived.Test.YtdbngnlpafcogaaZhJ05
import Derived.Test.YtdbngnlpafcogaaZhJ02
set_option maxRecDepth 100000
namespace Go.Proofs.Ytdbngnlpafcogaa
open Go.RowKit Go.Mem Go.Txt
theorem intsT:SliceT Try.prog 54 3 1 8 (.int .i64 0):=⟨Try.underlying54,by kernel_rfl,rfl,by omega⟩
theorem e2f(x:Int):IntKind.u64.wrap x=x % 18446744073709551616:=rfl
theorem e0j(x:Int):∃n:Nat,wrap64 ((IntKind.u64.wrap x).tmod 8)=n∧n < 8:=by
 rw [e2f]
 have h0:0≤x % 18446744073709551616:=by omega
 rw [Int.tmod_eq_emod_of_nonneg h0]
 refine⟨(x % 18446744073709551616 % 8).toNat,?_,by omega⟩
 rw [IntWalk.wrap64_in _ (by omega)]
 omega
theorem e1e(ver:Int)(p q r:Nat→UInt8)(W:World):(Instr.field 44 (b0x ((List.range 32).map p) ver ((List.range 32).map q) ((List.range 64).map r)) 0).run Try.prog W= .ok (ab ((List.range 32).map p)) W:=by kernel_rfl
theorem e1s{id key sig:List UInt8}(ver:Int)(L:UpL id key sig)(W:World):(Instr.field 44 (b0x id ver key sig) 0).run Try.prog W= .ok (ab id) W:=by
 rw [b5p L.id,b5p L.key,b5p L.sig]
 exact e1e _ _ _ _ _
section
variable {P:Program} {w:World} {a:Act} {ops:Array Oper} {rest:List Oper} {o:Oper} {Q:Exit→Act→World→Prop} {t bt:TypeId} {k g off:Nat}
theorem c6t{pre mid post q:List Value}(h:Blk w g bt (pre ++ mid ++ post).toArray)(hp:pre.length=off)(hm:mid.length=q.length):Blk (w.setCells g off q) g bt (pre ++ q ++ post).toArray:=by
 obtain⟨cs',h1,h2,h3⟩:=Blk.setCells q off _ _ h
 have e:cs'=(pre ++ q ++ post).toArray:=by
  refine Array.ext_getElem? fun j=>?_
  rw [h3 j]
  simp only [List.size_toArray,List.length_append,List.getElem?_toArray]at h2 ⊢
  by_cases h4:j < off
  ·rw [if_neg (by omega),List.append_assoc,List.append_assoc,List.getElem?_append_left (by omega),List.getElem?_append_left (by omega)]
  ·by_cases h5:j < off + q.length
   ·rw [if_pos (by omega),List.append_assoc,List.getElem?_append_right (by omega),List.getElem?_append_left (by omega),hp]
   ·rw [if_neg (by omega),List.append_assoc,List.append_assoc,List.getElem?_append_right (by omega),List.getElem?_append_right (by omega),List.getElem?_append_right (by omega),List.getElem?_append_right (by omega),hm]
 rw [←e]
 exact h1
theorem c6q(T:RowT P t k)(hgd:Region.wanted o (yielded ops a.tmps)=true)(x y:Operand)(ho:o.op= .store t x y)(hx:a.eval x= .pointer (some ⟨g,off,none⟩)){pre mid post q:List Value}(hy:a.eval y= .agg q.toArray)
 (hb:Blk w g bt (pre ++ mid ++ post).toArray) (hp:pre.length=off) (hm:mid.length=k) (hq:q.length=k) (h1:q.toArray.all (·.oneCell')=true)
 (h:∀w',Blk w' g bt (pre ++ q ++ post).toArray→Kept [g] w w'→wpList P ops Q rest (a.put o.dst undef) w'):wpList P ops Q (o :: rest) a w:=
 a1k hgd fun _ hK=>wp_store_mid t x y ho g off q.toArray hx hy (hb.there (by simp;omega)) (by rw [T.2,List.size_toArray,hq]) h1 (hK _ _ (h _ (c6t hb hp (by rw [hm,hq])) (Kept.setCells q off w)))
end
theorem Pm.d3u{w0 u:World}(h:Kept [] w0 u):Pm w0 [] u:=⟨fun p hp=>absurd hp (by simp),h⟩
set_option maxHeartbeats 6400000 in
theorem b8x{Z s7 s8 K7 K8 S8:List UInt8}{k1 k2 S2 V:Nat→List UInt8}{S1:Nat→Int→List UInt8}{ks:Nat→List (List UInt8)}{ow:Nat→Bool}(n a b:Int)(w:World)
 (hzl:Z.length=32) (l1:∀v:Nat,1≤v→v≤8→(k1 v).length=32) (l2:∀v:Nat,1≤v→v≤8→(k2 v).length=32) (h7:s7.length=32) (h8:s8.length=32)
 (L1:∀v:Nat,1≤v→v≤8→∀wv,UpL K7 (k1 v) (S1 v wv)) (L2:∀v:Nat,1≤v→v≤8→UpL K7 (k2 v) (S2 v)) (L8:UpL K8 Z S8) (hV:∀v,(V v).length=32)
 (hk0:ks 0= []) (hks:∀j,ks (j + 1)=ks j ++ [k2 (j + 1)]) (hkf:∀j,((ks j).flatMap bv).length=j * 32)
 (e7:Value.agg ((bv Z).set 0 (.int .u8 7)).toArray=ab s7) (e8:Value.agg ((bv Z).set 0 (.int .u8 8)).toArray=ab s8)
 (e1:∀v:Nat,1≤v→v≤8→Value.agg ((bv Z).set 0 (.int .u8 (v:Int))).toArray=ab (k1 v))
 (e2:∀v:Nat,1≤v→v≤8→Value.agg (((bv Z).set 0 (.int .u8 (v:Int))).set 1 (.int .u8 (b % 256))).toArray=ab (k2 v)) (l0:Value.agg #[.int .u8 0,.int .u8 0,.int .u8 0,.int .u8 0,.int .u8 0,.int .u8 0,.int .u8 0,.int .u8 0,.int .u8 0,.int .u8 0,.int .u8 0,.int .u8 0,.int .u8 0,.int .u8 0,.int .u8 0,.int .u8 0,.int .u8 0,.int .u8 0,.int .u8 0,.int .u8 0,.int .u8 0,.int .u8 0,.int .u8 0,.int .u8 0,.int .u8 0,.int .u8 0,.int .u8 0,.int .u8 0,.int .u8 0,.int .u8 0,.int .u8 0,.int .u8 0]=ab Z)
 (cm1:∀v:Nat,1≤v→v≤8→∀wv u,Calls Try.prog 24 #[ab s7,.int .i64 wv,ab (k1 v)] u fun e w'=>e= .returned (b0x K7 wv (k1 v) (S1 v wv))∧Kept [] u w')
 (cm2:∀v:Nat,1≤v→v≤8→∀u,Calls Try.prog 24 #[ab s7,.int .i64 (v:Int),ab (k2 v)] u fun e w'=>e= .returned (b0x K7 v (k2 v) (S2 v))∧Kept [] u w')
 (cm8:∀u,Calls Try.prog 24 #[ab s8,.int .i64 1,ab Z] u fun e w'=>e= .returned (b0x K8 1 Z S8)∧Kept [] u w')
 (cn1:∀v:Nat,1≤v→v≤8→∀wv u x,Rd u 32 x (v - 1) ((ks (v - 1)).flatMap bv)→Calls Try.prog 25 #[x,Value.agg (a2o K7 wv (k1 v) (S1 v wv)).toArray] u fun e w'=>∃v' c,e= .returned (.tuple #[v',.int .i64 c])∧Kept [] u w'∧(c=0↔wv=v))
 (cn8:∀v:Nat,1≤v→v≤8→∀u x,Rd u 32 x (v - 1) ((ks (v - 1)).flatMap bv)→Calls Try.prog 25 #[x,Value.agg (a2o K8 v (k2 v) (S2 v)).toArray] u fun e w'=>∃v' c,e= .returned (.tuple #[v',.int .i64 c])∧Kept [] u w'∧(c=110∨(c≠110∧ow v=true)))
 (cn2:∀v:Nat,1≤v→v≤8→∀u x,Rd u 32 x (v - 1) ((ks (v - 1)).flatMap bv)→Calls Try.prog 25 #[x,Value.agg (a2o K7 v (k2 v) (S2 v)).toArray] u fun e w'=>∃v',e= .returned (.tuple #[v',.int .i64 0])∧Kept [] u w'∧Rd w' 32 v' v ((ks v).flatMap bv))
 (cv:∀v:Nat,v≤8→∀u x,Rd u 32 x v ((ks v).flatMap bv)→Calls Try.prog 27 #[x] u fun e w'=>e= .returned (ab (V v))∧Kept [] u w')
 (cr:∀v:Nat,v≤8→∀u x,Rd u 32 x v ((ks v).flatMap bv)→Calls Try.prog 28 #[x] u fun e w'=>e= .returned (ab (V v))∧Kept [] u w')
 (cb:∀v:Nat,1≤v→v≤8→∀u,Calls Try.prog 29 #[.int .i64 (v:Int),ab (k2 v)] u fun e w'=>∃v',e= .returned v'∧a4a (a5a v (k2 v)) v' w'∧Kept [] u w')
 (co:∀v:Nat,1≤v→v≤8→∀u x,a4a (a5a v (k2 v)) x u→Calls Try.prog 16 #[ab K8,.int .u8 1,x,ab (S2 v)] u fun e w'=>e= .returned (.bool (ow v))∧Kept [] u w') :
 Calls Try.prog 6 #[.int .i64 n,.int .i64 a,.int .i64 b] w fun e w'=>e= .returned (.bool true)∧Kept [] w w':=by
 have c1:=hjd b1e
 obtain⟨kk,hkk,hk8⟩:=e0j n
 have hw1:wrap64 (1 + (kk:Int))=(kk:Int) + 1:=by rw [IntWalk.wrap64_in _ (by omega)];omega
 have hzn:¬Z= []:=by
  intro h
  rw [h]at hzl
  cases hzl
 have hz:=hjd (a2w (ver:=0) (show UpL (a0j 32) (a0j 32) (a0j 64)from⟨rfl,rfl,rfl⟩))
 replace hk8:=hjd hk8
 replace l1:=hjd l1
 replace l2:=hjd l2
 replace h7:=hjd h7
 replace h8:=hjd h8
 replace L1:=hjd L1
 replace L2:=hjd L2
 replace L8:=hjd L8
 replace hV:=hjd hV
 replace hk0:=hjd hk0
 replace hks:=hjd hks
 replace hkf:=hjd hkf
 replace e1:=hjd e1
 replace e2:=hjd e2
 replace cm1:=hjd cm1
 replace cm2:=hjd cm2
 replace cm8:=hjd cm8
 replace cn1:=hjd cn1
 replace cn8:=hjd cn8
 replace cn2:=hjd cn2
 replace cv:=hjd cv
 replace cr:=hjd cr
 replace cb:=hjd cb
 replace co:=hjd co
 go_enter Try.func6,Try.ntmps6
 go_wp2_with (first
  | (go_at_call 23;(with_reducible refine(c1.out _).mono ?_);rintro e v20 ⟨rfl,k20⟩;replace k20:=hjd k20))
 rw [hw1]
 replace hkk:=hjd hkk
 replace hw1:=hjd hw1
 go_loopg [8,9] (kk + 1) (fun f x8 x9 wk=>∃v:Nat,1≤v∧f + v=kk + 2∧x9= .int .i64 (v:Int)∧Hid (Rd wk 32 x8 (v - 1) ((ks (v - 1)).flatMap bv))∧Hid (Kept [] w wk))
 case atStart=>exact⟨1,Nat.le_refl _,by omega,rfl,hjd (by have:=hk0.out;simp [this];exact Rd.nil _ _),k20⟩
 case round=>
  obtain⟨v,h1,hf,rfl,hr,hwk⟩:=hrel
  by_cases hlt:v≤kk + 1
  ·have h8:=hjd (show v≤8 by have:=hk8.out;omega)
   have hle:(v:Int)≤(kk:Int) + 1:=by omega
   have ew:IntKind.u8.wrap (v:Int)=(v:Int):=by
    have:=h8.out
    show(v:Int) % 256=v
    omega
   have i1:=e1.out v h1 h8.out
   have i2:=e2.out v h1 h8.out
   go_wp2_with (first
    | ((with_reducible refine a0l 40 ?_);(refine a9b (o:=⟨some 40,_,_,_,_,_⟩) rfl intsT rfl rfl rfl rfl rfl rfl rfl ?_);intro g40 w40 m40
       have B40:=hjd m40.blk
       have L40:=hjd (Nat.le_trans hwk.out.size m40.le)
       replace hwk:=hjd (hwk.out.a0f m40.kept)
       replace hr:=hjd (hr.out.a0q m40.kept)
       clear m40))
   go_loopg [42] 3 (fun f x42 wk=>∃j:Nat,j≤3∧f + j=3∧x42= .int .i64 (j:Int)∧Hid (Kept [] w40 wk))
   case atStart=>exact⟨0,by omega,by omega,rfl,hjd (Kept.refl _ _)⟩
   case round=>
    obtain⟨j,hj3,hfj,rfl,hin⟩:=hrel
    by_cases hjl:j < 3
    ·obtain⟨wv,hwv⟩:∃wv,wr.cell? ⟨g40,j,none⟩=some (.int .i64 wv):=by
      have B:=B40.out.kept hin.out (by simp)
      obtain rfl | rfl | rfl:j=0∨j=1∨j=2:=by omega
      ·exact⟨_,B.cell 0⟩
      ·exact⟨_,B.cell 1⟩
      ·exact⟨_,B.cell 2⟩
     have hrj:=hjd (hr.out.a0q hin.out)
     go_upto_region 12 with(first
      | ((with_reducible refine a0l 44 ?_);refine a6v (o:=⟨some 44,_,_,_,_,_⟩) intsT rfl (.tmp 40) (.tmp 42) rfl rfl rfl hjl ?_)
      | (go_at_call 24;(with_reducible refine(cm1.out v h1 h8.out _ _).mono ?_);rintro e v53 ⟨rfl,k53⟩;replace hin:=hjd (hin.out.a0f k53);replace hrj:=hjd (hrj.out.a0q k53);clear k53)
      | (go_at_call 25;(with_reducible refine(cn1.out v h1 h8.out _ _ _ hrj.out).mono ?_);rintro e v54 ⟨x54,c54,rfl,k54,hx⟩;replace hin:=hjd (hin.out.a0f k54);clear k54
         have hX:=hjd hx
         clear hx))
     by_cases hq:wv=v
     ·obtain rfl:c54=0:=hX.out.2 hq
      subst hq
      clear hX
      go_wp2_with fail
      go_roundg (3 - (j + 1))
      case measure=>omega
      case rel=>exact⟨j + 1,by omega,by omega,by go_num,hin⟩
     ·have hc:¬c54=0:=fun h=>hq (hX.out.1 h)
      have b1:(c54 == 0)=false:=by simpa using hc
      have b2:(wv == (v:Int))=false:=by simpa using hq
      clear hX
      go_wp2_with fail
      go_roundg (3 - (j + 1))
      case measure=>omega
      case rel=>exact⟨j + 1,by omega,by omega,by go_num,hin⟩
    ·obtain rfl:j=3:=by omega
     replace hwk:=hjd (hwk.out.a0f hin.out)
     replace hr:=hjd (hr.out.a0q hin.out)
     clear hin B40 hfj hj3 hjl
     have t:=hjd (Pm.d3u hwk.out)
     have fq:=e1s 1 L8.out
     have z2:=hjd (a2w (ver:=v) (L2.out v h1 h8.out))
     have ho2:=hjd (b4e (id:=K7) (key:=k2 v) (sig:=S2 v) (ver:=v))
     have z3:=hjd (a2w (ver:=v) (show UpL K8 (k2 v) (S2 v)from⟨L8.out.id,(L2.out v h1 h8.out).key,(L2.out v h1 h8.out).sig⟩))
     go_wp2_with (first
      | (go_at_call 24;(with_reducible refine(cm2.out v h1 h8.out _).mono ?_);rintro e v71 ⟨rfl,k71⟩;replace t:=hjd (t.out.kept k71);replace hr:=hjd (hr.out.a0q k71);clear k71)
      | ((with_reducible refine a0l 14 ?_);(refine a0g (o:=⟨some 14,_,_,_,_,_⟩) rfl rfl a8r ?_);intro g14 w14 m14
         refine a0b (cs:=(a2o K7 v (k2 v) (S2 v)).toArray) (o:=⟨none,Op.store 44 (.tmp 14) (.tmp 71),_,_,_,_⟩) b7n rfl (.tmp 14) (.tmp 71) rfl rfl rfl m14.blk (List.size_toArray.trans hz.out) (List.size_toArray.trans z2.out) ho2.out ?_
         intro wb14 b14 k14
         replace hr:=hjd (hr.out.a0q (m14.kept.a0p k14 m14.le))
         replace t:=hjd (t.out.put m14 b14 k14)
         clear m14 b14 k14)
      | ((with_reducible refine a0l 72 ?_);refine a0d (cs:=(a2o K7 v (k2 v) (S2 v)).toArray) (o:=⟨some 72,_,_,_,_,_⟩) b7n rfl (.tmp 14) rfl rfl (t.out.s (g14,44,(a2o K7 v (k2 v) (S2 v)).toArray) (by simp)) (List.size_toArray.trans z2.out) ?_)
      | ((with_reducible refine a0l 15 ?_);(refine a0g (o:=⟨some 15,_,_,_,_,_⟩) rfl rfl a8r ?_);intro g15 w15 m15
         refine a0b (cs:=(a2o K7 v (k2 v) (S2 v)).toArray) (o:=⟨none,Op.store 44 (.tmp 15) (.tmp 72),_,_,_,_⟩) b7n rfl (.tmp 15) (.tmp 72) rfl rfl rfl m15.blk (List.size_toArray.trans hz.out) (List.size_toArray.trans z2.out) ho2.out ?_
         intro wb15 b15 k15
         have N15:=hjd (m15.ne ((t.out.s (g14,44,(a2o K7 v (k2 v) (S2 v)).toArray) (by simp)).lt))
         have L15:=hjd (Nat.le_trans t.out.k.size m15.le)
         have hr0:=hr
         have K15:=hjd (m15.kept.a0p k15 m15.le)
         have M15:=hjd m15.le
         replace hr:=hjd (hr.out.a0q K15.out)
         replace t:=hjd (t.out.put m15 b15 k15)
         clear m15 b15 k15)
      | (go_at_call 24;(with_reducible refine(cm8.out _).mono ?_);rintro e v75 ⟨rfl,k75⟩;replace t:=hjd (t.out.kept k75);replace hr:=hjd (hr.out.a0q k75);replace K15:=hjd (K15.out.a0f k75);clear k75)
      | (refine c6q (o:=⟨none,Op.store 26 (.tmp 77) (.tmp 76),_,_,_,_⟩) a1o.row rfl (.tmp 77) (.tmp 76) rfl rfl (pre:=[]) (mid:=bv K7) (post:=.int .i64 (v:Int) :: (bv (k2 v) ++ bv (S2 v))) rfl (t.out.s (g15,44,(a2o K7 v (k2 v) (S2 v)).toArray) (by simp)) rfl (by simpa using(L2.out v h1 h8.out).id) (by simpa using L8.out.id) (a2r _) ?_
         intro wc bc0 kc
         have bc:Blk wc g15 44 (a2o K8 v (k2 v) (S2 v)).toArray:=bc0
         replace hr:=hjd (hr0.out.a0q (K15.out.fresh kc (by simpa using M15.out)))
         replace t:=hjd (t.out.again L15.out (fun p hp=>by rw [List.mem_singleton.1 hp];exact N15.out) bc kc)
         clear bc bc0 kc hr0 K15 M15)
      | ((with_reducible refine a0l 80 ?_);refine a0d (cs:=(a2o K8 v (k2 v) (S2 v)).toArray) (o:=⟨some 80,_,_,_,_,_⟩) b7n rfl (.tmp 15) rfl rfl (t.out.s (g15,44,(a2o K8 v (k2 v) (S2 v)).toArray) (by simp)) (List.size_toArray.trans z3.out) ?_)
      | (go_at_call 25;(with_reducible refine(cn8.out v h1 h8.out _ _ hr.out).mono ?_);rintro e v81 ⟨x81,c81,rfl,kk1,hx⟩;have X:=hjd hx;replace t:=hjd (t.out.kept kk1);replace hr:=hjd (hr.out.a0q kk1);clear kk1 hx))
     clear fq
     have kd:=(Kept.refl [] v81).drew
     replace t:=hjd (t.out.kept kd)
     replace hr:=hjd (hr.out.a0q kd)
     have B:=hjd (t.out.s (g15,44,(a2o K8 v (k2 v) (S2 v)).toArray) (by simp))
     clear kd
     have L3:=hjd (show UpL K8 (k2 v) (S2 v)from⟨L8.out.id,(L2.out v h1 h8.out).key,(L2.out v h1 h8.out).sig⟩)
     have qv:=a5x (b:=true) (beq_self_eq_true (V v)) (hV.out v) (hV.out v)
     rcases X.out with rfl | ⟨hne,how⟩
     ·refine Txt.a1e [4,6,8,11] (fun u=>Blk u g15 44 (a2o K8 v (k2 v) (S2 v)).toArray) [[_,_,_,_,_,_,_,_,_,_],[_,_,_],[_,_]] (by kernel_rfl) (by kernel_rfl) rfl B.out (Txt.a0e ?_)
      go_wp2_with fail
      refine And.intro rfl (And.intro B.out ?_)
      unfold Txt.a3r
      go_wp2_with fail
      refine And.intro rfl (And.intro B.out ?_)
      unfold Txt.a3r
      go_wp2_with fail
      refine And.intro rfl (And.intro B.out (Txt.a0x ⟨⟨by kernel_rfl,?_⟩,?_⟩))
      ·intro j hj o ho hw
       have hj2:j=4∨j=6∨j=8∨j=11:=by simpa using hj
       rcases hj2 with rfl | rfl | rfl | rfl <;> cases ho
       all_goals exact absurd (hw:Region.wanted _ _=true) (by rw [show Region.wanted _ _=false from by kernel_rfl];simp)
      go_wp2_with (first
       | ((with_reducible refine a0l 101 ?_);refine a0d (cs:=(a2o K7 v (k2 v) (S2 v)).toArray) (o:=⟨some 101,_,_,_,_,_⟩) b7n rfl (.tmp 14) rfl rfl (t.out.s (g14,44,(a2o K7 v (k2 v) (S2 v)).toArray) (by simp)) (List.size_toArray.trans z2.out) ?_)
       | (go_at_call 25;(with_reducible refine(cn2.out v h1 h8.out _ _ hr.out).mono ?_);rintro e v102 ⟨x102,rfl,kk1,hx⟩
          have R:=hjd hx
          obtain⟨RA,rc,rfl,_⟩:=hx
          replace t:=hjd (t.out.kept kk1);clear kk1)
       | (go_at_call 27;(with_reducible refine(cv.out v h8.out _ _ R.out).mono ?_);rintro e v115 ⟨rfl,kk1⟩;replace t:=hjd (t.out.kept kk1);replace R:=hjd (R.out.a0q kk1);clear kk1)
       | (go_at_call 28;(with_reducible refine(cr.out v h8.out _ _ R.out).mono ?_);rintro e v117 ⟨rfl,kk1⟩;replace t:=hjd (t.out.kept kk1);replace R:=hjd (R.out.a0q kk1);clear kk1))
      go_roundg (kk + 1 - v)
      case measure=>omega
      case rel=>
       have hv8:=h8.out
       exact⟨v + 1,by omega,by omega,by rw [IntWalk.wrap64_in _ (by omega)];rfl,by rw [Nat.add_sub_cancel];exact R,hjd t.out.k⟩
     ·have nb:(c81 !=110)=true:=by simpa using hne
      have co2:=hjd (co.out v h1 h8.out)
      rw [how]at co2
      have nb2:¬c81=110:=hne
      have q1:=a2j L3.out B.out
      clear hne how
      refine Txt.a1e [4,6,8,11] (fun u=>Blk u g15 44 (a2o K8 v (k2 v) (S2 v)).toArray) [[_,_,_,_,_,_,_,_,_,_],[_,_,_],[_,_]] (by kernel_rfl) (by kernel_rfl) rfl B.out (Txt.a0e ?_)
      go_wp2_with (first
       | ((with_reducible refine a0l 88 ?_);refine a0r (o:=⟨some 88,_,_,_,_,_⟩) (cs:=bv K8) a1o.row rfl (.tmp 87) rfl rfl (a5e B.out) (by simpa using L3.out.id) ?_)
       | ((with_reducible refine a0l 92 ?_);refine a0r (o:=⟨some 92,_,_,_,_,_⟩) (cs:=bv (k2 v)) a1o.row rfl (.tmp 91) rfl rfl (a3g L3.out B.out) (by simpa using L3.out.key) ?_)
       | (go_at_call 29;(with_reducible refine(cb.out v h1 h8.out _).mono ?_);rintro e v93 ⟨x93,rfl,h93,k93⟩
          have R93:=hjd h93
          obtain⟨NA,nc,rfl,_⟩:=h93
          replace t:=hjd (t.out.kept k93)
          replace hr:=hjd (hr.out.a0q k93)
          replace B:=hjd (B.out.kept k93 (by simp))
          clear k93))
      refine⟨rfl,B.out,Txt.a0e ?_⟩
      go_wp2_with (first
       | ((with_reducible refine a0l 95 ?_);refine a0r (o:=⟨some 95,_,_,_,_,_⟩) (cs:=bv (S2 v)) Q.b1y rfl (.tmp 94) rfl rfl (a3x L3.out B.out) (by simpa using L3.out.sig) ?_)
       | (go_at_call 16;(with_reducible refine(co2.out _ _ R93.out).mono ?_);rintro e v96 ⟨rfl,k96⟩
          replace t:=hjd (t.out.kept k96)
          replace hr:=hjd (hr.out.a0q k96)
          replace B:=hjd (B.out.kept k96 (by simp))
          clear k96))
      refine⟨rfl,B.out,Txt.a0e ?_⟩
      go_wp2_with fail
      refine⟨rfl,B.out,Txt.a0x ⟨⟨by kernel_rfl,?_⟩,?_⟩⟩
      ·intro j hj o ho hw
       have hj2:j=4∨j=6∨j=8∨j=11:=by simpa using hj
       rcases hj2 with rfl | rfl | rfl | rfl <;> cases ho
       ·exact⟨88,rfl,fun u hu=>a1c a1o.row (.tmp 87) rfl rfl (a5e hu) (by simpa using L3.out.id)⟩
       ·exact⟨90,rfl,fun u hu=>a2e (.tmp 89) rfl (fun w=>by kernel_rfl) rfl (a2j L3.out hu)⟩
       ·exact⟨92,rfl,fun u hu=>a1c a1o.row (.tmp 91) rfl rfl (a3g L3.out hu) (by simpa using L3.out.key)⟩
       ·exact⟨95,rfl,fun u hu=>a1c Q.b1y (.tmp 94) rfl rfl (a3x L3.out hu) (by simpa using L3.out.sig)⟩
      clear q1
      go_wp2_with (first
       | ((with_reducible refine a0l 101 ?_);refine a0d (cs:=(a2o K7 v (k2 v) (S2 v)).toArray) (o:=⟨some 101,_,_,_,_,_⟩) b7n rfl (.tmp 14) rfl rfl (t.out.s (g14,44,(a2o K7 v (k2 v) (S2 v)).toArray) (by simp)) (List.size_toArray.trans z2.out) ?_)
       | (go_at_call 25;(with_reducible refine(cn2.out v h1 h8.out _ _ hr.out).mono ?_);rintro e v102 ⟨x102,rfl,kk1,hx⟩
          have R:=hjd hx
          obtain⟨RA,rc,rfl,_⟩:=hx
          replace t:=hjd (t.out.kept kk1);clear kk1)
       | (go_at_call 27;(with_reducible refine(cv.out v h8.out _ _ R.out).mono ?_);rintro e v115 ⟨rfl,kk1⟩;replace t:=hjd (t.out.kept kk1);replace R:=hjd (R.out.a0q kk1);clear kk1)
       | (go_at_call 28;(with_reducible refine(cr.out v h8.out _ _ R.out).mono ?_);rintro e v117 ⟨rfl,kk1⟩;replace t:=hjd (t.out.kept kk1);replace R:=hjd (R.out.a0q kk1);clear kk1))
      go_roundg (kk + 1 - v)
      case measure=>omega
      case rel=>
       have hv8:=h8.out
       exact⟨v + 1,by omega,by omega,by rw [IntWalk.wrap64_in _ (by omega)];rfl,by rw [Nat.add_sub_cancel];exact R,hjd t.out.k⟩
  ·obtain rfl:v=kk + 2:=by omega
   have R:=hjd (show Rd wr 32 u8 (kk + 1) ((ks (kk + 1)).flatMap bv)from hr.out)
   have KW:=hwk
   have hk:=hk8.out
   have i2:=e2.out (kk + 1) (by omega) (by omega)
   have hc:((kk + 1:Nat):Int)=(kk:Int) + 1:=by omega
   rw [hc]at i2
   have ew:((kk:Int) + 1) % 256=(kk:Int) + 1:=by omega
   have ew2:wrap64 ((kk:Int) + 1 - 1)=(kk:Int):=by rw [IntWalk.wrap64_in _ (by omega)];omega
   have hle:¬((kk:Int) + 2≤(kk:Int) + 1):=by omega
   have lk:=hjd (l2.out (kk + 1) (by omega) (by omega))
   have qk:=a5x (b:=true) (beq_self_eq_true (k2 (kk + 1))) lk.out lk.out
   obtain⟨b8,o8,c8,rfl,_⟩:=Rd.at_ R.out (by omega)
   have hp:(ks (kk + 1)).flatMap bv=(ks kk).flatMap bv ++ (bv (k2 (kk + 1)) ++ []):=by rw [hks.out kk];simp
   have hpl:((ks kk).flatMap bv).length=kk * 32:=hkf.out kk
   have hR:=hjd (Rd.elem (i:=kk) R.out hp hpl (by omega))
   replace hp:=hjd hp
   replace hpl:=hjd hpl
   clear hr hwk hf h1
   go_wp2_with (first
    | ((with_reducible refine a0l 129 ?_);refine a6v (i:=kk) (n:=kk + 1) (o:=⟨some 129,_,_,_,_,_⟩) a7l rfl (.tmp 126) (.tmp 128) rfl rfl rfl (by omega) ?_)
    | ((with_reducible refine a0l 130 ?_);refine a0r (o:=⟨some 130,_,_,_,_,_⟩) (cs:=bv (k2 (kk + 1))) a1o.row rfl (.tmp 129) rfl rfl hR.out (by simpa using lk.out) ?_))
   go_ret
   exact⟨rfl,KW.out⟩
end Go.Proofs.Ytdbngnlpafcogaa
namespace Go.Proofs.Ytdbngnlpafcogaa
open Go.RowKit Go.Mem Go.Txt
theorem hlit7:Value.agg ((bv (a0j 32)).set 0 (.int .u8 7)).toArray=ab (le 7 32):=by kernel_rfl
theorem hlit8:Value.agg ((bv (a0j 32)).set 0 (.int .u8 8)).toArray=ab (le 8 32):=by kernel_rfl
theorem lit1_v(x:UInt8):Value.agg ((bv (a0j 32)).set 0 (.int .u8 (x.toNat:Int))).toArray=ab (x :: a0j 31):=by rfl
theorem lit2_v(x y:UInt8):Value.agg (((bv (a0j 32)).set 0 (.int .u8 (x.toNat:Int))).set 1 (.int .u8 (y.toNat:Int))).toArray=ab (x :: y :: a0j 30):=by rfl
def c0n(y:UInt8)(v:Nat):List UInt8:=UInt8.ofNat v :: y :: a0j 30
def b0r(y:UInt8)(j:Nat):List (List UInt8):=(List.range j).map fun i=>c0n y (i + 1)
theorem b1k(y:UInt8)(j:Nat):b0r y (j + 1)=b0r y j ++ [c0n y (j + 1)]:=by
 unfold b0r
 rw [List.range_succ,List.map_append]
 rfl
theorem a4l(y:UInt8)(j:Nat):(b0r y j).length=j:=by simp [b0r]
theorem b8n(y:UInt8)(j:Nat):∀x∈b0r y j,x.length=32:=by
 intro x hx
 obtain⟨i,_,rfl⟩:=List.mem_map.1 hx
 rfl
theorem b5w(y:UInt8):∀j,((b0r y j).flatMap bv).length=j * 32
 | 0=>rfl
 | j + 1=>by
   rw [b1k,List.flatMap_append,List.length_append,b5w y j]
   have:([c0n y (j + 1)].flatMap bv).length=32:=rfl
   rw [this]
   omega
theorem c0u(n a b:Int)(w:World)(_:(Lit.int .i64 n).wf=true)(_:(Lit.int .i64 a).wf=true)(_:(Lit.int .i64 b).wf=true) :
 Calls Try.prog 6 #[.int .i64 n,.int .i64 a,.int .i64 b] w fun e w'=>e= .returned (.bool true)∧Kept [] w w':=by
 have hs7:=a0u 7 32
 have hs8:=a0u 8 32
 obtain⟨y,hy⟩:∃y:UInt8,((y.toNat:Nat):Int)=b % 256:=⟨UInt8.ofNat (b % 256).toNat,by rw [UInt8.toNat_ofNat'];omega⟩
 have h1:∀v:Nat,(UInt8.ofNat v :: a0j 31).length=32:=fun _=>rfl
 have h2:∀v:Nat,(c0n y v).length=32:=fun _=>rfl
 have L1:∀(v:Nat) (wv:Int),UpL (idU (le 7 32)) (UInt8.ofNat v :: a0j 31) (c0q (le 7 32) wv (UInt8.ofNat v :: a0j 31)):=fun v wv=>a6q (le 7 32) wv (h1 v)
 have L2:∀v:Nat,UpL (idU (le 7 32)) (c0n y v) (c0q (le 7 32) v (c0n y v)):=fun v=>a6q (le 7 32) v (h2 v)
 have L3:∀v:Nat,UpL (idU (le 8 32)) (c0n y v) (c0q (le 7 32) v (c0n y v)):=fun v=>⟨(a6q (le 8 32) v (h2 v)).id,h2 v,(L2 v).sig⟩
 have hv:∀v:Nat,1≤v→v≤8→(UInt8.ofNat v).toNat=v:=fun v _ h8=>by rw [UInt8.toNat_ofNat'];omega
 have rd:∀{v:Nat} {u:World} {x:Value},Rd u 32 x v ((b0r y v).flatMap bv)→Rd u 32 x (b0r y v).length ((b0r y v).flatMap bv):=fun {v u x} h=>by rw [a4l];exact h
 refine b8x (Z:=a0j 32) (s7:=le 7 32) (s8:=le 8 32) (K7:=idU (le 7 32)) (K8:=idU (le 8 32)) (S8:=c0q (le 8 32) 1 (a0j 32)) (k1:=fun v=>UInt8.ofNat v :: a0j 31) (k2:=c0n y) (S2:=fun v=>c0q (le 7 32) v (c0n y v))
  (V:=fun v=>b4q (b0r y v)) (S1:=fun v wv=>c0q (le 7 32) wv (UInt8.ofNat v :: a0j 31)) (ks:=b0r y) (ow:=fun v=>okV (idU (le 8 32)) (c0q (le 7 32) v (c0n y v)) (a9j 1 (a5a v (c0n y v)))) n a b w
  rfl (fun v _ _=>h1 v) (fun v _ _=>h2 v) hs7 hs8 (fun v _ _ wv=>L1 v wv) (fun v _ _=>L2 v) (a6q (le 8 32) 1 rfl) (fun v=>a3e _) rfl (b1k y) (b5w y) hlit7 hlit8 ?_ ?_ b6e
  (fun v _ _ wv u=>a9u wv hs7 (h1 v) u) (fun v _ _ u=>a9u v hs7 (h2 v) u) (fun u=>a9u 1 hs8 rfl u) ?_ ?_ ?_ ?_ ?_ (fun v _ _ u=>b3p v (h2 v) u) ?_
 ·intro v a1 a8
  have:=lit1_v (UInt8.ofNat v)
  rwa [hv v a1 a8]at this
 ·intro v a1 a8
  have:=lit2_v (UInt8.ofNat v) y
  rwa [hv v a1 a8,hy]at this
 ·intro v a1 a8 wv u x hx
  refine(b2q wv x u (rd hx) (by rw [a4l];omega) (L1 v wv)).mono ?_
  rintro e w' ⟨v',c,rfl,hk,h⟩
  refine⟨v',c,rfl,hk,?_⟩
  rw [c0w,a4l]at h
  rcases h with⟨p,rfl,_⟩ | ⟨p,q,rfl,_⟩ | ⟨p,q,rfl,_⟩
  ·have:=of_decide_eq_false p
   constructor
   ·intro h;cases h
   ·intro h;exfalso;omega
  ·constructor
   ·intro h;cases h
   ·intro h;exfalso;omega
  ·exact⟨fun _=>by omega,fun _=>rfl⟩
 ·intro v a1 a8 u x hx
  refine(b2q v x u (rd hx) (by rw [a4l];omega) (L3 v)).mono ?_
  rintro e w' ⟨v',c,rfl,hk,h⟩
  refine⟨v',c,rfl,hk,?_⟩
  have key:okU (idU (le 8 32)) v (c0n y v) (c0q (le 7 32) v (c0n y v))=true→okV (idU (le 8 32)) (c0q (le 7 32) v (c0n y v)) (a9j 1 (a5a v (c0n y v)))=true:=fun h=>by
   unfold okU at h
   rw [Bool.and_eq_true]at h
   exact h.2
  rcases h with⟨_,rfl,_⟩ | ⟨p,_,rfl,_⟩ | ⟨p,_,rfl,_⟩
  ·exact .inl rfl
  ·exact .inr ⟨by decide,key p⟩
  ·exact .inr ⟨by decide,key p⟩
 ·intro v a1 a8 u x hx
  refine(b2q v x u (rd hx) (by rw [a4l];omega) (L2 v)).mono ?_
  rintro e w' ⟨v',c,rfl,hk,h⟩
  rw [c0w,a4l]at h
  rcases h with⟨p,_,_⟩ | ⟨p,q,_,_⟩ | ⟨p,q,rfl,ho,_⟩
  ·have:=of_decide_eq_false p
   exfalso
   omega
  ·exfalso
   omega
  ·refine⟨v',rfl,hk,?_⟩
   obtain⟨m,rfl⟩:∃m,v=m + 1:=⟨v - 1,by omega⟩
   rw [Nat.add_sub_cancel,←b1k]at ho
   have:=Rd.a4x ho
   rwa [a4l]at this
 ·intro v _ u x hx
  exact a5i x (b0r y v) u (rd hx) (b8n y v) (by rw [a4l];omega)
 ·intro v _ u x hx
  exact a6g x (b0r y v) u (rd hx) (b8n y v) (by rw [a4l];omega)
 ·intro v a1 a8 u x hx
  exact a9t (key:=idU (le 8 32)) 1 (L3 v).id (L3 v).sig x _ u hx (by rw [a9w (h2 v)];decide)
end Go.Proofs.Ytdbngnlpafcogaa
