/-
  The document's curve: its functions.
  The document's curve: which bytes are points; the base point.
-/
import Derived.Test.YtdbngnlpafcogaaGreatZrRr5
set_option maxRecDepth 100000
namespace Go.Proofs.YtdbngnlpafcogaaGreat
open Go.RowKit Go.Mem Go.Txt
theorem flat8(w:World):(isAgg 5).run Tryz.prog w= .ok false w:=by kernel_rfl
theorem d7n(bs:List UInt8)(h:bs.length=32):(bs[31]'(by omega)).toNat=leV bs / 2 ^ 248 % 256:=c1k bs 31 (by omega)
set_option maxHeartbeats 1600000 in
theorem b5b(bs:List UInt8)(hlen:bs.length=32)(w:World) :
 Calls Tryz.prog 121 #[ab bs] w fun e w'=>e= .returned (.bool (c8c bs))∧Kept [] w w':=by
 have hV:=b1d bs
 rw [hlen]at hV
 have htop:=d7n bs hlen
 have cD:=hjd (c6m bs hlen)
 have hD:=c5e (leV bs % a2g) (Nat.lt_trans (Nat.mod_lt _ (by decide +kernel)) (by decide +kernel))
 obtain⟨y,hy⟩:∃y,y=leV bs % a2g % PP:=⟨_,rfl⟩
 have cP:=hjd (dr_pk hD hy.symm)
 generalize dgN (leV bs % a2g)=D at *
 have hlh:=hjd hlen
 have hl:=hjd (show(bv bs).length=32 by simp [hlen])
 obtain⟨x,hx⟩:∃x,x=(bs[31]'(by omega)).toNat:=⟨_,rfl⟩
 rw [←hx]at htop
 replace hx:=hjd hx.symm
 obtain⟨r,hr⟩:∃r,r=c8c bs:=⟨_,rfl⟩
 rw [←hr]
 have hle:=a8z bs
 rw [hlen]at hle
 clear hD
 by_cases hb:x < 128
 ·have hQ:=hjd (show(le y 32 == bs)=r from by
   have hlow:leV bs % a2g=leV bs:=by
    apply Nat.mod_eq_of_lt
    unfold a2g
    have:(256:Nat) ^ 32=115792089237316195423570985008687907853269984665640564039457584007913129639936:=by decide +kernel
    omega
   rw [hlow]at hy
   rw [←hle,b7t _ _ (Nat.lt_trans (hy▸Nat.mod_lt _ a2x) (by decide +kernel)) (by simpa using hV),hr,c8c,hy]
   rw [decide_eq_decide]
   have:=Nat.mod_lt (leV bs) a2x
   exact⟨fun h=>by omega,fun h=>Nat.mod_eq_of_lt h⟩)
  have hbi:((x:Nat):Int) < 128:=by omega
  clear hV htop hy hle
  replace hr:=hjd hr
  go_enter Tryz.func121,Tryz.ntmps121
  go_wp2_with ((with_reducible refine a0j (o:=⟨some 1,_,_,_,_,_⟩) (v:=ab bs) rfl (.tmp 0) rfl rfl ?_);intro g1 w1 m1)
  have t:=hjd (show Pm w [(g1,22,(bv bs).toArray)] w1 from(((Pm.none w).kept m1.kept).cons m1.blk))
  clear m1
  have k0:∀W,Calls Tryz.prog 122 #[ab bs] W fun e w'=>e= .returned (nu D)∧Kept [] W w':=cD.out
  replace k0:=hjd k0
  have k1:PkC D y:=cP.out
  replace k1:=hjd k1
  have Q11:((le y 32) == bs)=r:=hQ.out
  have q11:=a9m Q11 (a0o _ _) hlh.out
  replace Q11:=hjd Q11
  refine Txt.a1t [1,4,7,8] (Pm w [(g1,22,(bv bs).toArray)]) [[_,_,_,_,_,_],[_],[_,_,_,_]] (by kernel_rfl) (by kernel_rfl) rfl t.out.drew (Txt.a0h ?_)
  replace t:=hjd t.out.drew
  have cc:=(t.out.s (g1,22,(bv bs).toArray) (by simp)).d4j 31 (by rw [hlh.out];omega)
  rw [hx.out]at cc
  go_wp2_with (first
   | (refine a0q (o:=⟨some 7,_,_,_,_,_⟩) a1x rfl (.tmp 1) rfl rfl (t.out.s (g1,22,(bv bs).toArray) (by simp)) hl.out ?_)
   | (go_at_call 122;(with_reducible refine(k0.out _).mono ?_);rintro e v ⟨rfl,kk⟩;have t:=hjd (t.out.kept kk);clear kk))
  refine⟨rfl,t.out,Txt.a0h ?_⟩
  go_wp2_with (first
   | (go_at_call 107;(with_reducible refine(k1.out _).mono ?_);rintro e v ⟨rfl,kk⟩;have t:=hjd (t.out.kept kk);clear kk))
  refine⟨rfl,t.out,Txt.a0h ?_⟩
  go_wp2_with (first
   | (refine a0q (o:=⟨some 10,_,_,_,_,_⟩) a1x rfl (.tmp 1) rfl rfl (t.out.s (g1,22,(bv bs).toArray) (by simp)) hl.out ?_))
  refine⟨rfl,t.out,Txt.a1m ⟨⟨by kernel_rfl,?_⟩,?_⟩⟩
  ·intro j hj o ho hw
   have hj2:j=1∨j=4∨j=7∨j=8:=by simpa using hj
   rcases hj2 with rfl | rfl | rfl | rfl <;> cases ho
   ·exact⟨4,rfl,fun u hu=>a7v (.tmp 3) rfl flat8 rfl (by have:=(hu.s (g1,22,(bv bs).toArray) (by simp)).d4j 31 (by rw [hlh.out];omega);rw [hx.out]at this;exact this)⟩
   ·exact⟨7,rfl,fun u hu=>a0x a1x.row (.tmp 1) rfl rfl (hu.s (g1,22,(bv bs).toArray) (by simp)) hl.out⟩
   ·exact⟨10,rfl,fun u hu=>a0x a1x.row (.tmp 1) rfl rfl (hu.s (g1,22,(bv bs).toArray) (by simp)) hl.out⟩
   ·exact⟨11,rfl,fun u _=>b3f (.tmp 9) (.tmp 10) rfl rfl rfl Q11.out (a0o _ _) hlh.out⟩
  go_wp2_with fail
  go_ret
  exact⟨rfl,t.out.k⟩
 ·have hrf:r=false:=by
   rw [hr,c8c,decide_eq_false]
   unfold PP
   omega
  subst hrf
  have hbi:¬((x:Nat):Int) < 128:=by omega
  clear hV htop hy hle hr
  go_enter Tryz.func121,Tryz.ntmps121
  go_wp2_with ((with_reducible refine a0j (o:=⟨some 1,_,_,_,_,_⟩) (v:=ab bs) rfl (.tmp 0) rfl rfl ?_);intro g1 w1 m1)
  have t:=hjd (show Pm w [(g1,22,(bv bs).toArray)] w1 from(((Pm.none w).kept m1.kept).cons m1.blk))
  clear m1
  refine Txt.a1t [1,4,7,8] (Pm w [(g1,22,(bv bs).toArray)]) [[_,_,_,_,_,_],[_],[_,_,_,_]] (by kernel_rfl) (by kernel_rfl) rfl t.out.drew (Txt.a0h ?_)
  replace t:=hjd t.out.drew
  have cc:=(t.out.s (g1,22,(bv bs).toArray) (by simp)).d4j 31 (by rw [hlh.out];omega)
  rw [hx.out]at cc
  go_wp2_with fail
  refine⟨rfl,t.out,Txt.a0h ?_⟩
  go_wp2_with fail
  refine⟨rfl,t.out,Txt.a0h ?_⟩
  go_wp2_with fail
  refine⟨rfl,t.out,Txt.a1m ⟨⟨by kernel_rfl,?_⟩,?_⟩⟩
  ·intro j hj o ho hw
   have hj2:j=1∨j=4∨j=7∨j=8:=by simpa using hj
   rcases hj2 with rfl | rfl | rfl | rfl <;> cases ho
   ·exact⟨4,rfl,fun u hu=>a7v (.tmp 3) rfl flat8 rfl (by have:=(hu.s (g1,22,(bv bs).toArray) (by simp)).d4j 31 (by rw [hlh.out];omega);rw [hx.out]at this;exact this)⟩
   ·exact absurd hw (by rw [show Region.wanted _ _=false from by kernel_rfl];simp)
   ·exact absurd hw (by rw [show Region.wanted _ _=false from by kernel_rfl];simp)
   ·exact absurd hw (by rw [show Region.wanted _ _=false from by kernel_rfl];simp)
  go_wp2_with fail
  go_ret
  exact⟨rfl,t.out.k⟩
theorem b8p(x:Ed.Fq):(Ed.mk 0 - x) * Ed.mk 1= -x:=by
 show(0 - x) * 1= -x
 grind
theorem b7g(x:Ed.Fq): -x * -x=x * x:=by grind
theorem b7m{x:Ed.Fq}(h:x.v % 2=1):(-x).v % 2=0:=by
 have hl:=b3q x
 have hp:=d5z
 rw [d1m]
 split <;> omega
def b8s(y x:Ed.Fq):Prop:=x * x * (y * y * Ed.D + Ed.mk 1)=y * y - Ed.mk 1
theorem e1o{dc dy:Nat→Int}{y:Ed.Fq}(hD:Dq 70000 dc Ed.D)(hy:Dq 70000 dy y):(∃x r,RtC dc dy r true∧Dq 70000 r x∧b8s y x∧x.v % 2=0)∨(RtC dc dy zd false∧∀x,¬b8s y x):=by
 by_cases hs0:(rX0 y * rX0 y).v=(rW y).v
 ·have hr:=d4d (Ed.Fq.ext hs0)
  left
  by_cases ho:(rX0 y).v % 2=1
  ·obtain⟨r,c,h⟩:=d6y hD hy hs0 ho
   rw [b8p]at h
   exact⟨_,r,c,h,by unfold b8s;rw [b7g];exact hr,b7m ho⟩
  ·obtain⟨r,c,h⟩:=d7i hD hy hs0 ho
   exact⟨_,r,c,h,hr,by omega⟩
 ·by_cases hs1:(rX1 y * rX1 y).v=(rW y).v
  ·have hr:=d4d (Ed.Fq.ext hs1)
   left
   by_cases ho:(rX1 y).v % 2=1
   ·obtain⟨r,c,h⟩:=d7m hD hy hs0 hs1 ho
    rw [b8p]at h
    exact⟨_,r,c,h,by unfold b8s;rw [b7g];exact hr,b7m ho⟩
   ·obtain⟨r,c,h⟩:=d7j hD hy hs0 hs1 ho
    exact⟨_,r,c,h,hr,by omega⟩
  ·right
   exact⟨root_C hD hy hs0 hs1,fun x h=>(rX_two (c3b h)).elim (fun e=>hs0 (by rw [e])) fun e=>hs1 (by rw [e])⟩
theorem Pm.c6b{w0:World}{L L':List (Nat × TypeId × Array Value)}{u:World}(h:Pm w0 L u)(hs:∀p∈L',p∈L):Pm w0 L' u:=⟨fun p hp=>h.s p (hs p hp),h.k⟩
abbrev RdC(d:Nat→Int)(l:List UInt8)(r:R4)(b:Bool):Prop:=∀W,Calls Tryz.prog 53 #[nu d,ab l] W fun e w'=>e= .returned (.tuple #[r.v,.bool b])∧Kept [] W w'
theorem a6w(X:Nat):((c31 X:Nat):Int).tmod 128=((c31 (X % a2g):Nat):Int):=by
 rw [(a2j X).1,Int.tmod_eq_emod_of_nonneg (by omega)]
 rfl
theorem b0d{X:Nat}{l:List UInt8}(e:l=le (X % a2g) 32):Ed.mk (leV l % a2g)=yOf X:=by
 rw [e,b4l,Nat.mod_mod];rfl
theorem d1h{y x:Ed.Fq}(h:b8s y x):Ed.onC Ed.D x y:=e2m h
theorem c2h(P:Ed.Pt):b8s P.y P.x:=by
 unfold b8s
 have h:=on_x P
 show P.x * P.x * (P.y * P.y * Ed.D + 1)=P.y * P.y - 1
 rw [←h]
 generalize Ed.D=D
 clear h
 grind
theorem c4q{y x z:Ed.Fq}(h:b8s y x)(h2:b8s y z):x=z∨x= -z:=by
 apply d1o
 rw [c3b h,c3b h2]
set_option maxHeartbeats 4000000 in
theorem e4t{dc:Nat→Int}(_:Dq 70000 dc Ed.D){X:Nat}(ho:128≤c31 X)(hg:RgC (le (X % a2g) 32) false):RdC dc (le X 32) rz false:=by
 obtain⟨lx,elx,nlx⟩:∃l,l=le X 32∧l.length=32:=⟨_,rfl,a0o _ _⟩
 obtain⟨lm,elm,nlm⟩:∃l,l=le (X % a2g) 32∧l.length=32:=⟨_,rfl,a0o _ _⟩
 rw [←elm]at hg
 rw [←elx]
 obtain⟨lz,elz,nlz,uz⟩:∃l:List UInt8,l=le 0 32∧l.length=32∧Tryz.prog.built 22 []=some (bv l).toArray:=⟨_,rfl,a0o _ _,b4c⟩
 obtain⟨kc,hkc⟩:∃c,c=c31 X:=⟨_,rfl⟩
 obtain⟨kd,hkd⟩:∃c,c=c31 (X % a2g):=⟨_,rfl⟩
 have gK:d8c lx kc:=by rw [elx,hkc];exact d9u
 have sK:d8u lx lm ((kd:Nat):Int):=by rw [elx,elm,hkd];exact e0v (a2j X).2
 have hrem:=a6w X
 rw [←hkc,←hkd]at hrem
 have hge:(128:Int)≤(kc:Int):=by omega
 have c1:RgC lm false:=hg
 intro w
 replace c1:=hjd c1
 replace gK:=hjd gK
 replace sK:=hjd sK
 replace nlx:=hjd nlx
 replace nlm:=hjd nlm
 replace nlz:=hjd nlz
 replace uz:=hjd uz
 clear ho hg elx elm elz hkc hkd
 go_enter Tryz.func53,Tryz.ntmps53
 have t:=hjd (Pm.none w)
 go_wp2_with (first
  | ((with_reducible refine a0j (o:=⟨some 2,_,_,_,_,_⟩) (v:=nu dc) rfl (.tmp 0) rfl rfl ?_);intro g2 w2 m2;have N2:=hjd (fun p hp=>m2.ne (t.out.s p hp).lt);have L2:=hjd (Nat.le_trans t.out.k.size m2.le);replace t:=hjd ((t.out.kept m2.kept).cons (show Blk w2 g2 29 (iv (fam 16 dc)).toArray from m2.blk));clear m2)
  | ((with_reducible refine a0j (o:=⟨some 3,_,_,_,_,_⟩) (v:=ab lx) rfl (.tmp 1) rfl rfl ?_);intro g3 w3 m3;have N3:=hjd (fun p hp=>m3.ne (t.out.s p hp).lt);have L3:=hjd (Nat.le_trans t.out.k.size m3.le);replace t:=hjd ((t.out.kept m3.kept).cons (show Blk w3 g3 22 (bv lx).toArray from m3.blk));clear m3)
  | ((with_reducible refine a0e (o:=⟨some 4,_,_,_,_,_⟩) rfl rfl a4m ?_);intro g4 w4 m4;have N4:=hjd (fun p hp=>m4.ne (t.out.s p hp).lt);have L4:=hjd (Nat.le_trans t.out.k.size m4.le);replace t:=hjd ((t.out.kept m4.kept).cons (show Blk w4 g4 85 rz.c.toArray from m4.blk));clear m4;have b3:=hjd (t.out.s (g3,22,(bv lx).toArray) (by simp));have q1:=gK.out _ _ _ b3.out;have q2:=b3.out.frozen 31;have KC:=hjd ((Kept.refl [g3] w4).setCell (p:=⟨g3,31,none⟩) (.inl (by simp)) (.int .u8 ((kd:Nat):Int)));have tn:=hjd (((show Pm w [(g3,22,(bv lx).toArray),(g4,85,rz.c.toArray),(g2,29,(iv (fam 16 dc)).toArray)] w4 from t.out.c6b (by simp)).again L3.out (by intro p hp;simp only [List.mem_cons,List.not_mem_nil,or_false]at hp;rcases hp with rfl | rfl;(exact fun e=>N4.out (g3,22,(bv lx).toArray) (by simp) e.symm);(exact N3.out (g2,29,(iv (fam 16 dc)).toArray) (by simp))) (sK.out _ _ _ b3.out) KC.out));clear t;have t:=hjd (show Pm w [(g4,85,rz.c.toArray),(g3,22,(bv lm).toArray),(g2,29,(iv (fam 16 dc)).toArray)] _ from tn.out.c6b (by simp));clear b3 tn KC)
  | (with_reducible refine a0a (o:=⟨some 17,_,_,_,_,_⟩) a1x.row rfl (.tmp 3) rfl rfl (t.out.s (g3,22,(bv lm).toArray) (by simp)) (bsize nlm.out) ?_)
  | (go_at_call 121;(with_reducible refine(c1.out _).mono ?_);rintro e v ⟨rfl,kk⟩;replace t:=hjd (t.out.kept kk);clear kk)
  | (refine a1g (o:=⟨some 20,_,_,_,_,_⟩) rfl rfl b1a ?_)
  | ((refine a0b (o:=⟨none,.store 85 (.tmp 4) (.tmp 20),_,_,_,_⟩) a0z rfl (.tmp 4) (.tmp 20) rfl rfl rfl (t.out.s (g4,85,rz.c.toArray) (by simp)) (R4.size rz) (R4.size rz) (R4.one rz) ?_);intro v4 b4 k4;have bR:=hjd b4;have kR:=hjd k4;clear b4 k4))
 exact a1p a0z rfl rfl bR.out (R4.size _) rfl ⟨rfl,t.out.k.a0n kR.out L4.out⟩
set_option maxHeartbeats 4000000 in
theorem e2c{dc:Nat→Int}(_:Dq 70000 dc Ed.D){X:Nat}(ho:¬128≤c31 X)(hg:RgC (le (X % a2g) 32) false):RdC dc (le X 32) rz false:=by
 obtain⟨lx,elx,nlx⟩:∃l,l=le X 32∧l.length=32:=⟨_,rfl,a0o _ _⟩
 obtain⟨lm,elm,nlm⟩:∃l,l=le (X % a2g) 32∧l.length=32:=⟨_,rfl,a0o _ _⟩
 rw [←elm]at hg
 rw [←elx]
 obtain⟨lz,elz,nlz,uz⟩:∃l:List UInt8,l=le 0 32∧l.length=32∧Tryz.prog.built 22 []=some (bv l).toArray:=⟨_,rfl,a0o _ _,b4c⟩
 obtain⟨kc,hkc⟩:∃c,c=c31 X:=⟨_,rfl⟩
 obtain⟨kd,hkd⟩:∃c,c=c31 (X % a2g):=⟨_,rfl⟩
 have gK:d8c lx kc:=by rw [elx,hkc];exact d9u
 have sK:d8u lx lm ((kd:Nat):Int):=by rw [elx,elm,hkd];exact e0v (a2j X).2
 have hrem:=a6w X
 rw [←hkc,←hkd]at hrem
 have hge:(kc:Int) < 128:=by omega
 have c1:RgC lm false:=hg
 intro w
 replace c1:=hjd c1
 replace gK:=hjd gK
 replace sK:=hjd sK
 replace nlx:=hjd nlx
 replace nlm:=hjd nlm
 replace nlz:=hjd nlz
 replace uz:=hjd uz
 clear ho hg elx elm elz hkc hkd
 go_enter Tryz.func53,Tryz.ntmps53
 have t:=hjd (Pm.none w)
 go_wp2_with (first
  | ((with_reducible refine a0j (o:=⟨some 2,_,_,_,_,_⟩) (v:=nu dc) rfl (.tmp 0) rfl rfl ?_);intro g2 w2 m2;have N2:=hjd (fun p hp=>m2.ne (t.out.s p hp).lt);have L2:=hjd (Nat.le_trans t.out.k.size m2.le);replace t:=hjd ((t.out.kept m2.kept).cons (show Blk w2 g2 29 (iv (fam 16 dc)).toArray from m2.blk));clear m2)
  | ((with_reducible refine a0j (o:=⟨some 3,_,_,_,_,_⟩) (v:=ab lx) rfl (.tmp 1) rfl rfl ?_);intro g3 w3 m3;have N3:=hjd (fun p hp=>m3.ne (t.out.s p hp).lt);have L3:=hjd (Nat.le_trans t.out.k.size m3.le);replace t:=hjd ((t.out.kept m3.kept).cons (show Blk w3 g3 22 (bv lx).toArray from m3.blk));clear m3)
  | ((with_reducible refine a0e (o:=⟨some 4,_,_,_,_,_⟩) rfl rfl a4m ?_);intro g4 w4 m4;have N4:=hjd (fun p hp=>m4.ne (t.out.s p hp).lt);have L4:=hjd (Nat.le_trans t.out.k.size m4.le);replace t:=hjd ((t.out.kept m4.kept).cons (show Blk w4 g4 85 rz.c.toArray from m4.blk));clear m4;have b3:=hjd (t.out.s (g3,22,(bv lx).toArray) (by simp));have q1:=gK.out _ _ _ b3.out;have q2:=b3.out.frozen 31;have KC:=hjd ((Kept.refl [g3] w4).setCell (p:=⟨g3,31,none⟩) (.inl (by simp)) (.int .u8 ((kd:Nat):Int)));have tn:=hjd (((show Pm w [(g3,22,(bv lx).toArray),(g4,85,rz.c.toArray),(g2,29,(iv (fam 16 dc)).toArray)] w4 from t.out.c6b (by simp)).again L3.out (by intro p hp;simp only [List.mem_cons,List.not_mem_nil,or_false]at hp;rcases hp with rfl | rfl;(exact fun e=>N4.out (g3,22,(bv lx).toArray) (by simp) e.symm);(exact N3.out (g2,29,(iv (fam 16 dc)).toArray) (by simp))) (sK.out _ _ _ b3.out) KC.out));clear t;have t:=hjd (show Pm w [(g4,85,rz.c.toArray),(g3,22,(bv lm).toArray),(g2,29,(iv (fam 16 dc)).toArray)] _ from tn.out.c6b (by simp));clear b3 tn KC)
  | (with_reducible refine a0a (o:=⟨some 17,_,_,_,_,_⟩) a1x.row rfl (.tmp 3) rfl rfl (t.out.s (g3,22,(bv lm).toArray) (by simp)) (bsize nlm.out) ?_)
  | (go_at_call 121;(with_reducible refine(c1.out _).mono ?_);rintro e v ⟨rfl,kk⟩;replace t:=hjd (t.out.kept kk);clear kk)
  | (refine a1g (o:=⟨some 20,_,_,_,_,_⟩) rfl rfl b1a ?_)
  | ((refine a0b (o:=⟨none,.store 85 (.tmp 4) (.tmp 20),_,_,_,_⟩) a0z rfl (.tmp 4) (.tmp 20) rfl rfl rfl (t.out.s (g4,85,rz.c.toArray) (by simp)) (R4.size rz) (R4.size rz) (R4.one rz) ?_);intro v4 b4 k4;have bR:=hjd b4;have kR:=hjd k4;clear b4 k4))
 exact a1p a0z rfl rfl bR.out (R4.size _) rfl ⟨rfl,t.out.k.a0n kR.out L4.out⟩
set_option maxHeartbeats 4000000 in
theorem e3x{dc:Nat→Int}(_:Dq 70000 dc Ed.D){X:Nat}(ho:128≤c31 X)(hg:RgC (le (X % a2g) 32) true)(hrt:∀dy,Dq 70000 dy (yOf X)→RtC dc dy zd false):RdC dc (le X 32) rz false:=by
 obtain⟨lx,elx,nlx⟩:∃l,l=le X 32∧l.length=32:=⟨_,rfl,a0o _ _⟩
 obtain⟨lm,elm,nlm⟩:∃l,l=le (X % a2g) 32∧l.length=32:=⟨_,rfl,a0o _ _⟩
 rw [←elm]at hg
 rw [←elx]
 obtain⟨lz,elz,nlz,uz⟩:∃l:List UInt8,l=le 0 32∧l.length=32∧Tryz.prog.built 22 []=some (bv l).toArray:=⟨_,rfl,a0o _ _,b4c⟩
 obtain⟨kc,hkc⟩:∃c,c=c31 X:=⟨_,rfl⟩
 obtain⟨kd,hkd⟩:∃c,c=c31 (X % a2g):=⟨_,rfl⟩
 have gK:d8c lx kc:=by rw [elx,hkc];exact d9u
 have sK:d8u lx lm ((kd:Nat):Int):=by rw [elx,elm,hkd];exact e0v (a2j X).2
 have hrem:=a6w X
 rw [←hkc,←hkd]at hrem
 have hge:(128:Int)≤(kc:Int):=by omega
 have c1:RgC lm true:=hg
 obtain⟨dy,cy_,hy0⟩:=b4e nlm
 have hy:=hy0.to (b0d elm)
 have crt:=hrt dy hy
 intro w
 replace c1:=hjd c1
 replace cy_:=hjd cy_
 replace crt:=hjd crt
 replace gK:=hjd gK
 replace sK:=hjd sK
 replace nlx:=hjd nlx
 replace nlm:=hjd nlm
 replace nlz:=hjd nlz
 replace uz:=hjd uz
 clear ho hg elx elm elz hkc hkd hy hy0 hrt
 go_enter Tryz.func53,Tryz.ntmps53
 have t:=hjd (Pm.none w)
 go_wp2_with (first
  | ((with_reducible refine a0j (o:=⟨some 2,_,_,_,_,_⟩) (v:=nu dc) rfl (.tmp 0) rfl rfl ?_);intro g2 w2 m2;have N2:=hjd (fun p hp=>m2.ne (t.out.s p hp).lt);have L2:=hjd (Nat.le_trans t.out.k.size m2.le);replace t:=hjd ((t.out.kept m2.kept).cons (show Blk w2 g2 29 (iv (fam 16 dc)).toArray from m2.blk));clear m2)
  | ((with_reducible refine a0j (o:=⟨some 3,_,_,_,_,_⟩) (v:=ab lx) rfl (.tmp 1) rfl rfl ?_);intro g3 w3 m3;have N3:=hjd (fun p hp=>m3.ne (t.out.s p hp).lt);have L3:=hjd (Nat.le_trans t.out.k.size m3.le);replace t:=hjd ((t.out.kept m3.kept).cons (show Blk w3 g3 22 (bv lx).toArray from m3.blk));clear m3)
  | ((with_reducible refine a0e (o:=⟨some 4,_,_,_,_,_⟩) rfl rfl a4m ?_);intro g4 w4 m4;have N4:=hjd (fun p hp=>m4.ne (t.out.s p hp).lt);have L4:=hjd (Nat.le_trans t.out.k.size m4.le);replace t:=hjd ((t.out.kept m4.kept).cons (show Blk w4 g4 85 rz.c.toArray from m4.blk));clear m4;have b3:=hjd (t.out.s (g3,22,(bv lx).toArray) (by simp));have q1:=gK.out _ _ _ b3.out;have q2:=b3.out.frozen 31;have KC:=hjd ((Kept.refl [g3] w4).setCell (p:=⟨g3,31,none⟩) (.inl (by simp)) (.int .u8 ((kd:Nat):Int)));have tn:=hjd (((show Pm w [(g3,22,(bv lx).toArray),(g4,85,rz.c.toArray),(g2,29,(iv (fam 16 dc)).toArray)] w4 from t.out.c6b (by simp)).again L3.out (by intro p hp;simp only [List.mem_cons,List.not_mem_nil,or_false]at hp;rcases hp with rfl | rfl;(exact fun e=>N4.out (g3,22,(bv lx).toArray) (by simp) e.symm);(exact N3.out (g2,29,(iv (fam 16 dc)).toArray) (by simp))) (sK.out _ _ _ b3.out) KC.out));clear t;have t:=hjd (show Pm w [(g4,85,rz.c.toArray),(g3,22,(bv lm).toArray),(g2,29,(iv (fam 16 dc)).toArray)] _ from tn.out.c6b (by simp));clear b3 tn KC)
  | (with_reducible refine a0a (o:=⟨some 17,_,_,_,_,_⟩) a1x.row rfl (.tmp 3) rfl rfl (t.out.s (g3,22,(bv lm).toArray) (by simp)) (bsize nlm.out) ?_)
  | (go_at_call 121;(with_reducible refine(c1.out _).mono ?_);rintro e v ⟨rfl,kk⟩;replace t:=hjd (t.out.kept kk);clear kk)
  | (with_reducible refine a0a (o:=⟨some 21,_,_,_,_,_⟩) a1x.row rfl (.tmp 3) rfl rfl (t.out.s (g3,22,(bv lm).toArray) (by simp)) (bsize nlm.out) ?_)
  | (go_at_call 122;(with_reducible refine(cy_.out _).mono ?_);rintro e v ⟨rfl,kk⟩;replace t:=hjd (t.out.kept kk);clear kk)
  | ((with_reducible refine a0e (o:=⟨some 7,_,_,_,_,_⟩) rfl rfl a1v ?_);intro g7 w7 m7;have N7:=hjd (fun p hp=>m7.ne (t.out.s p hp).lt);have L7:=hjd (Nat.le_trans t.out.k.size m7.le);replace t:=hjd ((t.out.kept m7.kept).cons (show Blk w7 g7 27 (iv (fam 16 zd)).toArray from m7.blk));clear m7)
  | ((refine a0b (o:=⟨none,.store 27 (.tmp 7) (.tmp 22),_,_,_,_⟩) a0y.row rfl (.tmp 7) (.tmp 22) rfl rfl rfl (t.out.s (g7,27,(iv (fam 16 zd)).toArray) (by simp)) rfl rfl (a1f _) ?_);intro v7 b7 k7;replace t:=hjd (t.out.again L7.out N7.out b7 k7);clear b7 k7)
  | (with_reducible refine a0a (o:=⟨some 24,_,_,_,_,_⟩) a2f rfl (.tmp 2) rfl rfl (t.out.s (g2,29,(iv (fam 16 dc)).toArray) (by simp)) rfl ?_)
  | (with_reducible refine a0a (o:=⟨some 25,_,_,_,_,_⟩) a0y.row rfl (.tmp 7) rfl rfl (t.out.s (g7,27,(iv (fam 16 dy)).toArray) (by simp)) rfl ?_)
  | (go_at_call 109;(with_reducible refine(crt.out _).mono ?_);rintro e v ⟨rfl,kk⟩;replace t:=hjd (t.out.kept kk);clear kk)
  | ((with_reducible refine a0e (o:=⟨some 8,_,_,_,_,_⟩) rfl rfl a1v ?_);intro g8 w8 m8;have N8:=hjd (fun p hp=>m8.ne (t.out.s p hp).lt);have L8:=hjd (Nat.le_trans t.out.k.size m8.le);replace t:=hjd ((t.out.kept m8.kept).cons (show Blk w8 g8 27 (iv (fam 16 zd)).toArray from m8.blk));clear m8)
  | ((refine a0b (o:=⟨none,.store 27 (.tmp 8) (.tmp 27),_,_,_,_⟩) a0y.row rfl (.tmp 8) (.tmp 27) rfl rfl rfl (t.out.s (g8,27,(iv (fam 16 zd)).toArray) (by simp)) rfl rfl (a1f _) ?_);intro v8 b8 k8;replace t:=hjd (t.out.again L8.out N8.out b8 k8);clear b8 k8)
  | (refine a1g (o:=⟨some 40,_,_,_,_,_⟩) rfl rfl b1a ?_)
  | ((refine a0b (o:=⟨none,.store 85 (.tmp 4) (.tmp 40),_,_,_,_⟩) a0z rfl (.tmp 4) (.tmp 40) rfl rfl rfl (t.out.s (g4,85,rz.c.toArray) (by simp)) (R4.size rz) (R4.size rz) (R4.one rz) ?_);intro v4 b4 k4;have bR:=hjd b4;have kR:=hjd k4;clear b4 k4))
 exact a1p a0z rfl rfl bR.out (R4.size _) rfl ⟨rfl,t.out.k.a0n kR.out L4.out⟩
set_option maxHeartbeats 4000000 in
theorem e6n{dc:Nat→Int}(_:Dq 70000 dc Ed.D){X:Nat}(ho:¬128≤c31 X)(hg:RgC (le (X % a2g) 32) true)(hrt:∀dy,Dq 70000 dy (yOf X)→RtC dc dy zd false):RdC dc (le X 32) rz false:=by
 obtain⟨lx,elx,nlx⟩:∃l,l=le X 32∧l.length=32:=⟨_,rfl,a0o _ _⟩
 obtain⟨lm,elm,nlm⟩:∃l,l=le (X % a2g) 32∧l.length=32:=⟨_,rfl,a0o _ _⟩
 rw [←elm]at hg
 rw [←elx]
 obtain⟨lz,elz,nlz,uz⟩:∃l:List UInt8,l=le 0 32∧l.length=32∧Tryz.prog.built 22 []=some (bv l).toArray:=⟨_,rfl,a0o _ _,b4c⟩
 obtain⟨kc,hkc⟩:∃c,c=c31 X:=⟨_,rfl⟩
 obtain⟨kd,hkd⟩:∃c,c=c31 (X % a2g):=⟨_,rfl⟩
 have gK:d8c lx kc:=by rw [elx,hkc];exact d9u
 have sK:d8u lx lm ((kd:Nat):Int):=by rw [elx,elm,hkd];exact e0v (a2j X).2
 have hrem:=a6w X
 rw [←hkc,←hkd]at hrem
 have hge:(kc:Int) < 128:=by omega
 have c1:RgC lm true:=hg
 obtain⟨dy,cy_,hy0⟩:=b4e nlm
 have hy:=hy0.to (b0d elm)
 have crt:=hrt dy hy
 intro w
 replace c1:=hjd c1
 replace cy_:=hjd cy_
 replace crt:=hjd crt
 replace gK:=hjd gK
 replace sK:=hjd sK
 replace nlx:=hjd nlx
 replace nlm:=hjd nlm
 replace nlz:=hjd nlz
 replace uz:=hjd uz
 clear ho hg elx elm elz hkc hkd hy hy0 hrt
 go_enter Tryz.func53,Tryz.ntmps53
 have t:=hjd (Pm.none w)
 go_wp2_with (first
  | ((with_reducible refine a0j (o:=⟨some 2,_,_,_,_,_⟩) (v:=nu dc) rfl (.tmp 0) rfl rfl ?_);intro g2 w2 m2;have N2:=hjd (fun p hp=>m2.ne (t.out.s p hp).lt);have L2:=hjd (Nat.le_trans t.out.k.size m2.le);replace t:=hjd ((t.out.kept m2.kept).cons (show Blk w2 g2 29 (iv (fam 16 dc)).toArray from m2.blk));clear m2)
  | ((with_reducible refine a0j (o:=⟨some 3,_,_,_,_,_⟩) (v:=ab lx) rfl (.tmp 1) rfl rfl ?_);intro g3 w3 m3;have N3:=hjd (fun p hp=>m3.ne (t.out.s p hp).lt);have L3:=hjd (Nat.le_trans t.out.k.size m3.le);replace t:=hjd ((t.out.kept m3.kept).cons (show Blk w3 g3 22 (bv lx).toArray from m3.blk));clear m3)
  | ((with_reducible refine a0e (o:=⟨some 4,_,_,_,_,_⟩) rfl rfl a4m ?_);intro g4 w4 m4;have N4:=hjd (fun p hp=>m4.ne (t.out.s p hp).lt);have L4:=hjd (Nat.le_trans t.out.k.size m4.le);replace t:=hjd ((t.out.kept m4.kept).cons (show Blk w4 g4 85 rz.c.toArray from m4.blk));clear m4;have b3:=hjd (t.out.s (g3,22,(bv lx).toArray) (by simp));have q1:=gK.out _ _ _ b3.out;have q2:=b3.out.frozen 31;have KC:=hjd ((Kept.refl [g3] w4).setCell (p:=⟨g3,31,none⟩) (.inl (by simp)) (.int .u8 ((kd:Nat):Int)));have tn:=hjd (((show Pm w [(g3,22,(bv lx).toArray),(g4,85,rz.c.toArray),(g2,29,(iv (fam 16 dc)).toArray)] w4 from t.out.c6b (by simp)).again L3.out (by intro p hp;simp only [List.mem_cons,List.not_mem_nil,or_false]at hp;rcases hp with rfl | rfl;(exact fun e=>N4.out (g3,22,(bv lx).toArray) (by simp) e.symm);(exact N3.out (g2,29,(iv (fam 16 dc)).toArray) (by simp))) (sK.out _ _ _ b3.out) KC.out));clear t;have t:=hjd (show Pm w [(g4,85,rz.c.toArray),(g3,22,(bv lm).toArray),(g2,29,(iv (fam 16 dc)).toArray)] _ from tn.out.c6b (by simp));clear b3 tn KC)
  | (with_reducible refine a0a (o:=⟨some 17,_,_,_,_,_⟩) a1x.row rfl (.tmp 3) rfl rfl (t.out.s (g3,22,(bv lm).toArray) (by simp)) (bsize nlm.out) ?_)
  | (go_at_call 121;(with_reducible refine(c1.out _).mono ?_);rintro e v ⟨rfl,kk⟩;replace t:=hjd (t.out.kept kk);clear kk)
  | (with_reducible refine a0a (o:=⟨some 21,_,_,_,_,_⟩) a1x.row rfl (.tmp 3) rfl rfl (t.out.s (g3,22,(bv lm).toArray) (by simp)) (bsize nlm.out) ?_)
  | (go_at_call 122;(with_reducible refine(cy_.out _).mono ?_);rintro e v ⟨rfl,kk⟩;replace t:=hjd (t.out.kept kk);clear kk)
  | ((with_reducible refine a0e (o:=⟨some 7,_,_,_,_,_⟩) rfl rfl a1v ?_);intro g7 w7 m7;have N7:=hjd (fun p hp=>m7.ne (t.out.s p hp).lt);have L7:=hjd (Nat.le_trans t.out.k.size m7.le);replace t:=hjd ((t.out.kept m7.kept).cons (show Blk w7 g7 27 (iv (fam 16 zd)).toArray from m7.blk));clear m7)
  | ((refine a0b (o:=⟨none,.store 27 (.tmp 7) (.tmp 22),_,_,_,_⟩) a0y.row rfl (.tmp 7) (.tmp 22) rfl rfl rfl (t.out.s (g7,27,(iv (fam 16 zd)).toArray) (by simp)) rfl rfl (a1f _) ?_);intro v7 b7 k7;replace t:=hjd (t.out.again L7.out N7.out b7 k7);clear b7 k7)
  | (with_reducible refine a0a (o:=⟨some 24,_,_,_,_,_⟩) a2f rfl (.tmp 2) rfl rfl (t.out.s (g2,29,(iv (fam 16 dc)).toArray) (by simp)) rfl ?_)
  | (with_reducible refine a0a (o:=⟨some 25,_,_,_,_,_⟩) a0y.row rfl (.tmp 7) rfl rfl (t.out.s (g7,27,(iv (fam 16 dy)).toArray) (by simp)) rfl ?_)
  | (go_at_call 109;(with_reducible refine(crt.out _).mono ?_);rintro e v ⟨rfl,kk⟩;replace t:=hjd (t.out.kept kk);clear kk)
  | ((with_reducible refine a0e (o:=⟨some 8,_,_,_,_,_⟩) rfl rfl a1v ?_);intro g8 w8 m8;have N8:=hjd (fun p hp=>m8.ne (t.out.s p hp).lt);have L8:=hjd (Nat.le_trans t.out.k.size m8.le);replace t:=hjd ((t.out.kept m8.kept).cons (show Blk w8 g8 27 (iv (fam 16 zd)).toArray from m8.blk));clear m8)
  | ((refine a0b (o:=⟨none,.store 27 (.tmp 8) (.tmp 27),_,_,_,_⟩) a0y.row rfl (.tmp 8) (.tmp 27) rfl rfl rfl (t.out.s (g8,27,(iv (fam 16 zd)).toArray) (by simp)) rfl rfl (a1f _) ?_);intro v8 b8 k8;replace t:=hjd (t.out.again L8.out N8.out b8 k8);clear b8 k8)
  | (refine a1g (o:=⟨some 40,_,_,_,_,_⟩) rfl rfl b1a ?_)
  | ((refine a0b (o:=⟨none,.store 85 (.tmp 4) (.tmp 40),_,_,_,_⟩) a0z rfl (.tmp 4) (.tmp 40) rfl rfl rfl (t.out.s (g4,85,rz.c.toArray) (by simp)) (R4.size rz) (R4.size rz) (R4.one rz) ?_);intro v4 b4 k4;have bR:=hjd b4;have kR:=hjd k4;clear b4 k4))
 exact a1p a0z rfl rfl bR.out (R4.size _) rfl ⟨rfl,t.out.k.a0n kR.out L4.out⟩
set_option maxHeartbeats 4000000 in
theorem e6h{dc:Nat→Int}(_:Dq 70000 dc Ed.D){X:Nat}(ho:128≤c31 X)(hg:RgC (le (X % a2g) 32) true){x:Ed.Fq}(hrt:∀dy,Dq 70000 dy (yOf X)→∃r,RtC dc dy r true∧Dq 70000 r x)(hz0:x.v=0):RdC dc (le X 32) rz false:=by
 obtain⟨lx,elx,nlx⟩:∃l,l=le X 32∧l.length=32:=⟨_,rfl,a0o _ _⟩
 obtain⟨lm,elm,nlm⟩:∃l,l=le (X % a2g) 32∧l.length=32:=⟨_,rfl,a0o _ _⟩
 rw [←elm]at hg
 rw [←elx]
 obtain⟨lz,elz,nlz,uz⟩:∃l:List UInt8,l=le 0 32∧l.length=32∧Tryz.prog.built 22 []=some (bv l).toArray:=⟨_,rfl,a0o _ _,b4c⟩
 obtain⟨kc,hkc⟩:∃c,c=c31 X:=⟨_,rfl⟩
 obtain⟨kd,hkd⟩:∃c,c=c31 (X % a2g):=⟨_,rfl⟩
 have gK:d8c lx kc:=by rw [elx,hkc];exact d9u
 have sK:d8u lx lm ((kd:Nat):Int):=by rw [elx,elm,hkd];exact e0v (a2j X).2
 have hrem:=a6w X
 rw [←hkc,←hkd]at hrem
 have hge:(128:Int)≤(kc:Int):=by omega
 have c1:RgC lm true:=hg
 obtain⟨dy,cy_,hy0⟩:=b4e nlm
 have hy:=hy0.to (b0d elm)
 obtain⟨xr,crt,hx⟩:=hrt dy hy
 have hzq:∀{l:List UInt8},l=le x.v 32→(l == lz)=true:=fun e=>by rw [e,elz,b4h _ _ (b3q x) a2x];exact decide_eq_true hz0
 obtain⟨l4,c4,e4,nl4⟩:=a4v hx (by omega)
 have Q37:(l4 == lz)=true:=hzq e4
 have q37:=a9m Q37 nl4 nlz
 intro w
 replace c1:=hjd c1
 replace cy_:=hjd cy_
 replace crt:=hjd crt
 replace nl4:=hjd nl4
 replace c4:=hjd c4
 replace gK:=hjd gK
 replace sK:=hjd sK
 replace nlx:=hjd nlx
 replace nlm:=hjd nlm
 replace nlz:=hjd nlz
 replace uz:=hjd uz
 clear ho hg elx elm elz hkc hkd hy hy0 hrt hx hzq hz0 Q37 e4
 go_enter Tryz.func53,Tryz.ntmps53
 have t:=hjd (Pm.none w)
 go_wp2_with (first
  | ((with_reducible refine a0j (o:=⟨some 2,_,_,_,_,_⟩) (v:=nu dc) rfl (.tmp 0) rfl rfl ?_);intro g2 w2 m2;have N2:=hjd (fun p hp=>m2.ne (t.out.s p hp).lt);have L2:=hjd (Nat.le_trans t.out.k.size m2.le);replace t:=hjd ((t.out.kept m2.kept).cons (show Blk w2 g2 29 (iv (fam 16 dc)).toArray from m2.blk));clear m2)
  | ((with_reducible refine a0j (o:=⟨some 3,_,_,_,_,_⟩) (v:=ab lx) rfl (.tmp 1) rfl rfl ?_);intro g3 w3 m3;have N3:=hjd (fun p hp=>m3.ne (t.out.s p hp).lt);have L3:=hjd (Nat.le_trans t.out.k.size m3.le);replace t:=hjd ((t.out.kept m3.kept).cons (show Blk w3 g3 22 (bv lx).toArray from m3.blk));clear m3)
  | ((with_reducible refine a0e (o:=⟨some 4,_,_,_,_,_⟩) rfl rfl a4m ?_);intro g4 w4 m4;have N4:=hjd (fun p hp=>m4.ne (t.out.s p hp).lt);have L4:=hjd (Nat.le_trans t.out.k.size m4.le);replace t:=hjd ((t.out.kept m4.kept).cons (show Blk w4 g4 85 rz.c.toArray from m4.blk));clear m4;have b3:=hjd (t.out.s (g3,22,(bv lx).toArray) (by simp));have q1:=gK.out _ _ _ b3.out;have q2:=b3.out.frozen 31;have KC:=hjd ((Kept.refl [g3] w4).setCell (p:=⟨g3,31,none⟩) (.inl (by simp)) (.int .u8 ((kd:Nat):Int)));have tn:=hjd (((show Pm w [(g3,22,(bv lx).toArray),(g4,85,rz.c.toArray),(g2,29,(iv (fam 16 dc)).toArray)] w4 from t.out.c6b (by simp)).again L3.out (by intro p hp;simp only [List.mem_cons,List.not_mem_nil,or_false]at hp;rcases hp with rfl | rfl;(exact fun e=>N4.out (g3,22,(bv lx).toArray) (by simp) e.symm);(exact N3.out (g2,29,(iv (fam 16 dc)).toArray) (by simp))) (sK.out _ _ _ b3.out) KC.out));clear t;have t:=hjd (show Pm w [(g4,85,rz.c.toArray),(g3,22,(bv lm).toArray),(g2,29,(iv (fam 16 dc)).toArray)] _ from tn.out.c6b (by simp));clear b3 tn KC)
  | (with_reducible refine a0a (o:=⟨some 17,_,_,_,_,_⟩) a1x.row rfl (.tmp 3) rfl rfl (t.out.s (g3,22,(bv lm).toArray) (by simp)) (bsize nlm.out) ?_)
  | (go_at_call 121;(with_reducible refine(c1.out _).mono ?_);rintro e v ⟨rfl,kk⟩;replace t:=hjd (t.out.kept kk);clear kk)
  | (with_reducible refine a0a (o:=⟨some 21,_,_,_,_,_⟩) a1x.row rfl (.tmp 3) rfl rfl (t.out.s (g3,22,(bv lm).toArray) (by simp)) (bsize nlm.out) ?_)
  | (go_at_call 122;(with_reducible refine(cy_.out _).mono ?_);rintro e v ⟨rfl,kk⟩;replace t:=hjd (t.out.kept kk);clear kk)
  | ((with_reducible refine a0e (o:=⟨some 7,_,_,_,_,_⟩) rfl rfl a1v ?_);intro g7 w7 m7;have N7:=hjd (fun p hp=>m7.ne (t.out.s p hp).lt);have L7:=hjd (Nat.le_trans t.out.k.size m7.le);replace t:=hjd ((t.out.kept m7.kept).cons (show Blk w7 g7 27 (iv (fam 16 zd)).toArray from m7.blk));clear m7)
  | ((refine a0b (o:=⟨none,.store 27 (.tmp 7) (.tmp 22),_,_,_,_⟩) a0y.row rfl (.tmp 7) (.tmp 22) rfl rfl rfl (t.out.s (g7,27,(iv (fam 16 zd)).toArray) (by simp)) rfl rfl (a1f _) ?_);intro v7 b7 k7;replace t:=hjd (t.out.again L7.out N7.out b7 k7);clear b7 k7)
  | (with_reducible refine a0a (o:=⟨some 24,_,_,_,_,_⟩) a2f rfl (.tmp 2) rfl rfl (t.out.s (g2,29,(iv (fam 16 dc)).toArray) (by simp)) rfl ?_)
  | (with_reducible refine a0a (o:=⟨some 25,_,_,_,_,_⟩) a0y.row rfl (.tmp 7) rfl rfl (t.out.s (g7,27,(iv (fam 16 dy)).toArray) (by simp)) rfl ?_)
  | (go_at_call 109;(with_reducible refine(crt.out _).mono ?_);rintro e v ⟨rfl,kk⟩;replace t:=hjd (t.out.kept kk);clear kk)
  | ((with_reducible refine a0e (o:=⟨some 8,_,_,_,_,_⟩) rfl rfl a1v ?_);intro g8 w8 m8;have N8:=hjd (fun p hp=>m8.ne (t.out.s p hp).lt);have L8:=hjd (Nat.le_trans t.out.k.size m8.le);replace t:=hjd ((t.out.kept m8.kept).cons (show Blk w8 g8 27 (iv (fam 16 zd)).toArray from m8.blk));clear m8)
  | ((refine a0b (o:=⟨none,.store 27 (.tmp 8) (.tmp 27),_,_,_,_⟩) a0y.row rfl (.tmp 8) (.tmp 27) rfl rfl rfl (t.out.s (g8,27,(iv (fam 16 zd)).toArray) (by simp)) rfl rfl (a1f _) ?_);intro v8 b8 k8;replace t:=hjd (t.out.again L8.out N8.out b8 k8);clear b8 k8)
  | (refine a0a (o:=⟨some 34,_,_,_,_,_⟩) a0y.row rfl (.tmp 8) rfl rfl (t.out.s (g8,27,(iv (fam 16 xr)).toArray) (by simp)) rfl ?_)
  | (go_at_call 107;(with_reducible refine(c4.out _).mono ?_);rintro e v ⟨rfl,kk⟩;replace t:=hjd (t.out.kept kk);clear kk)
  | (refine a1g (o:=⟨some 36,_,_,_,_,_⟩) rfl rfl uz.out ?_)
  | (refine a1g (o:=⟨some 40,_,_,_,_,_⟩) rfl rfl b1a ?_)
  | ((refine a0b (o:=⟨none,.store 85 (.tmp 4) (.tmp 40),_,_,_,_⟩) a0z rfl (.tmp 4) (.tmp 40) rfl rfl rfl (t.out.s (g4,85,rz.c.toArray) (by simp)) (R4.size rz) (R4.size rz) (R4.one rz) ?_);intro v4 b4 k4;have bR:=hjd b4;have kR:=hjd k4;clear b4 k4))
 exact a1p a0z rfl rfl bR.out (R4.size _) rfl ⟨rfl,t.out.k.a0n kR.out L4.out⟩
set_option maxHeartbeats 4000000 in
theorem e6m{dc:Nat→Int}(_:Dq 70000 dc Ed.D){X:Nat}(ho:128≤c31 X)(hg:RgC (le (X % a2g) 32) true){x:Ed.Fq}(hrt:∀dy,Dq 70000 dy (yOf X)→∃r,RtC dc dy r true∧Dq 70000 r x)(hz0:¬x.v=0){P:Ed.Pt}(hPx0:P.x= -x)(hPy0:P.y=yOf X):∃r,RdC dc (le X 32) r true∧Rr r P:=by
 obtain⟨lx,elx,nlx⟩:∃l,l=le X 32∧l.length=32:=⟨_,rfl,a0o _ _⟩
 obtain⟨lm,elm,nlm⟩:∃l,l=le (X % a2g) 32∧l.length=32:=⟨_,rfl,a0o _ _⟩
 rw [←elm]at hg
 rw [←elx]
 obtain⟨lz,elz,nlz,uz⟩:∃l:List UInt8,l=le 0 32∧l.length=32∧Tryz.prog.built 22 []=some (bv l).toArray:=⟨_,rfl,a0o _ _,b4c⟩
 obtain⟨kc,hkc⟩:∃c,c=c31 X:=⟨_,rfl⟩
 obtain⟨kd,hkd⟩:∃c,c=c31 (X % a2g):=⟨_,rfl⟩
 have gK:d8c lx kc:=by rw [elx,hkc];exact d9u
 have sK:d8u lx lm ((kd:Nat):Int):=by rw [elx,elm,hkd];exact e0v (a2j X).2
 have hrem:=a6w X
 rw [←hkc,←hkd]at hrem
 have hge:(128:Int)≤(kc:Int):=by omega
 have c1:RgC lm true:=hg
 obtain⟨dy,cy_,hy0⟩:=b4e nlm
 have hy:=hy0.to (b0d elm)
 obtain⟨xr,crt,hx⟩:=hrt dy hy
 have hzq:∀{l:List UInt8},l=le x.v 32→(l == lz)=false:=fun e=>by rw [e,elz,b4h _ _ (b3q x) a2x];exact decide_eq_false hz0
 have hPx:(Ed.mk 0 - x) * Ed.mk 1=P.x:=by rw [hPx0,b8p]
 have hPy:yOf X=P.y:=hPy0.symm
 obtain⟨l4,c4,e4,nl4⟩:=a4v hx (by omega)
 have Q37:(l4 == lz)=false:=hzq e4
 have q37:=a9m Q37 nl4 nlz
 obtain⟨d5,c5,h5⟩:=b5i 0 (z:=0) (by omega) rfl
 obtain⟨d6,c6,h6⟩:=a7z h5 hx (by omega) (by omega)
 obtain⟨d7,c7,h7⟩:=b5i 1 (z:=1) (by omega) rfl
 obtain⟨d8,c8,h8⟩:=a1q h6 h7 (by omega) (by omega)
 obtain⟨R,con,hR⟩:=on_r (P:=P) (h8.to hPx) (hy.to hPy)
 refine⟨R,?_,hR⟩
 intro w
 replace c1:=hjd c1
 replace cy_:=hjd cy_
 replace crt:=hjd crt
 replace nl4:=hjd nl4
 replace c4:=hjd c4
 replace c5:=hjd c5
 replace c6:=hjd c6
 replace c7:=hjd c7
 replace c8:=hjd c8
 replace con:=hjd con
 replace gK:=hjd gK
 replace sK:=hjd sK
 replace nlx:=hjd nlx
 replace nlm:=hjd nlm
 replace nlz:=hjd nlz
 replace uz:=hjd uz
 clear ho hg elx elm elz hkc hkd hy hy0 hrt hx hzq hz0 Q37 hPx hPy hPx0 hPy0 hR e4 h5 h6 h7 h8
 go_enter Tryz.func53,Tryz.ntmps53
 have t:=hjd (Pm.none w)
 go_wp2_with (first
  | ((with_reducible refine a0j (o:=⟨some 2,_,_,_,_,_⟩) (v:=nu dc) rfl (.tmp 0) rfl rfl ?_);intro g2 w2 m2;have N2:=hjd (fun p hp=>m2.ne (t.out.s p hp).lt);have L2:=hjd (Nat.le_trans t.out.k.size m2.le);replace t:=hjd ((t.out.kept m2.kept).cons (show Blk w2 g2 29 (iv (fam 16 dc)).toArray from m2.blk));clear m2)
  | ((with_reducible refine a0j (o:=⟨some 3,_,_,_,_,_⟩) (v:=ab lx) rfl (.tmp 1) rfl rfl ?_);intro g3 w3 m3;have N3:=hjd (fun p hp=>m3.ne (t.out.s p hp).lt);have L3:=hjd (Nat.le_trans t.out.k.size m3.le);replace t:=hjd ((t.out.kept m3.kept).cons (show Blk w3 g3 22 (bv lx).toArray from m3.blk));clear m3)
  | ((with_reducible refine a0e (o:=⟨some 4,_,_,_,_,_⟩) rfl rfl a4m ?_);intro g4 w4 m4;have N4:=hjd (fun p hp=>m4.ne (t.out.s p hp).lt);have L4:=hjd (Nat.le_trans t.out.k.size m4.le);replace t:=hjd ((t.out.kept m4.kept).cons (show Blk w4 g4 85 rz.c.toArray from m4.blk));clear m4;have b3:=hjd (t.out.s (g3,22,(bv lx).toArray) (by simp));have q1:=gK.out _ _ _ b3.out;have q2:=b3.out.frozen 31;have KC:=hjd ((Kept.refl [g3] w4).setCell (p:=⟨g3,31,none⟩) (.inl (by simp)) (.int .u8 ((kd:Nat):Int)));have tn:=hjd (((show Pm w [(g3,22,(bv lx).toArray),(g4,85,rz.c.toArray),(g2,29,(iv (fam 16 dc)).toArray)] w4 from t.out.c6b (by simp)).again L3.out (by intro p hp;simp only [List.mem_cons,List.not_mem_nil,or_false]at hp;rcases hp with rfl | rfl;(exact fun e=>N4.out (g3,22,(bv lx).toArray) (by simp) e.symm);(exact N3.out (g2,29,(iv (fam 16 dc)).toArray) (by simp))) (sK.out _ _ _ b3.out) KC.out));clear t;have t:=hjd (show Pm w [(g4,85,rz.c.toArray),(g3,22,(bv lm).toArray),(g2,29,(iv (fam 16 dc)).toArray)] _ from tn.out.c6b (by simp));clear b3 tn KC)
  | (with_reducible refine a0a (o:=⟨some 17,_,_,_,_,_⟩) a1x.row rfl (.tmp 3) rfl rfl (t.out.s (g3,22,(bv lm).toArray) (by simp)) (bsize nlm.out) ?_)
  | (go_at_call 121;(with_reducible refine(c1.out _).mono ?_);rintro e v ⟨rfl,kk⟩;replace t:=hjd (t.out.kept kk);clear kk)
  | (with_reducible refine a0a (o:=⟨some 21,_,_,_,_,_⟩) a1x.row rfl (.tmp 3) rfl rfl (t.out.s (g3,22,(bv lm).toArray) (by simp)) (bsize nlm.out) ?_)
  | (go_at_call 122;(with_reducible refine(cy_.out _).mono ?_);rintro e v ⟨rfl,kk⟩;replace t:=hjd (t.out.kept kk);clear kk)
  | ((with_reducible refine a0e (o:=⟨some 7,_,_,_,_,_⟩) rfl rfl a1v ?_);intro g7 w7 m7;have N7:=hjd (fun p hp=>m7.ne (t.out.s p hp).lt);have L7:=hjd (Nat.le_trans t.out.k.size m7.le);replace t:=hjd ((t.out.kept m7.kept).cons (show Blk w7 g7 27 (iv (fam 16 zd)).toArray from m7.blk));clear m7)
  | ((refine a0b (o:=⟨none,.store 27 (.tmp 7) (.tmp 22),_,_,_,_⟩) a0y.row rfl (.tmp 7) (.tmp 22) rfl rfl rfl (t.out.s (g7,27,(iv (fam 16 zd)).toArray) (by simp)) rfl rfl (a1f _) ?_);intro v7 b7 k7;replace t:=hjd (t.out.again L7.out N7.out b7 k7);clear b7 k7)
  | (with_reducible refine a0a (o:=⟨some 24,_,_,_,_,_⟩) a2f rfl (.tmp 2) rfl rfl (t.out.s (g2,29,(iv (fam 16 dc)).toArray) (by simp)) rfl ?_)
  | (with_reducible refine a0a (o:=⟨some 25,_,_,_,_,_⟩) a0y.row rfl (.tmp 7) rfl rfl (t.out.s (g7,27,(iv (fam 16 dy)).toArray) (by simp)) rfl ?_)
  | (go_at_call 109;(with_reducible refine(crt.out _).mono ?_);rintro e v ⟨rfl,kk⟩;replace t:=hjd (t.out.kept kk);clear kk)
  | ((with_reducible refine a0e (o:=⟨some 8,_,_,_,_,_⟩) rfl rfl a1v ?_);intro g8 w8 m8;have N8:=hjd (fun p hp=>m8.ne (t.out.s p hp).lt);have L8:=hjd (Nat.le_trans t.out.k.size m8.le);replace t:=hjd ((t.out.kept m8.kept).cons (show Blk w8 g8 27 (iv (fam 16 zd)).toArray from m8.blk));clear m8)
  | ((refine a0b (o:=⟨none,.store 27 (.tmp 8) (.tmp 27),_,_,_,_⟩) a0y.row rfl (.tmp 8) (.tmp 27) rfl rfl rfl (t.out.s (g8,27,(iv (fam 16 zd)).toArray) (by simp)) rfl rfl (a1f _) ?_);intro v8 b8 k8;replace t:=hjd (t.out.again L8.out N8.out b8 k8);clear b8 k8)
  | (refine a0a (o:=⟨some 34,_,_,_,_,_⟩) a0y.row rfl (.tmp 8) rfl rfl (t.out.s (g8,27,(iv (fam 16 xr)).toArray) (by simp)) rfl ?_)
  | (go_at_call 107;(with_reducible refine(c4.out _).mono ?_);rintro e v ⟨rfl,kk⟩;replace t:=hjd (t.out.kept kk);clear kk)
  | (refine a1g (o:=⟨some 36,_,_,_,_,_⟩) rfl rfl uz.out ?_))
 refine a3f (by kernel_rfl) [nu d5,nu xr,nu d6,nu d7,nu d8]
  (Pm w [(g8,27,(iv (fam 16 xr)).toArray),(g7,27,(iv (fam 16 dy)).toArray),(g4,85,rz.c.toArray),(g3,22,(bv lm).toArray),(g2,29,(iv (fam 16 dc)).toArray)]) (by kernel_rfl) rfl rfl (by kernel_rfl) t.out.drew (fun u u' h hk=>h.kept hk) ?_ ?_
 ·refine⟨?_,?_,?_,?_,?_,trivial⟩
  ·refine fun a' u K0 R hS hr ho h=>a0f rfl a2c (vs:=#[.int .u64 0]) ?_ (c5.out u) h
   simp [Act.eval]
  ·exact fun a' u K0 R hS hr ho h=>a0g a0y.row (.tmp 8) rfl ((ho 8 (by decide)).trans rfl) (hS.s (g8,27,(iv (fam 16 xr)).toArray) (by simp)) rfl (h u (Kept.refl _ _))
  ·refine fun a' u K0 R hS hr ho h=>a0f rfl a3c (vs:=#[nu d5,nu xr]) ?_ (c6.out u) h
   have x0:=hr 0 (nu d5) 42 _ rfl rfl rfl ⟨⟨0,.data⟩,by simp,rfl,rfl⟩
   have x1:=hr 1 (nu xr) 43 _ rfl rfl rfl ⟨⟨1,.data⟩,by simp,rfl,rfl⟩
   simp [Act.eval]at x0 x1 ⊢
   exact⟨x0,x1⟩
  ·refine fun a' u K0 R hS hr ho h=>a0f rfl a2c (vs:=#[.int .u64 1]) ?_ (c7.out u) h
   simp [Act.eval]
  ·refine fun a' u K0 R hS hr ho h=>a0f rfl a0r (vs:=#[nu d6,nu d7]) ?_ (c8.out u) h
   have x0:=hr 2 (nu d6) 44 _ rfl rfl rfl ⟨⟨2,.data⟩,by simp,rfl,rfl⟩
   have x1:=hr 3 (nu d7) 45 _ rfl rfl rfl ⟨⟨3,.data⟩,by simp,rfl,rfl⟩
   simp [Act.eval]at x0 x1 ⊢
   exact⟨x0,x1⟩
 intro ul hSl
 simp [a0w,List.range,List.range.loop,Act.put]
 refine a2k a0y.row (.tmp 8) (.tmp 46) rfl rfl rfl (hSl.s (g8,27,(iv (fam 16 xr)).toArray) (by simp)) rfl rfl (a1f _) ?_
 simp [Act.put]
 have bl:=(hSl.s (g8,27,(iv (fam 16 xr)).toArray) (by simp)).a2w (iv (fam 16 d8)).toArray
 have kl:Kept [g8] ul (ul.setRow g8 (iv (fam 16 d8)).toArray):=(Kept.refl [g8] ul).setRow (.inl (by simp)) _
 replace t:=hjd (hSl.again L8.out N8.out bl kl)
 clear bl kl hSl
 go_wp2_with (first
  | (with_reducible refine a0a (o:=⟨some 47,_,_,_,_,_⟩) a0y.row rfl (.tmp 8) rfl rfl (t.out.s (g8,27,(iv (fam 16 d8)).toArray) (by simp)) rfl ?_)
  | (with_reducible refine a0a (o:=⟨some 48,_,_,_,_,_⟩) a0y.row rfl (.tmp 7) rfl rfl (t.out.s (g7,27,(iv (fam 16 dy)).toArray) (by simp)) rfl ?_)
  | (go_at_call 110;(with_reducible refine(con.out _).mono ?_);rintro e v ⟨rfl,kk⟩;replace t:=hjd (t.out.kept kk);clear kk)
  | ((refine a0b (o:=⟨none,.store 85 (.tmp 4) (.tmp 49),_,_,_,_⟩) a0z rfl (.tmp 4) (.tmp 49) rfl rfl rfl (t.out.s (g4,85,rz.c.toArray) (by simp)) (R4.size rz) (R4.size R) (R4.one R) ?_);intro v4 b4 k4;have bR:=hjd b4;have kR:=hjd k4;clear b4 k4))
 exact a1p a0z rfl rfl bR.out (R4.size _) rfl ⟨rfl,t.out.k.a0n kR.out L4.out⟩
set_option maxHeartbeats 4000000 in
theorem e2k{dc:Nat→Int}(_:Dq 70000 dc Ed.D){X:Nat}(ho:¬128≤c31 X)(hg:RgC (le (X % a2g) 32) true){x:Ed.Fq}(hrt:∀dy,Dq 70000 dy (yOf X)→∃r,RtC dc dy r true∧Dq 70000 r x){P:Ed.Pt}(hPx0:P.x=x)(hPy0:P.y=yOf X):∃r,RdC dc (le X 32) r true∧Rr r P:=by
 obtain⟨lx,elx,nlx⟩:∃l,l=le X 32∧l.length=32:=⟨_,rfl,a0o _ _⟩
 obtain⟨lm,elm,nlm⟩:∃l,l=le (X % a2g) 32∧l.length=32:=⟨_,rfl,a0o _ _⟩
 rw [←elm]at hg
 rw [←elx]
 obtain⟨lz,elz,nlz,uz⟩:∃l:List UInt8,l=le 0 32∧l.length=32∧Tryz.prog.built 22 []=some (bv l).toArray:=⟨_,rfl,a0o _ _,b4c⟩
 obtain⟨kc,hkc⟩:∃c,c=c31 X:=⟨_,rfl⟩
 obtain⟨kd,hkd⟩:∃c,c=c31 (X % a2g):=⟨_,rfl⟩
 have gK:d8c lx kc:=by rw [elx,hkc];exact d9u
 have sK:d8u lx lm ((kd:Nat):Int):=by rw [elx,elm,hkd];exact e0v (a2j X).2
 have hrem:=a6w X
 rw [←hkc,←hkd]at hrem
 have hge:(kc:Int) < 128:=by omega
 have c1:RgC lm true:=hg
 obtain⟨dy,cy_,hy0⟩:=b4e nlm
 have hy:=hy0.to (b0d elm)
 obtain⟨xr,crt,hx⟩:=hrt dy hy
 have hPx:x=P.x:=by rw [hPx0]
 have hPy:yOf X=P.y:=hPy0.symm
 obtain⟨R,con,hR⟩:=on_r (P:=P) (hx.to hPx) (hy.to hPy)
 refine⟨R,?_,hR⟩
 intro w
 replace c1:=hjd c1
 replace cy_:=hjd cy_
 replace crt:=hjd crt
 replace con:=hjd con
 replace gK:=hjd gK
 replace sK:=hjd sK
 replace nlx:=hjd nlx
 replace nlm:=hjd nlm
 replace nlz:=hjd nlz
 replace uz:=hjd uz
 clear ho hg elx elm elz hkc hkd hy hy0 hrt hx hPx hPy hPx0 hPy0 hR
 go_enter Tryz.func53,Tryz.ntmps53
 have t:=hjd (Pm.none w)
 go_wp2_with (first
  | ((with_reducible refine a0j (o:=⟨some 2,_,_,_,_,_⟩) (v:=nu dc) rfl (.tmp 0) rfl rfl ?_);intro g2 w2 m2;have N2:=hjd (fun p hp=>m2.ne (t.out.s p hp).lt);have L2:=hjd (Nat.le_trans t.out.k.size m2.le);replace t:=hjd ((t.out.kept m2.kept).cons (show Blk w2 g2 29 (iv (fam 16 dc)).toArray from m2.blk));clear m2)
  | ((with_reducible refine a0j (o:=⟨some 3,_,_,_,_,_⟩) (v:=ab lx) rfl (.tmp 1) rfl rfl ?_);intro g3 w3 m3;have N3:=hjd (fun p hp=>m3.ne (t.out.s p hp).lt);have L3:=hjd (Nat.le_trans t.out.k.size m3.le);replace t:=hjd ((t.out.kept m3.kept).cons (show Blk w3 g3 22 (bv lx).toArray from m3.blk));clear m3)
  | ((with_reducible refine a0e (o:=⟨some 4,_,_,_,_,_⟩) rfl rfl a4m ?_);intro g4 w4 m4;have N4:=hjd (fun p hp=>m4.ne (t.out.s p hp).lt);have L4:=hjd (Nat.le_trans t.out.k.size m4.le);replace t:=hjd ((t.out.kept m4.kept).cons (show Blk w4 g4 85 rz.c.toArray from m4.blk));clear m4;have b3:=hjd (t.out.s (g3,22,(bv lx).toArray) (by simp));have q1:=gK.out _ _ _ b3.out;have q2:=b3.out.frozen 31;have KC:=hjd ((Kept.refl [g3] w4).setCell (p:=⟨g3,31,none⟩) (.inl (by simp)) (.int .u8 ((kd:Nat):Int)));have tn:=hjd (((show Pm w [(g3,22,(bv lx).toArray),(g4,85,rz.c.toArray),(g2,29,(iv (fam 16 dc)).toArray)] w4 from t.out.c6b (by simp)).again L3.out (by intro p hp;simp only [List.mem_cons,List.not_mem_nil,or_false]at hp;rcases hp with rfl | rfl;(exact fun e=>N4.out (g3,22,(bv lx).toArray) (by simp) e.symm);(exact N3.out (g2,29,(iv (fam 16 dc)).toArray) (by simp))) (sK.out _ _ _ b3.out) KC.out));clear t;have t:=hjd (show Pm w [(g4,85,rz.c.toArray),(g3,22,(bv lm).toArray),(g2,29,(iv (fam 16 dc)).toArray)] _ from tn.out.c6b (by simp));clear b3 tn KC)
  | (with_reducible refine a0a (o:=⟨some 17,_,_,_,_,_⟩) a1x.row rfl (.tmp 3) rfl rfl (t.out.s (g3,22,(bv lm).toArray) (by simp)) (bsize nlm.out) ?_)
  | (go_at_call 121;(with_reducible refine(c1.out _).mono ?_);rintro e v ⟨rfl,kk⟩;replace t:=hjd (t.out.kept kk);clear kk)
  | (with_reducible refine a0a (o:=⟨some 21,_,_,_,_,_⟩) a1x.row rfl (.tmp 3) rfl rfl (t.out.s (g3,22,(bv lm).toArray) (by simp)) (bsize nlm.out) ?_)
  | (go_at_call 122;(with_reducible refine(cy_.out _).mono ?_);rintro e v ⟨rfl,kk⟩;replace t:=hjd (t.out.kept kk);clear kk)
  | ((with_reducible refine a0e (o:=⟨some 7,_,_,_,_,_⟩) rfl rfl a1v ?_);intro g7 w7 m7;have N7:=hjd (fun p hp=>m7.ne (t.out.s p hp).lt);have L7:=hjd (Nat.le_trans t.out.k.size m7.le);replace t:=hjd ((t.out.kept m7.kept).cons (show Blk w7 g7 27 (iv (fam 16 zd)).toArray from m7.blk));clear m7)
  | ((refine a0b (o:=⟨none,.store 27 (.tmp 7) (.tmp 22),_,_,_,_⟩) a0y.row rfl (.tmp 7) (.tmp 22) rfl rfl rfl (t.out.s (g7,27,(iv (fam 16 zd)).toArray) (by simp)) rfl rfl (a1f _) ?_);intro v7 b7 k7;replace t:=hjd (t.out.again L7.out N7.out b7 k7);clear b7 k7)
  | (with_reducible refine a0a (o:=⟨some 24,_,_,_,_,_⟩) a2f rfl (.tmp 2) rfl rfl (t.out.s (g2,29,(iv (fam 16 dc)).toArray) (by simp)) rfl ?_)
  | (with_reducible refine a0a (o:=⟨some 25,_,_,_,_,_⟩) a0y.row rfl (.tmp 7) rfl rfl (t.out.s (g7,27,(iv (fam 16 dy)).toArray) (by simp)) rfl ?_)
  | (go_at_call 109;(with_reducible refine(crt.out _).mono ?_);rintro e v ⟨rfl,kk⟩;replace t:=hjd (t.out.kept kk);clear kk)
  | ((with_reducible refine a0e (o:=⟨some 8,_,_,_,_,_⟩) rfl rfl a1v ?_);intro g8 w8 m8;have N8:=hjd (fun p hp=>m8.ne (t.out.s p hp).lt);have L8:=hjd (Nat.le_trans t.out.k.size m8.le);replace t:=hjd ((t.out.kept m8.kept).cons (show Blk w8 g8 27 (iv (fam 16 zd)).toArray from m8.blk));clear m8)
  | ((refine a0b (o:=⟨none,.store 27 (.tmp 8) (.tmp 27),_,_,_,_⟩) a0y.row rfl (.tmp 8) (.tmp 27) rfl rfl rfl (t.out.s (g8,27,(iv (fam 16 zd)).toArray) (by simp)) rfl rfl (a1f _) ?_);intro v8 b8 k8;replace t:=hjd (t.out.again L8.out N8.out b8 k8);clear b8 k8)
  | (with_reducible refine a0a (o:=⟨some 47,_,_,_,_,_⟩) a0y.row rfl (.tmp 8) rfl rfl (t.out.s (g8,27,(iv (fam 16 xr)).toArray) (by simp)) rfl ?_)
  | (with_reducible refine a0a (o:=⟨some 48,_,_,_,_,_⟩) a0y.row rfl (.tmp 7) rfl rfl (t.out.s (g7,27,(iv (fam 16 dy)).toArray) (by simp)) rfl ?_)
  | (go_at_call 110;(with_reducible refine(con.out _).mono ?_);rintro e v ⟨rfl,kk⟩;replace t:=hjd (t.out.kept kk);clear kk)
  | ((refine a0b (o:=⟨none,.store 85 (.tmp 4) (.tmp 49),_,_,_,_⟩) a0z rfl (.tmp 4) (.tmp 49) rfl rfl rfl (t.out.s (g4,85,rz.c.toArray) (by simp)) (R4.size rz) (R4.size R) (R4.one R) ?_);intro v4 b4 k4;have bR:=hjd b4;have kR:=hjd k4;clear b4 k4))
 exact a1p a0z rfl rfl bR.out (R4.size _) rfl ⟨rfl,t.out.k.a0n kR.out L4.out⟩
end Go.Proofs.YtdbngnlpafcogaaGreat
namespace Go.Proofs.YtdbngnlpafcogaaGreat
open Go.RowKit Go.Mem Go.Txt
theorem c9p(P:Ed.Pt):enc P % a2g=P.y.v:=by
 have hyl:=b3q P.y
 unfold enc a2g PP at *
 split <;> omega
theorem e6i(P:Ed.Pt):a2g≤enc P↔P.x.v % 2=1:=by
 have hyl:=b3q P.y
 unfold enc a2g PP at *
 split <;> omega
theorem d0e{X:Nat}(hX:X < b1q):128≤c31 X↔a2g≤X:=by
 have:=c9x hX
 unfold dcO at this
 exact decide_eq_decide.1 this
theorem d2f{x:Ed.Fq}(h:x.v % 2=0)(h0:¬x.v=0):(-x).v % 2=1:=by
 have hl:=b3q x
 have hp:=d5z
 rw [d1m,if_neg h0]
 omega
theorem c8v{y x z:Ed.Fq}(h:b8s y x)(h2:b8s y z)(hx:x.v % 2=0)(hz:z.v % 2=0):x=z:=by
 rcases c4q h h2 with e | e
 ·exact e
 ·by_cases h0:z.v=0
  ·apply Ed.Fq.ext
   rw [e,d1m,if_pos h0,h0]
  ·have:=d2f hz h0
   rw [←e]at this
   omega
theorem e5s{y:Ed.Fq}(h:∃x,b8s y x):∃x,b8s y x∧x.v % 2=0:=by
 obtain⟨x,hx⟩:=h
 by_cases ho:x.v % 2=1
 ·exact⟨-x,by unfold b8s;rw [b7g];exact hx,b7m ho⟩
 ·exact⟨x,hx,by omega⟩
theorem e1c{dc:Nat→Int}{y x:Ed.Fq}(hD:Dq 70000 dc Ed.D)(h:b8s y x)(he:x.v % 2=0)(dy:Nat→Int)(hy:Dq 70000 dy y):∃r,RtC dc dy r true∧Dq 70000 r x:=by
 rcases e1o hD hy with⟨z,r,c,hr,hz,hze⟩ | ⟨_,hn⟩
 ·rw [c8v hz h hze he]at hr
  exact⟨r,c,hr⟩
 ·exact absurd h (hn x)
theorem rdec_r{dc:Nat→Int}(hD:Dq 70000 dc Ed.D){X:Nat}(hX:X < b1q):(∃P r,enc P=X∧RdC dc (le X 32) r true∧Rr r P)∨(RdC dc (le X 32) rz false∧∀P,enc P≠X):=by
 have hg:RgC (le (X % a2g) 32) (dcN X):=fun W=>b5b _ (a0o _ _) W
 cases hn:dcN X with
 | false=>
   rw [hn]at hg
   right
   refine⟨?_,fun P hP=>?_⟩
   ·by_cases ho:128≤c31 X
    ·exact e4t hD ho hg
    ·exact e2c hD ho hg
   ·have h1:=c9p P
    have h2:=b3q P.y
    rw [hP]at h1
    rw [d1d]at hn
    exact absurd (h1▸h2) (of_decide_eq_false hn)
 | true=>
   rw [hn]at hg
   have hyP:∀P,enc P=X→P.y=yOf X:=fun P hP=>Ed.Fq.ext (by rw [e3e hn,←hP,c9p])
   by_cases hex:∃x,b8s (yOf X) x
   ·obtain⟨x,hx,he⟩:=e5s hex
    have hrt:=e1c hD hx he
    by_cases ho:128≤c31 X
    ·have ht:=(d0e hX).1 ho
     by_cases hz:x.v=0
     ·right
      refine⟨e6h hD ho hg hrt hz,fun P hP=>?_⟩
      have h1:=(e6i P).1 (by rw [hP];exact ht)
      have h2:=c2h P
      rw [hyP P hP]at h2
      have h3:P.x=0∨P.x=0:=by
       have hx0:x=0:=Ed.Fq.ext (hz.trans Ed.b2m.symm)
       rcases c4q h2 hx with e | e
       ·exact .inl (e.trans hx0)
       ·rw [hx0]at e
        exact .inr (e.trans (by grind))
      rcases h3 with e | e <;> (rw [e,Ed.b2m]at h1;omega)
     ·left
      have hon:b8s (yOf X) (-x):=by unfold b8s;rw [b7g];exact hx
      obtain⟨r,c,hr⟩:=e6m hD ho hg hrt hz (P:=⟨-x,yOf X,d1h hon⟩) rfl rfl
      exact⟨_,r,c5q hX hn rfl ⟨fun _=>ht,fun _=>d2f he hz⟩,c,hr⟩
    ·left
     obtain⟨r,c,hr⟩:=e2k hD ho hg hrt (P:=⟨x,yOf X,d1h hx⟩) rfl rfl
     have ht:=fun h=>ho ((d0e hX).2 h)
     exact⟨_,r,c5q hX hn rfl ⟨fun e=>by have e2:x.v % 2=1:=e;omega,fun h=>absurd h ht⟩,c,hr⟩
   ·right
    have hrt:∀dy,Dq 70000 dy (yOf X)→RtC dc dy zd false:=fun dy hy=>by
     rcases e1o hD hy with⟨z,r,c,hr,hz,hze⟩ | ⟨h,_⟩
     ·exact absurd ⟨z,hz⟩ hex
     ·exact h
    refine⟨?_,fun P hP=>hex ⟨P.x,by rw [←hyP P hP];exact c2h P⟩⟩
    by_cases ho:128≤c31 X
    ·exact e3x hD ho hg hrt
    ·exact e6n hD ho hg hrt
theorem base_y:Ed.mk 4 * Ed.inv (Ed.mk 5)=BB.y:=by
 have h5:Ed.mk 5≠0:=fun e=>absurd (Ed.mk_eq.1 e) (by decide +kernel)
 refine c0z h5 ?_
 exact Ed.Fq.ext (by decide +kernel)
theorem e4v:BB.x.v % 2=0:=by decide +kernel
abbrev RbC(d:Nat→Int)(r:R4):Prop:=∀W,Calls Tryz.prog 42 #[nu d] W fun e w'=>e= .returned r.v∧Kept [] W w'
theorem b9j(xs:Array Value)(w:World):(callFunc 42 xs).run Tryz.prog w= .ok (.enter 42 xs) w:=enters_of (c:=_) Tryz.func42 (by kernel_rfl) rfl xs w
theorem b3n(xs:Array Value)(w:World):(callFunc 41 xs).run Tryz.prog w= .ok (.enter 41 xs) w:=enters_of (c:=_) Tryz.func41 (by kernel_rfl) rfl xs w
set_option maxHeartbeats 4000000 in
theorem e6k{dc:Nat→Int}(hD:Dq 70000 dc Ed.D):∃r,RbC dc r∧Rr r BB:=by
 obtain⟨d1,c1,h1⟩:=b5i 4 (z:=4) (by omega) rfl
 obtain⟨d2,c2,h2⟩:=b5i 5 (z:=5) (by omega) rfl
 obtain⟨d3,c3,h3⟩:=b0o h2 (by omega)
 obtain⟨d4,c4,h4⟩:=a1q h1 h3 (by omega) (by omega)
 have hyB:=h4.to base_y
 obtain⟨xr,crt,hx⟩:=e1c hD (c2h BB) e4v _ hyB
 obtain⟨R,con,hR⟩:=on_r (P:=BB) hx hyB
 refine⟨R,?_,hR⟩
 intro w
 replace c1:=hjd c1
 replace c2:=hjd c2
 replace c3:=hjd c3
 replace c4:=hjd c4
 replace crt:=hjd crt
 replace con:=hjd con
 clear hD hR hx hyB h1 h2 h3 h4
 go_enter Tryz.func42,Tryz.ntmps42
 have t:=hjd (Pm.none w)
 go_wp2_with (first
  | ((with_reducible refine a0j (o:=⟨some 1,_,_,_,_,_⟩) (v:=nu dc) rfl (.tmp 0) rfl rfl ?_);intro g1 w1 m1;have N1:=hjd (fun p hp=>m1.ne (t.out.s p hp).lt);have L1:=hjd (Nat.le_trans t.out.k.size m1.le);replace t:=hjd ((t.out.kept m1.kept).cons (show Blk w1 g1 29 (iv (fam 16 dc)).toArray from m1.blk));clear m1)
  | ((with_reducible refine a0e (o:=⟨some 2,_,_,_,_,_⟩) rfl rfl a4m ?_);intro g2 w2 m2;have N2:=hjd (fun p hp=>m2.ne (t.out.s p hp).lt);have L2:=hjd (Nat.le_trans t.out.k.size m2.le);replace t:=hjd ((t.out.kept m2.kept).cons (show Blk w2 g2 85 rz.c.toArray from m2.blk));clear m2)
  | (go_at_call 86;(with_reducible refine(c1.out _).mono ?_);rintro e v ⟨rfl,kk⟩;replace t:=hjd (t.out.kept kk);clear kk)
  | (go_at_call 86;(with_reducible refine(c2.out _).mono ?_);rintro e v ⟨rfl,kk⟩;replace t:=hjd (t.out.kept kk);clear kk)
  | (go_at_call 87;(with_reducible refine(c3.out _).mono ?_);rintro e v ⟨rfl,kk⟩;replace t:=hjd (t.out.kept kk);clear kk)
  | (go_at_call 84;(with_reducible refine(c4.out _).mono ?_);rintro e v ⟨rfl,kk⟩;replace t:=hjd (t.out.kept kk);clear kk)
  | ((with_reducible refine a0e (o:=⟨some 3,_,_,_,_,_⟩) rfl rfl a1v ?_);intro g3 w3 m3;have N3:=hjd (fun p hp=>m3.ne (t.out.s p hp).lt);have L3:=hjd (Nat.le_trans t.out.k.size m3.le);replace t:=hjd ((t.out.kept m3.kept).cons (show Blk w3 g3 27 (iv (fam 16 zd)).toArray from m3.blk));clear m3)
  | ((refine a0b (o:=⟨none,.store 27 (.tmp 3) (.tmp 9),_,_,_,_⟩) a0y.row rfl (.tmp 3) (.tmp 9) rfl rfl rfl (t.out.s (g3,27,(iv (fam 16 zd)).toArray) (by simp)) rfl rfl (a1f _) ?_);intro v3 b3 k3;replace t:=hjd (t.out.again L3.out N3.out b3 k3);clear b3 k3)
  | (with_reducible refine a0a (o:=⟨some 11,_,_,_,_,_⟩) a2f rfl (.tmp 1) rfl rfl (t.out.s (g1,29,(iv (fam 16 dc)).toArray) (by simp)) rfl ?_)
  | (with_reducible refine a0a (o:=⟨some 12,_,_,_,_,_⟩) a0y.row rfl (.tmp 3) rfl rfl (t.out.s (g3,27,(iv (fam 16 d4)).toArray) (by simp)) rfl ?_)
  | (go_at_call 109;(with_reducible refine(crt.out _).mono ?_);rintro e v ⟨rfl,kk⟩;replace t:=hjd (t.out.kept kk);clear kk)
  | ((with_reducible refine a0e (o:=⟨some 4,_,_,_,_,_⟩) rfl rfl a1v ?_);intro g4 w4 m4;have N4:=hjd (fun p hp=>m4.ne (t.out.s p hp).lt);have L4:=hjd (Nat.le_trans t.out.k.size m4.le);replace t:=hjd ((t.out.kept m4.kept).cons (show Blk w4 g4 27 (iv (fam 16 zd)).toArray from m4.blk));clear m4)
  | ((refine a0b (o:=⟨none,.store 27 (.tmp 4) (.tmp 14),_,_,_,_⟩) a0y.row rfl (.tmp 4) (.tmp 14) rfl rfl rfl (t.out.s (g4,27,(iv (fam 16 zd)).toArray) (by simp)) rfl rfl (a1f _) ?_);intro v4 b4 k4;replace t:=hjd (t.out.again L4.out N4.out b4 k4);clear b4 k4)
  | (with_reducible refine a0a (o:=⟨some 16,_,_,_,_,_⟩) a0y.row rfl (.tmp 4) rfl rfl (t.out.s (g4,27,(iv (fam 16 xr)).toArray) (by simp)) rfl ?_)
  | (with_reducible refine a0a (o:=⟨some 17,_,_,_,_,_⟩) a0y.row rfl (.tmp 3) rfl rfl (t.out.s (g3,27,(iv (fam 16 d4)).toArray) (by simp)) rfl ?_)
  | (go_at_call 110;(with_reducible refine(con.out _).mono ?_);rintro e v ⟨rfl,kk⟩;replace t:=hjd (t.out.kept kk);clear kk)
  | ((refine a0b (o:=⟨none,.store 85 (.tmp 2) (.tmp 18),_,_,_,_⟩) a0z rfl (.tmp 2) (.tmp 18) rfl rfl rfl (t.out.s (g2,85,rz.c.toArray) (by simp)) (R4.size rz) (R4.size R) (R4.one R) ?_);intro v2 b2 k2;have bR:=hjd b2;have kR:=hjd k2;clear b2 k2))
 exact a1b a0z rfl rfl bR.out (R4.size _) rfl ⟨rfl,t.out.k.a0n kR.out L2.out⟩
end Go.Proofs.YtdbngnlpafcogaaGreat
