/-
  The document's curve: its functions.
  The document's curve: which bytes are points; the base point.
-/
import Derived.Test.YtdbngnlpafcogaaGreatZmRr5
set_option maxRecDepth 100000
namespace Go.Proofs.YtdbngnlpafcogaaGreat
open Go.RowKit Go.Mem Go.Txt
theorem c5n(x:Ed.Fq):(Ed.mk 0 - x) * Ed.mk 1= -x:=by
 show(0 - x) * 1= -x
 grind
theorem d1i(x:Ed.Fq): -x * -x=x * x:=by grind
theorem c6e{x:Ed.Fq}(h:x.v % 2=1):(-x).v % 2=0:=by
 have hl:=b8k x
 have hp:=d8v
 rw [d3e]
 split <;> omega
def d2q(y x:Ed.Fq):Prop:=x * x * (y * y * Ed.D + Ed.mk 1)=y * y - Ed.mk 1
theorem root_r{dc dy:Nat→Int}{y:Ed.Fq}(hD:Dq 70000 dc Ed.D)(hy:Dq 70000 dy y):(∃x r,RtC dc dy r true∧Dq 70000 r x∧d2q y x∧x.v % 2=0)∨(RtC dc dy zd false∧∀x,¬d2q y x):=by
 by_cases hs0:(rX0 y * rX0 y).v=(rW y).v
 ·have hr:=c8f (Ed.Fq.ext hs0)
  left
  by_cases ho:(rX0 y).v % 2=1
  ·obtain⟨r,c,h⟩:=d5x hD hy hs0 ho
   rw [c5n]at h
   exact⟨_,r,c,h,by unfold d2q;rw [d1i];exact hr,c6e ho⟩
  ·obtain⟨r,c,h⟩:=d8d hD hy hs0 ho
   exact⟨_,r,c,h,hr,by omega⟩
 ·by_cases hs1:(rX1 y * rX1 y).v=(rW y).v
  ·have hr:=c8f (Ed.Fq.ext hs1)
   left
   by_cases ho:(rX1 y).v % 2=1
   ·obtain⟨r,c,h⟩:=d6b hD hy hs0 hs1 ho
    rw [c5n]at h
    exact⟨_,r,c,h,by unfold d2q;rw [d1i];exact hr,c6e ho⟩
   ·obtain⟨r,c,h⟩:=d4f hD hy hs0 hs1 ho
    exact⟨_,r,c,h,hr,by omega⟩
  ·right
   exact⟨root_C hD hy hs0 hs1,fun x h=>(rX_two (c1l h)).elim (fun e=>hs0 (by rw [e])) fun e=>hs1 (by rw [e])⟩
theorem e2g(P:Ed.Pt):d2q P.y P.x:=by
 unfold d2q
 have h:=on_x P
 show P.x * P.x * (P.y * P.y * Ed.D + 1)=P.y * P.y - 1
 rw [←h]
 generalize Ed.D=D
 clear h
 grind
theorem d7l{y x z:Ed.Fq}(h:d2q y x)(h2:d2q y z):x=z∨x= -z:=by
 apply c8l
 rw [c1l h,c1l h2]
end Go.Proofs.YtdbngnlpafcogaaGreat
namespace Go.Proofs.YtdbngnlpafcogaaGreat
open Go.RowKit Go.Mem Go.Txt
theorem e4c{x:Ed.Fq}(h:x.v % 2=0)(h0:¬x.v=0):(-x).v % 2=1:=by
 have hl:=b8k x
 have hp:=d8v
 rw [d3e,if_neg h0]
 omega
theorem d3i{y x z:Ed.Fq}(h:d2q y x)(h2:d2q y z)(hx:x.v % 2=0)(hz:z.v % 2=0):x=z:=by
 rcases d7l h h2 with e | e
 ·exact e
 ·by_cases h0:z.v=0
  ·apply Ed.Fq.ext
   rw [e,d3e,if_pos h0,h0]
  ·have:=e4c hz h0
   rw [←e]at this
   omega
theorem root_x{dc:Nat→Int}{y x:Ed.Fq}(hD:Dq 70000 dc Ed.D)(h:d2q y x)(he:x.v % 2=0)(dy:Nat→Int)(hy:Dq 70000 dy y):∃r,RtC dc dy r true∧Dq 70000 r x:=by
 rcases root_r hD hy with⟨z,r,c,hr,hz,hze⟩ | ⟨_,hn⟩
 ·rw [d3i hz h hze he]at hr
  exact⟨r,c,hr⟩
 ·exact absurd h (hn x)
theorem base_y:Ed.mk 4 * Ed.inv (Ed.mk 5)=BB.y:=by
 have h5:Ed.mk 5≠0:=fun e=>absurd (Ed.mk_eq.1 e) (by decide +kernel)
 refine b9a h5 ?_
 exact Ed.Fq.ext (by decide +kernel)
theorem e4w:BB.x.v % 2=0:=by decide +kernel
abbrev RbC(d:Nat→Int)(r:R4):Prop:=∀W,Calls Tryz.prog 42 #[nu d] W fun e w'=>e= .returned r.v∧Kept [] W w'
theorem b2f(xs:Array Value)(w:World):(callFunc 42 xs).run Tryz.prog w= .ok (.enter 42 xs) w:=enters_of (c:=_) Tryz.func42 (by kernel_rfl) rfl xs w
theorem b4r(xs:Array Value)(w:World):(callFunc 41 xs).run Tryz.prog w= .ok (.enter 41 xs) w:=enters_of (c:=_) Tryz.func41 (by kernel_rfl) rfl xs w
set_option maxHeartbeats 4000000 in
theorem e4e{dc:Nat→Int}(hD:Dq 70000 dc Ed.D):∃r,RbC dc r∧Rr r BB:=by
 obtain⟨d1,c1,h1⟩:=c0f 4 (z:=4) (by omega) rfl
 obtain⟨d2,c2,h2⟩:=c0f 5 (z:=5) (by omega) rfl
 obtain⟨d3,c3,h3⟩:=b0d h2 (by omega)
 obtain⟨d4,c4,h4⟩:=a1s h1 h3 (by omega) (by omega)
 have hyB:=h4.to base_y
 obtain⟨xr,crt,hx⟩:=root_x hD (e2g BB) e4w _ hyB
 obtain⟨R,con,hR⟩:=on_r (P:=BB) hx hyB
 refine⟨R,?_,hR⟩
 intro w
 replace c1:=hjd c1
 replace c2:=hjd c2
 replace c3:=hjd c3
 replace c4:=hjd c4
 replace crt:=hjd crt
 replace con:=hjd con
 clear hD hR hx hyB h1 h2 h3 h4
 go_enter Tryz.func42,Tryz.ntmps42
 have t:=hjd (Pm.none w)
 go_wp2_with (first
  | ((with_reducible refine a0m (o:=⟨some 1,_,_,_,_,_⟩) (v:=nu dc) rfl (.tmp 0) rfl rfl ?_);intro g1 w1 m1;have N1:=hjd (fun p hp=>m1.ne (t.out.s p hp).lt);have L1:=hjd (Nat.le_trans t.out.k.size m1.le);replace t:=hjd ((t.out.kept m1.kept).cons (show Blk w1 g1 29 (iv (fam 16 dc)).toArray from m1.blk));clear m1)
  | ((with_reducible refine a0f (o:=⟨some 2,_,_,_,_,_⟩) rfl rfl b5x ?_);intro g2 w2 m2;have N2:=hjd (fun p hp=>m2.ne (t.out.s p hp).lt);have L2:=hjd (Nat.le_trans t.out.k.size m2.le);replace t:=hjd ((t.out.kept m2.kept).cons (show Blk w2 g2 85 rz.c.toArray from m2.blk));clear m2)
  | (go_at_call 86;(with_reducible refine(c1.out _).mono ?_);rintro e v ⟨rfl,kk⟩;replace t:=hjd (t.out.kept kk);clear kk)
  | (go_at_call 86;(with_reducible refine(c2.out _).mono ?_);rintro e v ⟨rfl,kk⟩;replace t:=hjd (t.out.kept kk);clear kk)
  | (go_at_call 87;(with_reducible refine(c3.out _).mono ?_);rintro e v ⟨rfl,kk⟩;replace t:=hjd (t.out.kept kk);clear kk)
  | (go_at_call 84;(with_reducible refine(c4.out _).mono ?_);rintro e v ⟨rfl,kk⟩;replace t:=hjd (t.out.kept kk);clear kk)
  | ((with_reducible refine a0f (o:=⟨some 3,_,_,_,_,_⟩) rfl rfl a2i ?_);intro g3 w3 m3;have N3:=hjd (fun p hp=>m3.ne (t.out.s p hp).lt);have L3:=hjd (Nat.le_trans t.out.k.size m3.le);replace t:=hjd ((t.out.kept m3.kept).cons (show Blk w3 g3 27 (iv (fam 16 zd)).toArray from m3.blk));clear m3)
  | ((refine a0b (o:=⟨none,.store 27 (.tmp 3) (.tmp 9),_,_,_,_⟩) a1c.row rfl (.tmp 3) (.tmp 9) rfl rfl rfl (t.out.s (g3,27,(iv (fam 16 zd)).toArray) (by simp)) rfl rfl (a1j _) ?_);intro v3 b3 k3;replace t:=hjd (t.out.again L3.out N3.out b3 k3);clear b3 k3)
  | (with_reducible refine a0a (o:=⟨some 11,_,_,_,_,_⟩) a3c rfl (.tmp 1) rfl rfl (t.out.s (g1,29,(iv (fam 16 dc)).toArray) (by simp)) rfl ?_)
  | (with_reducible refine a0a (o:=⟨some 12,_,_,_,_,_⟩) a1c.row rfl (.tmp 3) rfl rfl (t.out.s (g3,27,(iv (fam 16 d4)).toArray) (by simp)) rfl ?_)
  | (go_at_call 109;(with_reducible refine(crt.out _).mono ?_);rintro e v ⟨rfl,kk⟩;replace t:=hjd (t.out.kept kk);clear kk)
  | ((with_reducible refine a0f (o:=⟨some 4,_,_,_,_,_⟩) rfl rfl a2i ?_);intro g4 w4 m4;have N4:=hjd (fun p hp=>m4.ne (t.out.s p hp).lt);have L4:=hjd (Nat.le_trans t.out.k.size m4.le);replace t:=hjd ((t.out.kept m4.kept).cons (show Blk w4 g4 27 (iv (fam 16 zd)).toArray from m4.blk));clear m4)
  | ((refine a0b (o:=⟨none,.store 27 (.tmp 4) (.tmp 14),_,_,_,_⟩) a1c.row rfl (.tmp 4) (.tmp 14) rfl rfl rfl (t.out.s (g4,27,(iv (fam 16 zd)).toArray) (by simp)) rfl rfl (a1j _) ?_);intro v4 b4 k4;replace t:=hjd (t.out.again L4.out N4.out b4 k4);clear b4 k4)
  | (with_reducible refine a0a (o:=⟨some 16,_,_,_,_,_⟩) a1c.row rfl (.tmp 4) rfl rfl (t.out.s (g4,27,(iv (fam 16 xr)).toArray) (by simp)) rfl ?_)
  | (with_reducible refine a0a (o:=⟨some 17,_,_,_,_,_⟩) a1c.row rfl (.tmp 3) rfl rfl (t.out.s (g3,27,(iv (fam 16 d4)).toArray) (by simp)) rfl ?_)
  | (go_at_call 110;(with_reducible refine(con.out _).mono ?_);rintro e v ⟨rfl,kk⟩;replace t:=hjd (t.out.kept kk);clear kk)
  | ((refine a0b (o:=⟨none,.store 85 (.tmp 2) (.tmp 18),_,_,_,_⟩) a2k rfl (.tmp 2) (.tmp 18) rfl rfl rfl (t.out.s (g2,85,rz.c.toArray) (by simp)) (R4.size rz) (R4.size R) (R4.one R) ?_);intro v2 b2 k2;have bR:=hjd b2;have kR:=hjd k2;clear b2 k2))
 exact a0y a2k rfl rfl bR.out (R4.size _) rfl ⟨rfl,t.out.k.a0n kR.out L2.out⟩
end Go.Proofs.YtdbngnlpafcogaaGreat
