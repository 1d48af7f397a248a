/-
  The document's curve: its functions.
-/
import Derived.Test.YtdbngnlpafcogaaGreatZmRr4
set_option maxRecDepth 100000
namespace Go.Proofs.YtdbngnlpafcogaaGreat
open Go.RowKit Go.Mem Go.Txt
@[irreducible] def xP:Nat:=2 ^ 252 - 2
@[irreducible] def xI:Nat:=2 ^ 253 - 5
theorem xP_eq:2 ^ 252 - 2=xP:=by unfold xP;rfl
theorem xI_eq:2 ^ 253 - 5=xI:=by unfold xI;rfl
theorem xI_lt:xI < 2 ^ 255:=by unfold xI;decide +kernel
theorem xP_pos:0 < xP:=by unfold xP;decide +kernel
theorem TE_xP:TE=xP:=by unfold TE xP;decide +kernel
@[irreducible] def rtP (a:Ed.Fq):Ed.Fq:=Ed.mk (a.v ^ xP)
@[irreducible] def pwI (a:Ed.Fq):Ed.Fq:=Ed.mk (a.v ^ xI)
theorem b9l{M:Int}{d:Nat→Int}{a:Ed.Fq}(h:Dq M d a)(hM:M≤280000):∃r,RpC d 252 2 r∧Dq 70000 r (rtP a):=by
 have:=d1u h hM 252 2 (zn:=252) (zl:=2) rfl rfl (by omega) (by decide +kernel) (by omega)
 rw [xP_eq]at this
 unfold rtP
 exact this
theorem d2k{M:Int}{d:Nat→Int}{a:Ed.Fq}(h:Dq M d a)(hM:M≤280000):∃r,RpC d 253 5 r∧Dq 70000 r (pwI a):=by
 have:=d1u h hM 253 5 (zn:=253) (zl:=5) rfl rfl (by omega) (by decide +kernel) (by omega)
 rw [xI_eq]at this
 unfold pwI
 exact this
def rW(y:Ed.Fq):Ed.Fq:=(y * y - Ed.mk 1) * Ed.inv (y * y * Ed.D + Ed.mk 1)
def rX0(y:Ed.Fq):Ed.Fq:=rtP (rW y)
def rX1(y:Ed.Fq):Ed.Fq:=rX0 y * pwI (Ed.mk 2)
theorem pwI_sq:pwI (Ed.mk 2) * pwI (Ed.mk 2)= -1:=by
 unfold pwI
 rw [show(Ed.mk 2).v=2 from by decide +kernel]
 have h:=Go.Nt.d7e PP 255 2 xI xI_lt
 have e:Ed.mk (2 ^ xI)=Ed.mk (Go.Nt.pm PP 255 2 xI):=by
  rw [h]
  exact(a7n _).symm
 rw [e]
 have e2:Ed.mk (Go.Nt.pm PP 255 2 xI) * Ed.mk (Go.Nt.pm PP 255 2 xI) + 1=0:=Ed.Fq.ext (by unfold xI;decide +kernel)
 generalize Ed.mk (Go.Nt.pm PP 255 2 xI)=m at *
 clear e h
 grind
theorem rv_ne(y:Ed.Fq):y * y * Ed.D + Ed.mk 1≠0:=by
 have h:=v_ne y
 rwa [show Ed.D * y * y + 1=y * y * Ed.D + 1 from by generalize Ed.D=D;clear h;grind]at h
theorem c8f{y x:Ed.Fq}(h:x * x=rW y):x * x * (y * y * Ed.D + Ed.mk 1)=y * y - Ed.mk 1:=by
 rw [h]
 unfold rW
 have h1:=Ed.a4j _ (rv_ne y)
 generalize Ed.inv (y * y * Ed.D + Ed.mk 1)=i at *
 generalize y * y * Ed.D + Ed.mk 1=v at *
 generalize y * y - Ed.mk 1=u at *
 clear h
 grind
theorem c1l{y x:Ed.Fq}(h:x * x * (y * y * Ed.D + Ed.mk 1)=y * y - Ed.mk 1):x * x=rW y:=by
 unfold rW
 rw [←h]
 have h1:=Ed.a4j _ (rv_ne y)
 generalize Ed.inv (y * y * Ed.D + Ed.mk 1)=i at *
 generalize y * y * Ed.D + Ed.mk 1=v at *
 clear h
 grind
theorem rX_two{y x:Ed.Fq}(h:x * x=rW y):rX0 y * rX0 y=rW y∨rX1 y * rX1 y=rW y:=by
 have hsq:x.v * x.v % PP=(rW y).v % PP:=by
  have:=congrArg Ed.Fq.v h
  rw [e3c]at this
  rw [this,Nat.mod_eq_of_lt (b8k _)]
 have ht:rX0 y=Ed.mk (b6i (rW y).v):=by
  unfold rX0 rtP
  exact Ed.mk_eq.2 (by
   have e:=b7e (rW y).v
   rw [TE_xP]at e
   exact e.symm)
 rcases e0v hsq with h1 | h0
 ·have h4:=c6g h1
  have e:(rX0 y * rX0 y) * (rX0 y * rX0 y)=rW y * rW y:=by
   rw [ht]
   apply Ed.Fq.ext
   show b6i (rW y).v % PP * (b6i (rW y).v % PP) % PP * (b6i (rW y).v % PP * (b6i (rW y).v % PP) % PP) % PP=(rW y).v * (rW y).v % PP
   rw [←h4]
   simp only [Nat.mul_mod,Nat.mod_mod]
  rcases c8l e with e1 | e1
  ·exact .inl e1
  ·right
   unfold rX1
   have hI:=pwI_sq
   generalize pwI (Ed.mk 2)=I at *
   generalize rX0 y=a at *
   generalize rW y=w at *
   clear ht h4 h1 hsq h e
   have e2:a * I * (a * I)=a * a * (I * I):=by clear e1 hI;grind
   rw [e2,e1,hI]
   clear e1 e2 hI
   grind
 ·left
  have hw:rW y=0:=Ed.Fq.ext (by rw [Ed.b6b];rwa [Nat.mod_eq_of_lt (b8k _)]at h0)
  have ht0:rX0 y=0:=by
   rw [ht]
   refine Ed.mk_eq.2 ?_
   have e:=b7e (rW y).v
   rw [TE_xP]at e
   exact(e.trans (b9u h0 xP_pos)).trans (Nat.zero_mod _).symm
  rw [ht0,hw]
  grind
abbrev RtC(d y r:Nat→Int)(b:Bool):Prop:=∀W,Calls Tryz.prog 109 #[nu d,nu y] W fun e w'=>e= .returned (.tuple #[nu r,.bool b])∧Kept [] W w'
set_option maxHeartbeats 4000000 in
theorem d5x{dc dy:Nat→Int}{y:Ed.Fq}(hD:Dq 70000 dc Ed.D)(hy:Dq 70000 dy y)(hs0:(rX0 y * rX0 y).v=(rW y).v)(ho:(rX0 y).v % 2=1):∃r,RtC dc dy r true∧Dq 70000 r ((Ed.mk 0 - rX0 y) * Ed.mk 1):=by
 obtain⟨d1,c1,h1⟩:=a1s hy hy (by omega) (by omega)
 obtain⟨d2,c2,h2⟩:=c0f 1 (z:=1) (by omega) rfl
 obtain⟨d3,c3,h3⟩:=b1e h1 h2 (by omega) (by omega)
 obtain⟨d4,c4,h4⟩:=a1s h1 hD (by omega) (by omega)
 obtain⟨d5,c5,h5⟩:=b2g h4 h2 (by omega) (by omega)
 obtain⟨d6,c6,h6⟩:=b0d h5 (by omega)
 obtain⟨d7,c7,h7⟩:=a1s h3 h6 (by omega) (by omega)
 obtain⟨d8,c8,h8⟩:=b9l h7 (by omega)
 obtain⟨d9,c9,h9⟩:=a1s h8 h8 (by omega) (by omega)
 have c10:ReC d9 d7 true:=a8d h9 h7 (by omega) (by omega) (decide_eq_true hs0)
 obtain⟨l11,c11,e11,nl11⟩:=a6d h8 (by omega)
 obtain⟨d12,c12,h12⟩:=c0f 0 (z:=0) (by omega) rfl
 obtain⟨d13,c13,h13⟩:=b1e h12 h8 (by omega) (by omega)
 obtain⟨d14,c14,h14⟩:=a1s h13 h2 (by omega) (by omega)
 have hb:=a9b (rX0 y).v e11
 have ho2:(((rX0 y).v % 256:Nat):Int).tmod 2=1:=by rw [Int.tmod_eq_emod_of_nonneg (by omega)];omega
 refine⟨d14,?_,h14⟩
 generalize (rX0 y).v % 256=xb at *
 clear e11 ho
 intro w
 replace c1:=hjd c1
 replace c2:=hjd c2
 replace c3:=hjd c3
 replace c4:=hjd c4
 replace c5:=hjd c5
 replace c6:=hjd c6
 replace c7:=hjd c7
 replace c8:=hjd c8
 replace c9:=hjd c9
 replace c10:=hjd c10
 replace nl11:=hjd nl11
 replace c11:=hjd c11
 replace c12:=hjd c12
 replace c13:=hjd c13
 replace c14:=hjd c14
 clear hD hy hs0 h1 h2 h3 h4 h5 h6 h7 h8 h9 h12 h13 h14
 go_enter Tryz.func109,Tryz.ntmps109
 have t:=hjd (Pm.none w)
 go_wp2_with (first
  | ((with_reducible refine a0m (o:=⟨some 2,_,_,_,_,_⟩) (v:=nu dc) rfl (.tmp 0) rfl rfl ?_);intro g2 w2 m2;have N2:=hjd (fun p hp=>m2.ne (t.out.s p hp).lt);have L2:=hjd (Nat.le_trans t.out.k.size m2.le);replace t:=hjd ((t.out.kept m2.kept).cons (show Blk w2 g2 29 (iv (fam 16 dc)).toArray from m2.blk));clear m2)
  | ((with_reducible refine a0m (o:=⟨some 3,_,_,_,_,_⟩) (v:=nu dy) rfl (.tmp 1) rfl rfl ?_);intro g3 w3 m3;have N3:=hjd (fun p hp=>m3.ne (t.out.s p hp).lt);have L3:=hjd (Nat.le_trans t.out.k.size m3.le);replace t:=hjd ((t.out.kept m3.kept).cons (show Blk w3 g3 27 (iv (fam 16 dy)).toArray from m3.blk));clear m3)
  | ((with_reducible refine a0f (o:=⟨some 4,_,_,_,_,_⟩) rfl rfl a2i ?_);intro g4 w4 m4;have N4:=hjd (fun p hp=>m4.ne (t.out.s p hp).lt);have L4:=hjd (Nat.le_trans t.out.k.size m4.le);replace t:=hjd ((t.out.kept m4.kept).cons (show Blk w4 g4 27 (iv (fam 16 zd)).toArray from m4.blk));clear m4)
  | (with_reducible refine a0a (o:=⟨some 11,_,_,_,_,_⟩) a1c.row rfl (.tmp 3) rfl rfl (t.out.s (g3,27,(iv (fam 16 dy)).toArray) (by simp)) rfl ?_)
  | (with_reducible refine a0a (o:=⟨some 12,_,_,_,_,_⟩) a1c.row rfl (.tmp 3) rfl rfl (t.out.s (g3,27,(iv (fam 16 dy)).toArray) (by simp)) rfl ?_)
  | (go_at_call 84;(with_reducible refine(c1.out _).mono ?_);rintro e v ⟨rfl,kk⟩;replace t:=hjd (t.out.kept kk);clear kk)
  | ((with_reducible refine a0f (o:=⟨some 6,_,_,_,_,_⟩) rfl rfl a2i ?_);intro g6 w6 m6;have N6:=hjd (fun p hp=>m6.ne (t.out.s p hp).lt);have L6:=hjd (Nat.le_trans t.out.k.size m6.le);replace t:=hjd ((t.out.kept m6.kept).cons (show Blk w6 g6 27 (iv (fam 16 zd)).toArray from m6.blk));clear m6)
  | ((refine a0b (o:=⟨none,.store 27 (.tmp 6) (.tmp 13),_,_,_,_⟩) a1c.row rfl (.tmp 6) (.tmp 13) rfl rfl rfl (t.out.s (g6,27,(iv (fam 16 zd)).toArray) (by simp)) rfl rfl (a1j _) ?_);intro v6 b6 k6;replace t:=hjd (t.out.again L6.out N6.out b6 k6);clear b6 k6))
 refine a1b (by kernel_rfl) [.val (nu d1),.val (nu d2),.val (nu d3),.new 27 (nu zd),.put 3 2 (iv (fam 16 d3)).toArray]
  (Pm w [(g6,27,(iv (fam 16 d1)).toArray),(g4,27,(iv (fam 16 zd)).toArray),(g3,27,(iv (fam 16 dy)).toArray),(g2,29,(iv (fam 16 dc)).toArray)]) (by kernel_rfl) (by kernel_rfl) t.out.drew (fun u u' T hS hk hT=>t.out.fresh u u' T hS hk hT) ?_ ?_
 ·refine⟨?_,?_,?_,⟨⟨_,rfl⟩,rfl,a2i⟩,?_,trivial⟩
  ·exact⟨⟨_,rfl⟩,fun a' u K0 R hS hr ho h=>a0g a1c.row (.tmp 6) rfl ((ho 6 (by decide)).trans rfl) (hS.s (g6,27,(iv (fam 16 d1)).toArray) (by simp)) rfl (h u (Kept.refl _ _))⟩
  ·refine⟨⟨_,rfl⟩,fun a' u K0 R hS hr ho h=>a0e rfl a2r (vs:=#[.int .u64 1]) ?_ (c2.out u) h⟩
   simp [Act.eval]
  ·refine⟨⟨_,rfl⟩,fun a' u K0 R hS hr ho h=>a0e rfl a3t (vs:=#[nu d1,nu d2]) ?_ (c3.out u) h⟩
   have x0:=hr 0 (nu d1) 14 _ rfl rfl rfl ⟨⟨0,.data⟩,by simp,rfl,rfl⟩
   have x1:=hr 1 (nu d2) 15 _ rfl rfl rfl ⟨⟨1,.data⟩,by simp,rfl,rfl⟩
   simp [Act.eval]at x0 x1 ⊢
   exact⟨x0,x1⟩
  ·exact⟨rfl,⟨⟨3,.data⟩,by simp,rfl,rfl⟩,⟨⟨2,.data⟩,by simp,rfl,rfl⟩,_,_,_,_,_,_,_,_,rfl,rfl,rfl,rfl,rfl,rfl,rfl,a1c.row,rfl,rfl,a1j _⟩
 intro γ wm hS hγ hne hput
 have b7:=hput 4 3 2 _ _ _ rfl rfl
 have hf7:=hγ 3 _ _ rfl
 generalize e7:γ 3=g7 at *
 simp [a0w,VK,List.range,List.range.loop,Act.put,e7]
 have N7:=hjd (fun p hp=>Nat.ne_of_lt (Nat.lt_of_lt_of_le (t.out.s p hp).lt hf7))
 have L7:=hjd (Nat.le_trans t.out.k.size hf7)
 replace t:=hjd (show Pm w [(g7,27,(iv (fam 16 d3)).toArray),(g6,27,(iv (fam 16 d1)).toArray),(g4,27,(iv (fam 16 zd)).toArray),(g3,27,(iv (fam 16 dy)).toArray),(g2,29,(iv (fam 16 dc)).toArray)] wm from(hS).cons b7)
 clear b7 hf7 hput hne hγ hS e7
 go_wp2_with (first
  | (with_reducible refine a0a (o:=⟨some 17,_,_,_,_,_⟩) a1c.row rfl (.tmp 6) rfl rfl (t.out.s (g6,27,(iv (fam 16 d1)).toArray) (by simp)) rfl ?_)
  | (with_reducible refine a1h (o:=⟨some 19,_,_,_,_,_⟩) a1c.row rfl (.tmp 18) rfl rfl (e7q (t.out.s (g2,29,(iv (fam 16 dc)).toArray) (by simp))) (b1p _) ?_)
  | (go_at_call 84;(with_reducible refine(c4.out _).mono ?_);rintro e v ⟨rfl,kk⟩;replace t:=hjd (t.out.kept kk);clear kk)
  | (go_at_call 86;(with_reducible refine(c2.out _).mono ?_);rintro e v ⟨rfl,kk⟩;replace t:=hjd (t.out.kept kk);clear kk)
  | (go_at_call 123;(with_reducible refine(c5.out _).mono ?_);rintro e v ⟨rfl,kk⟩;replace t:=hjd (t.out.kept kk);clear kk)
  | ((with_reducible refine a0f (o:=⟨some 8,_,_,_,_,_⟩) rfl rfl a2i ?_);intro g8 w8 m8;have N8:=hjd (fun p hp=>m8.ne (t.out.s p hp).lt);have L8:=hjd (Nat.le_trans t.out.k.size m8.le);replace t:=hjd ((t.out.kept m8.kept).cons (show Blk w8 g8 27 (iv (fam 16 zd)).toArray from m8.blk));clear m8)
  | ((refine a0b (o:=⟨none,.store 27 (.tmp 8) (.tmp 22),_,_,_,_⟩) a1c.row rfl (.tmp 8) (.tmp 22) rfl rfl rfl (t.out.s (g8,27,(iv (fam 16 zd)).toArray) (by simp)) rfl rfl (a1j _) ?_);intro v8 b8 k8;replace t:=hjd (t.out.again L8.out N8.out b8 k8);clear b8 k8))
 refine a1b (by kernel_rfl) [.val (nu d3),.val (nu d5),.val (nu d6),.val (nu d7),.new 27 (nu zd),.put 4 3 (iv (fam 16 d7)).toArray]
  (Pm w [(g8,27,(iv (fam 16 d5)).toArray),(g7,27,(iv (fam 16 d3)).toArray),(g6,27,(iv (fam 16 d1)).toArray),(g4,27,(iv (fam 16 zd)).toArray),(g3,27,(iv (fam 16 dy)).toArray),(g2,29,(iv (fam 16 dc)).toArray)]) (by kernel_rfl) (by kernel_rfl) t.out.drew (fun u u' T hS hk hT=>t.out.fresh u u' T hS hk hT) ?_ ?_
 ·refine⟨?_,?_,?_,?_,⟨⟨_,rfl⟩,rfl,a2i⟩,?_,trivial⟩
  ·exact⟨⟨_,rfl⟩,fun a' u K0 R hS hr ho h=>a0g a1c.row (.tmp 7) rfl ((ho 7 (by decide)).trans rfl) (hS.s (g7,27,(iv (fam 16 d3)).toArray) (by simp)) rfl (h u (Kept.refl _ _))⟩
  ·exact⟨⟨_,rfl⟩,fun a' u K0 R hS hr ho h=>a0g a1c.row (.tmp 8) rfl ((ho 8 (by decide)).trans rfl) (hS.s (g8,27,(iv (fam 16 d5)).toArray) (by simp)) rfl (h u (Kept.refl _ _))⟩
  ·refine⟨⟨_,rfl⟩,fun a' u K0 R hS hr ho h=>a0e rfl a5o (vs:=#[nu d5]) ?_ (c6.out u) h⟩
   have x0:=hr 1 (nu d5) 24 _ rfl rfl rfl ⟨⟨1,.data⟩,by simp,rfl,rfl⟩
   simp [Act.eval]at x0 ⊢
   exact x0
  ·refine⟨⟨_,rfl⟩,fun a' u K0 R hS hr ho h=>a0e rfl a0u (vs:=#[nu d3,nu d6]) ?_ (c7.out u) h⟩
   have x0:=hr 0 (nu d3) 23 _ rfl rfl rfl ⟨⟨0,.data⟩,by simp,rfl,rfl⟩
   have x1:=hr 2 (nu d6) 25 _ rfl rfl rfl ⟨⟨2,.data⟩,by simp,rfl,rfl⟩
   simp [Act.eval]at x0 x1 ⊢
   exact⟨x0,x1⟩
  ·exact⟨rfl,⟨⟨4,.data⟩,by simp,rfl,rfl⟩,⟨⟨3,.data⟩,by simp,rfl,rfl⟩,_,_,_,_,_,_,_,_,rfl,rfl,rfl,rfl,rfl,rfl,rfl,a1c.row,rfl,rfl,a1j _⟩
 intro γ wm hS hγ hne hput
 have b9:=hput 5 4 3 _ _ _ rfl rfl
 have hf9:=hγ 4 _ _ rfl
 generalize e9:γ 4=g9 at *
 simp [a0w,VK,List.range,List.range.loop,Act.put,e9]
 have N9:=hjd (fun p hp=>Nat.ne_of_lt (Nat.lt_of_lt_of_le (t.out.s p hp).lt hf9))
 have L9:=hjd (Nat.le_trans t.out.k.size hf9)
 replace t:=hjd (show Pm w [(g9,27,(iv (fam 16 d7)).toArray),(g8,27,(iv (fam 16 d5)).toArray),(g7,27,(iv (fam 16 d3)).toArray),(g6,27,(iv (fam 16 d1)).toArray),(g4,27,(iv (fam 16 zd)).toArray),(g3,27,(iv (fam 16 dy)).toArray),(g2,29,(iv (fam 16 dc)).toArray)] wm from(hS).cons b9)
 clear b9 hf9 hput hne hγ hS e9
 go_wp2_with (first
  | (with_reducible refine a0a (o:=⟨some 27,_,_,_,_,_⟩) a1c.row rfl (.tmp 9) rfl rfl (t.out.s (g9,27,(iv (fam 16 d7)).toArray) (by simp)) rfl ?_)
  | (go_at_call 151;(with_reducible refine(c8.out _).mono ?_);rintro e v ⟨rfl,kk⟩;replace t:=hjd (t.out.kept kk);clear kk)
  | ((with_reducible refine a0f (o:=⟨some 10,_,_,_,_,_⟩) rfl rfl a2i ?_);intro g10 w10 m10;have N10:=hjd (fun p hp=>m10.ne (t.out.s p hp).lt);have L10:=hjd (Nat.le_trans t.out.k.size m10.le);replace t:=hjd ((t.out.kept m10.kept).cons (show Blk w10 g10 27 (iv (fam 16 zd)).toArray from m10.blk));clear m10)
  | ((refine a0b (o:=⟨none,.store 27 (.tmp 10) (.tmp 28),_,_,_,_⟩) a1c.row rfl (.tmp 10) (.tmp 28) rfl rfl rfl (t.out.s (g10,27,(iv (fam 16 zd)).toArray) (by simp)) rfl rfl (a1j _) ?_);intro v10 b10 k10;replace t:=hjd (t.out.again L10.out N10.out b10 k10);clear b10 k10))
 refine a1b (by kernel_rfl) [.val (nu d8),.val (nu d8),.val (nu d9),.val (nu d7),.val (.bool true),.val (.bool false)]
  (Pm w [(g10,27,(iv (fam 16 d8)).toArray),(g9,27,(iv (fam 16 d7)).toArray),(g8,27,(iv (fam 16 d5)).toArray),(g7,27,(iv (fam 16 d3)).toArray),(g6,27,(iv (fam 16 d1)).toArray),(g4,27,(iv (fam 16 zd)).toArray),(g3,27,(iv (fam 16 dy)).toArray),(g2,29,(iv (fam 16 dc)).toArray)]) (by kernel_rfl) (by kernel_rfl) t.out.drew (fun u u' T hS hk hT=>t.out.fresh u u' T hS hk hT) ?_ ?_
 ·refine⟨?_,?_,?_,?_,?_,?_,trivial⟩
  ·exact⟨⟨_,rfl⟩,fun a' u K0 R hS hr ho h=>a0g a1c.row (.tmp 10) rfl ((ho 10 (by decide)).trans rfl) (hS.s (g10,27,(iv (fam 16 d8)).toArray) (by simp)) rfl (h u (Kept.refl _ _))⟩
  ·exact⟨⟨_,rfl⟩,fun a' u K0 R hS hr ho h=>a0g a1c.row (.tmp 10) rfl ((ho 10 (by decide)).trans rfl) (hS.s (g10,27,(iv (fam 16 d8)).toArray) (by simp)) rfl (h u (Kept.refl _ _))⟩
  ·refine⟨⟨_,rfl⟩,fun a' u K0 R hS hr ho h=>a0e rfl a0u (vs:=#[nu d8,nu d8]) ?_ (c9.out u) h⟩
   have x0:=hr 0 (nu d8) 29 _ rfl rfl rfl ⟨⟨0,.data⟩,by simp,rfl,rfl⟩
   have x1:=hr 1 (nu d8) 30 _ rfl rfl rfl ⟨⟨1,.data⟩,by simp,rfl,rfl⟩
   simp [Act.eval]at x0 x1 ⊢
   exact⟨x0,x1⟩
  ·exact⟨⟨_,rfl⟩,fun a' u K0 R hS hr ho h=>a0g a1c.row (.tmp 9) rfl ((ho 9 (by decide)).trans rfl) (hS.s (g9,27,(iv (fam 16 d7)).toArray) (by simp)) rfl (h u (Kept.refl _ _))⟩
  ·refine⟨⟨_,rfl⟩,fun a' u K0 R hS hr ho h=>a0e rfl a2q (vs:=#[nu d9,nu d7]) ?_ (c10.out u) h⟩
   have x0:=hr 2 (nu d9) 31 _ rfl rfl rfl ⟨⟨2,.data⟩,by simp,rfl,rfl⟩
   have x1:=hr 3 (nu d7) 32 _ rfl rfl rfl ⟨⟨3,.data⟩,by simp,rfl,rfl⟩
   simp [Act.eval]at x0 x1 ⊢
   exact⟨x0,x1⟩
  ·exact⟨⟨_,rfl⟩,fun a' u K0 R0 hS hr ho h=>a9i (.tmp 33) rfl (hr 4 (.bool true) 33 _ rfl rfl rfl ⟨⟨4,.data⟩,by simp,rfl,rfl⟩) (h u (Kept.refl _ _))⟩
 intro γ wm hS hγ hne hput
 simp [a0w,VK,List.range,List.range.loop,Act.put]
 replace t:=hjd (show Pm w [(g10,27,(iv (fam 16 d8)).toArray),(g9,27,(iv (fam 16 d7)).toArray),(g8,27,(iv (fam 16 d5)).toArray),(g7,27,(iv (fam 16 d3)).toArray),(g6,27,(iv (fam 16 d1)).toArray),(g4,27,(iv (fam 16 zd)).toArray),(g3,27,(iv (fam 16 dy)).toArray),(g2,29,(iv (fam 16 dc)).toArray)] wm from hS)
 clear hput hne hγ hS
 go_wp2_with fail
 refine a1b (by kernel_rfl) [.val (nu d8),.val (nu d8),.val (nu d9),.val (nu d7),.val (.bool true),.val (.bool false)]
  (Pm w [(g10,27,(iv (fam 16 d8)).toArray),(g9,27,(iv (fam 16 d7)).toArray),(g8,27,(iv (fam 16 d5)).toArray),(g7,27,(iv (fam 16 d3)).toArray),(g6,27,(iv (fam 16 d1)).toArray),(g4,27,(iv (fam 16 zd)).toArray),(g3,27,(iv (fam 16 dy)).toArray),(g2,29,(iv (fam 16 dc)).toArray)]) (by kernel_rfl) (by kernel_rfl) t.out.drew (fun u u' T hS hk hT=>t.out.fresh u u' T hS hk hT) ?_ ?_
 ·refine⟨?_,?_,?_,?_,?_,?_,trivial⟩
  ·exact⟨⟨_,rfl⟩,fun a' u K0 R hS hr ho h=>a0g a1c.row (.tmp 10) rfl ((ho 10 (by decide)).trans rfl) (hS.s (g10,27,(iv (fam 16 d8)).toArray) (by simp)) rfl (h u (Kept.refl _ _))⟩
  ·exact⟨⟨_,rfl⟩,fun a' u K0 R hS hr ho h=>a0g a1c.row (.tmp 10) rfl ((ho 10 (by decide)).trans rfl) (hS.s (g10,27,(iv (fam 16 d8)).toArray) (by simp)) rfl (h u (Kept.refl _ _))⟩
  ·refine⟨⟨_,rfl⟩,fun a' u K0 R hS hr ho h=>a0e rfl a0u (vs:=#[nu d8,nu d8]) ?_ (c9.out u) h⟩
   have x0:=hr 0 (nu d8) 39 _ rfl rfl rfl ⟨⟨0,.data⟩,by simp,rfl,rfl⟩
   have x1:=hr 1 (nu d8) 40 _ rfl rfl rfl ⟨⟨1,.data⟩,by simp,rfl,rfl⟩
   simp [Act.eval]at x0 x1 ⊢
   exact⟨x0,x1⟩
  ·exact⟨⟨_,rfl⟩,fun a' u K0 R hS hr ho h=>a0g a1c.row (.tmp 9) rfl ((ho 9 (by decide)).trans rfl) (hS.s (g9,27,(iv (fam 16 d7)).toArray) (by simp)) rfl (h u (Kept.refl _ _))⟩
  ·refine⟨⟨_,rfl⟩,fun a' u K0 R hS hr ho h=>a0e rfl a2q (vs:=#[nu d9,nu d7]) ?_ (c10.out u) h⟩
   have x0:=hr 2 (nu d9) 41 _ rfl rfl rfl ⟨⟨2,.data⟩,by simp,rfl,rfl⟩
   have x1:=hr 3 (nu d7) 42 _ rfl rfl rfl ⟨⟨3,.data⟩,by simp,rfl,rfl⟩
   simp [Act.eval]at x0 x1 ⊢
   exact⟨x0,x1⟩
  ·exact⟨⟨_,rfl⟩,fun a' u K0 R0 hS hr ho h=>a9i (.tmp 43) rfl (hr 4 (.bool true) 43 _ rfl rfl rfl ⟨⟨4,.data⟩,by simp,rfl,rfl⟩) (h u (Kept.refl _ _))⟩
 intro γ wm hS hγ hne hput
 simp [a0w,VK,List.range,List.range.loop,Act.put]
 replace t:=hjd (show Pm w [(g10,27,(iv (fam 16 d8)).toArray),(g9,27,(iv (fam 16 d7)).toArray),(g8,27,(iv (fam 16 d5)).toArray),(g7,27,(iv (fam 16 d3)).toArray),(g6,27,(iv (fam 16 d1)).toArray),(g4,27,(iv (fam 16 zd)).toArray),(g3,27,(iv (fam 16 dy)).toArray),(g2,29,(iv (fam 16 dc)).toArray)] wm from hS)
 clear hput hne hγ hS
 go_wp2_with (first
  | (with_reducible refine a0a (o:=⟨some 46,_,_,_,_,_⟩) a1c.row rfl (.tmp 10) rfl rfl (t.out.s (g10,27,(iv (fam 16 d8)).toArray) (by simp)) rfl ?_)
  | (go_at_call 107;(with_reducible refine(c11.out _).mono ?_);rintro e v ⟨rfl,kk⟩;replace t:=hjd (t.out.kept kk);clear kk))
 refine a3o (by kernel_rfl) [nu d12,nu d8,nu d13,nu d2,nu d14]
  (Pm w [(g10,27,(iv (fam 16 d8)).toArray),(g9,27,(iv (fam 16 d7)).toArray),(g8,27,(iv (fam 16 d5)).toArray),(g7,27,(iv (fam 16 d3)).toArray),(g6,27,(iv (fam 16 d1)).toArray),(g4,27,(iv (fam 16 zd)).toArray),(g3,27,(iv (fam 16 dy)).toArray),(g2,29,(iv (fam 16 dc)).toArray)]) (by kernel_rfl) rfl rfl (by kernel_rfl) t.out.drew (fun u u' h hk=>h.kept hk) ?_ ?_
 ·refine⟨?_,?_,?_,?_,?_,trivial⟩
  ·refine fun a' u K0 R hS hr ho h=>a0e rfl a2r (vs:=#[.int .u64 0]) ?_ (c12.out u) h
   simp [Act.eval]
  ·exact fun a' u K0 R hS hr ho h=>a0g a1c.row (.tmp 10) rfl ((ho 10 (by decide)).trans rfl) (hS.s (g10,27,(iv (fam 16 d8)).toArray) (by simp)) rfl (h u (Kept.refl _ _))
  ·refine fun a' u K0 R hS hr ho h=>a0e rfl a3t (vs:=#[nu d12,nu d8]) ?_ (c13.out u) h
   have x0:=hr 0 (nu d12) 51 _ rfl rfl rfl ⟨⟨0,.data⟩,by simp,rfl,rfl⟩
   have x1:=hr 1 (nu d8) 52 _ rfl rfl rfl ⟨⟨1,.data⟩,by simp,rfl,rfl⟩
   simp [Act.eval]at x0 x1 ⊢
   exact⟨x0,x1⟩
  ·refine fun a' u K0 R hS hr ho h=>a0e rfl a2r (vs:=#[.int .u64 1]) ?_ (c2.out u) h
   simp [Act.eval]
  ·refine fun a' u K0 R hS hr ho h=>a0e rfl a0u (vs:=#[nu d13,nu d2]) ?_ (c14.out u) h
   have x0:=hr 2 (nu d13) 53 _ rfl rfl rfl ⟨⟨2,.data⟩,by simp,rfl,rfl⟩
   have x1:=hr 3 (nu d2) 54 _ rfl rfl rfl ⟨⟨3,.data⟩,by simp,rfl,rfl⟩
   simp [Act.eval]at x0 x1 ⊢
   exact⟨x0,x1⟩
 intro ul hSl
 simp [a0w,List.range,List.range.loop,Act.put]
 refine a2p a1c.row (.tmp 10) (.tmp 55) rfl rfl rfl (hSl.s (g10,27,(iv (fam 16 d8)).toArray) (by simp)) rfl rfl (a1j _) ?_
 simp [Act.put]
 have bl:=(hSl.s (g10,27,(iv (fam 16 d8)).toArray) (by simp)).a3b (iv (fam 16 d14)).toArray
 have kl:Kept [g10] ul (ul.setRow g10 (iv (fam 16 d14)).toArray):=(Kept.refl [g10] ul).setRow (.inl (by simp)) _
 replace t:=hjd (hSl.again L10.out N10.out bl kl)
 clear bl kl hSl
 go_wp2_with (first
  | (with_reducible refine a0a (o:=⟨some 56,_,_,_,_,_⟩) a1c.row rfl (.tmp 10) rfl rfl (t.out.s (g10,27,(iv (fam 16 d14)).toArray) (by simp)) rfl ?_)
  | ((refine a0b (o:=⟨none,.store 27 (.tmp 4) (.tmp 56),_,_,_,_⟩) a1c.row rfl (.tmp 4) (.tmp 56) rfl rfl rfl (t.out.s (g4,27,(iv (fam 16 zd)).toArray) (by simp)) rfl rfl (a1j _) ?_);intro v4 b4 k4;have bR:=hjd b4;have kR:=hjd k4;clear b4 k4))
 exact a1z a1c.row rfl rfl bR.out rfl rfl ⟨rfl,t.out.k.a0n kR.out L4.out⟩
set_option maxHeartbeats 4000000 in
theorem d8d{dc dy:Nat→Int}{y:Ed.Fq}(hD:Dq 70000 dc Ed.D)(hy:Dq 70000 dy y)(hs0:(rX0 y * rX0 y).v=(rW y).v)(ho:¬(rX0 y).v % 2=1):∃r,RtC dc dy r true∧Dq 70000 r (rX0 y):=by
 obtain⟨d1,c1,h1⟩:=a1s hy hy (by omega) (by omega)
 obtain⟨d2,c2,h2⟩:=c0f 1 (z:=1) (by omega) rfl
 obtain⟨d3,c3,h3⟩:=b1e h1 h2 (by omega) (by omega)
 obtain⟨d4,c4,h4⟩:=a1s h1 hD (by omega) (by omega)
 obtain⟨d5,c5,h5⟩:=b2g h4 h2 (by omega) (by omega)
 obtain⟨d6,c6,h6⟩:=b0d h5 (by omega)
 obtain⟨d7,c7,h7⟩:=a1s h3 h6 (by omega) (by omega)
 obtain⟨d8,c8,h8⟩:=b9l h7 (by omega)
 obtain⟨d9,c9,h9⟩:=a1s h8 h8 (by omega) (by omega)
 have c10:ReC d9 d7 true:=a8d h9 h7 (by omega) (by omega) (decide_eq_true hs0)
 obtain⟨l11,c11,e11,nl11⟩:=a6d h8 (by omega)
 have hb:=a9b (rX0 y).v e11
 have ho2:(((rX0 y).v % 256:Nat):Int).tmod 2=0:=by rw [Int.tmod_eq_emod_of_nonneg (by omega)];omega
 refine⟨d8,?_,h8⟩
 generalize (rX0 y).v % 256=xb at *
 clear e11 ho
 intro w
 replace c1:=hjd c1
 replace c2:=hjd c2
 replace c3:=hjd c3
 replace c4:=hjd c4
 replace c5:=hjd c5
 replace c6:=hjd c6
 replace c7:=hjd c7
 replace c8:=hjd c8
 replace c9:=hjd c9
 replace c10:=hjd c10
 replace nl11:=hjd nl11
 replace c11:=hjd c11
 clear hD hy hs0 h1 h2 h3 h4 h5 h6 h7 h8 h9
 go_enter Tryz.func109,Tryz.ntmps109
 have t:=hjd (Pm.none w)
 go_wp2_with (first
  | ((with_reducible refine a0m (o:=⟨some 2,_,_,_,_,_⟩) (v:=nu dc) rfl (.tmp 0) rfl rfl ?_);intro g2 w2 m2;have N2:=hjd (fun p hp=>m2.ne (t.out.s p hp).lt);have L2:=hjd (Nat.le_trans t.out.k.size m2.le);replace t:=hjd ((t.out.kept m2.kept).cons (show Blk w2 g2 29 (iv (fam 16 dc)).toArray from m2.blk));clear m2)
  | ((with_reducible refine a0m (o:=⟨some 3,_,_,_,_,_⟩) (v:=nu dy) rfl (.tmp 1) rfl rfl ?_);intro g3 w3 m3;have N3:=hjd (fun p hp=>m3.ne (t.out.s p hp).lt);have L3:=hjd (Nat.le_trans t.out.k.size m3.le);replace t:=hjd ((t.out.kept m3.kept).cons (show Blk w3 g3 27 (iv (fam 16 dy)).toArray from m3.blk));clear m3)
  | ((with_reducible refine a0f (o:=⟨some 4,_,_,_,_,_⟩) rfl rfl a2i ?_);intro g4 w4 m4;have N4:=hjd (fun p hp=>m4.ne (t.out.s p hp).lt);have L4:=hjd (Nat.le_trans t.out.k.size m4.le);replace t:=hjd ((t.out.kept m4.kept).cons (show Blk w4 g4 27 (iv (fam 16 zd)).toArray from m4.blk));clear m4)
  | (with_reducible refine a0a (o:=⟨some 11,_,_,_,_,_⟩) a1c.row rfl (.tmp 3) rfl rfl (t.out.s (g3,27,(iv (fam 16 dy)).toArray) (by simp)) rfl ?_)
  | (with_reducible refine a0a (o:=⟨some 12,_,_,_,_,_⟩) a1c.row rfl (.tmp 3) rfl rfl (t.out.s (g3,27,(iv (fam 16 dy)).toArray) (by simp)) rfl ?_)
  | (go_at_call 84;(with_reducible refine(c1.out _).mono ?_);rintro e v ⟨rfl,kk⟩;replace t:=hjd (t.out.kept kk);clear kk)
  | ((with_reducible refine a0f (o:=⟨some 6,_,_,_,_,_⟩) rfl rfl a2i ?_);intro g6 w6 m6;have N6:=hjd (fun p hp=>m6.ne (t.out.s p hp).lt);have L6:=hjd (Nat.le_trans t.out.k.size m6.le);replace t:=hjd ((t.out.kept m6.kept).cons (show Blk w6 g6 27 (iv (fam 16 zd)).toArray from m6.blk));clear m6)
  | ((refine a0b (o:=⟨none,.store 27 (.tmp 6) (.tmp 13),_,_,_,_⟩) a1c.row rfl (.tmp 6) (.tmp 13) rfl rfl rfl (t.out.s (g6,27,(iv (fam 16 zd)).toArray) (by simp)) rfl rfl (a1j _) ?_);intro v6 b6 k6;replace t:=hjd (t.out.again L6.out N6.out b6 k6);clear b6 k6))
 refine a1b (by kernel_rfl) [.val (nu d1),.val (nu d2),.val (nu d3),.new 27 (nu zd),.put 3 2 (iv (fam 16 d3)).toArray]
  (Pm w [(g6,27,(iv (fam 16 d1)).toArray),(g4,27,(iv (fam 16 zd)).toArray),(g3,27,(iv (fam 16 dy)).toArray),(g2,29,(iv (fam 16 dc)).toArray)]) (by kernel_rfl) (by kernel_rfl) t.out.drew (fun u u' T hS hk hT=>t.out.fresh u u' T hS hk hT) ?_ ?_
 ·refine⟨?_,?_,?_,⟨⟨_,rfl⟩,rfl,a2i⟩,?_,trivial⟩
  ·exact⟨⟨_,rfl⟩,fun a' u K0 R hS hr ho h=>a0g a1c.row (.tmp 6) rfl ((ho 6 (by decide)).trans rfl) (hS.s (g6,27,(iv (fam 16 d1)).toArray) (by simp)) rfl (h u (Kept.refl _ _))⟩
  ·refine⟨⟨_,rfl⟩,fun a' u K0 R hS hr ho h=>a0e rfl a2r (vs:=#[.int .u64 1]) ?_ (c2.out u) h⟩
   simp [Act.eval]
  ·refine⟨⟨_,rfl⟩,fun a' u K0 R hS hr ho h=>a0e rfl a3t (vs:=#[nu d1,nu d2]) ?_ (c3.out u) h⟩
   have x0:=hr 0 (nu d1) 14 _ rfl rfl rfl ⟨⟨0,.data⟩,by simp,rfl,rfl⟩
   have x1:=hr 1 (nu d2) 15 _ rfl rfl rfl ⟨⟨1,.data⟩,by simp,rfl,rfl⟩
   simp [Act.eval]at x0 x1 ⊢
   exact⟨x0,x1⟩
  ·exact⟨rfl,⟨⟨3,.data⟩,by simp,rfl,rfl⟩,⟨⟨2,.data⟩,by simp,rfl,rfl⟩,_,_,_,_,_,_,_,_,rfl,rfl,rfl,rfl,rfl,rfl,rfl,a1c.row,rfl,rfl,a1j _⟩
 intro γ wm hS hγ hne hput
 have b7:=hput 4 3 2 _ _ _ rfl rfl
 have hf7:=hγ 3 _ _ rfl
 generalize e7:γ 3=g7 at *
 simp [a0w,VK,List.range,List.range.loop,Act.put,e7]
 have N7:=hjd (fun p hp=>Nat.ne_of_lt (Nat.lt_of_lt_of_le (t.out.s p hp).lt hf7))
 have L7:=hjd (Nat.le_trans t.out.k.size hf7)
 replace t:=hjd (show Pm w [(g7,27,(iv (fam 16 d3)).toArray),(g6,27,(iv (fam 16 d1)).toArray),(g4,27,(iv (fam 16 zd)).toArray),(g3,27,(iv (fam 16 dy)).toArray),(g2,29,(iv (fam 16 dc)).toArray)] wm from(hS).cons b7)
 clear b7 hf7 hput hne hγ hS e7
 go_wp2_with (first
  | (with_reducible refine a0a (o:=⟨some 17,_,_,_,_,_⟩) a1c.row rfl (.tmp 6) rfl rfl (t.out.s (g6,27,(iv (fam 16 d1)).toArray) (by simp)) rfl ?_)
  | (with_reducible refine a1h (o:=⟨some 19,_,_,_,_,_⟩) a1c.row rfl (.tmp 18) rfl rfl (e7q (t.out.s (g2,29,(iv (fam 16 dc)).toArray) (by simp))) (b1p _) ?_)
  | (go_at_call 84;(with_reducible refine(c4.out _).mono ?_);rintro e v ⟨rfl,kk⟩;replace t:=hjd (t.out.kept kk);clear kk)
  | (go_at_call 86;(with_reducible refine(c2.out _).mono ?_);rintro e v ⟨rfl,kk⟩;replace t:=hjd (t.out.kept kk);clear kk)
  | (go_at_call 123;(with_reducible refine(c5.out _).mono ?_);rintro e v ⟨rfl,kk⟩;replace t:=hjd (t.out.kept kk);clear kk)
  | ((with_reducible refine a0f (o:=⟨some 8,_,_,_,_,_⟩) rfl rfl a2i ?_);intro g8 w8 m8;have N8:=hjd (fun p hp=>m8.ne (t.out.s p hp).lt);have L8:=hjd (Nat.le_trans t.out.k.size m8.le);replace t:=hjd ((t.out.kept m8.kept).cons (show Blk w8 g8 27 (iv (fam 16 zd)).toArray from m8.blk));clear m8)
  | ((refine a0b (o:=⟨none,.store 27 (.tmp 8) (.tmp 22),_,_,_,_⟩) a1c.row rfl (.tmp 8) (.tmp 22) rfl rfl rfl (t.out.s (g8,27,(iv (fam 16 zd)).toArray) (by simp)) rfl rfl (a1j _) ?_);intro v8 b8 k8;replace t:=hjd (t.out.again L8.out N8.out b8 k8);clear b8 k8))
 refine a1b (by kernel_rfl) [.val (nu d3),.val (nu d5),.val (nu d6),.val (nu d7),.new 27 (nu zd),.put 4 3 (iv (fam 16 d7)).toArray]
  (Pm w [(g8,27,(iv (fam 16 d5)).toArray),(g7,27,(iv (fam 16 d3)).toArray),(g6,27,(iv (fam 16 d1)).toArray),(g4,27,(iv (fam 16 zd)).toArray),(g3,27,(iv (fam 16 dy)).toArray),(g2,29,(iv (fam 16 dc)).toArray)]) (by kernel_rfl) (by kernel_rfl) t.out.drew (fun u u' T hS hk hT=>t.out.fresh u u' T hS hk hT) ?_ ?_
 ·refine⟨?_,?_,?_,?_,⟨⟨_,rfl⟩,rfl,a2i⟩,?_,trivial⟩
  ·exact⟨⟨_,rfl⟩,fun a' u K0 R hS hr ho h=>a0g a1c.row (.tmp 7) rfl ((ho 7 (by decide)).trans rfl) (hS.s (g7,27,(iv (fam 16 d3)).toArray) (by simp)) rfl (h u (Kept.refl _ _))⟩
  ·exact⟨⟨_,rfl⟩,fun a' u K0 R hS hr ho h=>a0g a1c.row (.tmp 8) rfl ((ho 8 (by decide)).trans rfl) (hS.s (g8,27,(iv (fam 16 d5)).toArray) (by simp)) rfl (h u (Kept.refl _ _))⟩
  ·refine⟨⟨_,rfl⟩,fun a' u K0 R hS hr ho h=>a0e rfl a5o (vs:=#[nu d5]) ?_ (c6.out u) h⟩
   have x0:=hr 1 (nu d5) 24 _ rfl rfl rfl ⟨⟨1,.data⟩,by simp,rfl,rfl⟩
   simp [Act.eval]at x0 ⊢
   exact x0
  ·refine⟨⟨_,rfl⟩,fun a' u K0 R hS hr ho h=>a0e rfl a0u (vs:=#[nu d3,nu d6]) ?_ (c7.out u) h⟩
   have x0:=hr 0 (nu d3) 23 _ rfl rfl rfl ⟨⟨0,.data⟩,by simp,rfl,rfl⟩
   have x1:=hr 2 (nu d6) 25 _ rfl rfl rfl ⟨⟨2,.data⟩,by simp,rfl,rfl⟩
   simp [Act.eval]at x0 x1 ⊢
   exact⟨x0,x1⟩
  ·exact⟨rfl,⟨⟨4,.data⟩,by simp,rfl,rfl⟩,⟨⟨3,.data⟩,by simp,rfl,rfl⟩,_,_,_,_,_,_,_,_,rfl,rfl,rfl,rfl,rfl,rfl,rfl,a1c.row,rfl,rfl,a1j _⟩
 intro γ wm hS hγ hne hput
 have b9:=hput 5 4 3 _ _ _ rfl rfl
 have hf9:=hγ 4 _ _ rfl
 generalize e9:γ 4=g9 at *
 simp [a0w,VK,List.range,List.range.loop,Act.put,e9]
 have N9:=hjd (fun p hp=>Nat.ne_of_lt (Nat.lt_of_lt_of_le (t.out.s p hp).lt hf9))
 have L9:=hjd (Nat.le_trans t.out.k.size hf9)
 replace t:=hjd (show Pm w [(g9,27,(iv (fam 16 d7)).toArray),(g8,27,(iv (fam 16 d5)).toArray),(g7,27,(iv (fam 16 d3)).toArray),(g6,27,(iv (fam 16 d1)).toArray),(g4,27,(iv (fam 16 zd)).toArray),(g3,27,(iv (fam 16 dy)).toArray),(g2,29,(iv (fam 16 dc)).toArray)] wm from(hS).cons b9)
 clear b9 hf9 hput hne hγ hS e9
 go_wp2_with (first
  | (with_reducible refine a0a (o:=⟨some 27,_,_,_,_,_⟩) a1c.row rfl (.tmp 9) rfl rfl (t.out.s (g9,27,(iv (fam 16 d7)).toArray) (by simp)) rfl ?_)
  | (go_at_call 151;(with_reducible refine(c8.out _).mono ?_);rintro e v ⟨rfl,kk⟩;replace t:=hjd (t.out.kept kk);clear kk)
  | ((with_reducible refine a0f (o:=⟨some 10,_,_,_,_,_⟩) rfl rfl a2i ?_);intro g10 w10 m10;have N10:=hjd (fun p hp=>m10.ne (t.out.s p hp).lt);have L10:=hjd (Nat.le_trans t.out.k.size m10.le);replace t:=hjd ((t.out.kept m10.kept).cons (show Blk w10 g10 27 (iv (fam 16 zd)).toArray from m10.blk));clear m10)
  | ((refine a0b (o:=⟨none,.store 27 (.tmp 10) (.tmp 28),_,_,_,_⟩) a1c.row rfl (.tmp 10) (.tmp 28) rfl rfl rfl (t.out.s (g10,27,(iv (fam 16 zd)).toArray) (by simp)) rfl rfl (a1j _) ?_);intro v10 b10 k10;replace t:=hjd (t.out.again L10.out N10.out b10 k10);clear b10 k10))
 refine a1b (by kernel_rfl) [.val (nu d8),.val (nu d8),.val (nu d9),.val (nu d7),.val (.bool true),.val (.bool false)]
  (Pm w [(g10,27,(iv (fam 16 d8)).toArray),(g9,27,(iv (fam 16 d7)).toArray),(g8,27,(iv (fam 16 d5)).toArray),(g7,27,(iv (fam 16 d3)).toArray),(g6,27,(iv (fam 16 d1)).toArray),(g4,27,(iv (fam 16 zd)).toArray),(g3,27,(iv (fam 16 dy)).toArray),(g2,29,(iv (fam 16 dc)).toArray)]) (by kernel_rfl) (by kernel_rfl) t.out.drew (fun u u' T hS hk hT=>t.out.fresh u u' T hS hk hT) ?_ ?_
 ·refine⟨?_,?_,?_,?_,?_,?_,trivial⟩
  ·exact⟨⟨_,rfl⟩,fun a' u K0 R hS hr ho h=>a0g a1c.row (.tmp 10) rfl ((ho 10 (by decide)).trans rfl) (hS.s (g10,27,(iv (fam 16 d8)).toArray) (by simp)) rfl (h u (Kept.refl _ _))⟩
  ·exact⟨⟨_,rfl⟩,fun a' u K0 R hS hr ho h=>a0g a1c.row (.tmp 10) rfl ((ho 10 (by decide)).trans rfl) (hS.s (g10,27,(iv (fam 16 d8)).toArray) (by simp)) rfl (h u (Kept.refl _ _))⟩
  ·refine⟨⟨_,rfl⟩,fun a' u K0 R hS hr ho h=>a0e rfl a0u (vs:=#[nu d8,nu d8]) ?_ (c9.out u) h⟩
   have x0:=hr 0 (nu d8) 29 _ rfl rfl rfl ⟨⟨0,.data⟩,by simp,rfl,rfl⟩
   have x1:=hr 1 (nu d8) 30 _ rfl rfl rfl ⟨⟨1,.data⟩,by simp,rfl,rfl⟩
   simp [Act.eval]at x0 x1 ⊢
   exact⟨x0,x1⟩
  ·exact⟨⟨_,rfl⟩,fun a' u K0 R hS hr ho h=>a0g a1c.row (.tmp 9) rfl ((ho 9 (by decide)).trans rfl) (hS.s (g9,27,(iv (fam 16 d7)).toArray) (by simp)) rfl (h u (Kept.refl _ _))⟩
  ·refine⟨⟨_,rfl⟩,fun a' u K0 R hS hr ho h=>a0e rfl a2q (vs:=#[nu d9,nu d7]) ?_ (c10.out u) h⟩
   have x0:=hr 2 (nu d9) 31 _ rfl rfl rfl ⟨⟨2,.data⟩,by simp,rfl,rfl⟩
   have x1:=hr 3 (nu d7) 32 _ rfl rfl rfl ⟨⟨3,.data⟩,by simp,rfl,rfl⟩
   simp [Act.eval]at x0 x1 ⊢
   exact⟨x0,x1⟩
  ·exact⟨⟨_,rfl⟩,fun a' u K0 R0 hS hr ho h=>a9i (.tmp 33) rfl (hr 4 (.bool true) 33 _ rfl rfl rfl ⟨⟨4,.data⟩,by simp,rfl,rfl⟩) (h u (Kept.refl _ _))⟩
 intro γ wm hS hγ hne hput
 simp [a0w,VK,List.range,List.range.loop,Act.put]
 replace t:=hjd (show Pm w [(g10,27,(iv (fam 16 d8)).toArray),(g9,27,(iv (fam 16 d7)).toArray),(g8,27,(iv (fam 16 d5)).toArray),(g7,27,(iv (fam 16 d3)).toArray),(g6,27,(iv (fam 16 d1)).toArray),(g4,27,(iv (fam 16 zd)).toArray),(g3,27,(iv (fam 16 dy)).toArray),(g2,29,(iv (fam 16 dc)).toArray)] wm from hS)
 clear hput hne hγ hS
 go_wp2_with fail
 refine a1b (by kernel_rfl) [.val (nu d8),.val (nu d8),.val (nu d9),.val (nu d7),.val (.bool true),.val (.bool false)]
  (Pm w [(g10,27,(iv (fam 16 d8)).toArray),(g9,27,(iv (fam 16 d7)).toArray),(g8,27,(iv (fam 16 d5)).toArray),(g7,27,(iv (fam 16 d3)).toArray),(g6,27,(iv (fam 16 d1)).toArray),(g4,27,(iv (fam 16 zd)).toArray),(g3,27,(iv (fam 16 dy)).toArray),(g2,29,(iv (fam 16 dc)).toArray)]) (by kernel_rfl) (by kernel_rfl) t.out.drew (fun u u' T hS hk hT=>t.out.fresh u u' T hS hk hT) ?_ ?_
 ·refine⟨?_,?_,?_,?_,?_,?_,trivial⟩
  ·exact⟨⟨_,rfl⟩,fun a' u K0 R hS hr ho h=>a0g a1c.row (.tmp 10) rfl ((ho 10 (by decide)).trans rfl) (hS.s (g10,27,(iv (fam 16 d8)).toArray) (by simp)) rfl (h u (Kept.refl _ _))⟩
  ·exact⟨⟨_,rfl⟩,fun a' u K0 R hS hr ho h=>a0g a1c.row (.tmp 10) rfl ((ho 10 (by decide)).trans rfl) (hS.s (g10,27,(iv (fam 16 d8)).toArray) (by simp)) rfl (h u (Kept.refl _ _))⟩
  ·refine⟨⟨_,rfl⟩,fun a' u K0 R hS hr ho h=>a0e rfl a0u (vs:=#[nu d8,nu d8]) ?_ (c9.out u) h⟩
   have x0:=hr 0 (nu d8) 39 _ rfl rfl rfl ⟨⟨0,.data⟩,by simp,rfl,rfl⟩
   have x1:=hr 1 (nu d8) 40 _ rfl rfl rfl ⟨⟨1,.data⟩,by simp,rfl,rfl⟩
   simp [Act.eval]at x0 x1 ⊢
   exact⟨x0,x1⟩
  ·exact⟨⟨_,rfl⟩,fun a' u K0 R hS hr ho h=>a0g a1c.row (.tmp 9) rfl ((ho 9 (by decide)).trans rfl) (hS.s (g9,27,(iv (fam 16 d7)).toArray) (by simp)) rfl (h u (Kept.refl _ _))⟩
  ·refine⟨⟨_,rfl⟩,fun a' u K0 R hS hr ho h=>a0e rfl a2q (vs:=#[nu d9,nu d7]) ?_ (c10.out u) h⟩
   have x0:=hr 2 (nu d9) 41 _ rfl rfl rfl ⟨⟨2,.data⟩,by simp,rfl,rfl⟩
   have x1:=hr 3 (nu d7) 42 _ rfl rfl rfl ⟨⟨3,.data⟩,by simp,rfl,rfl⟩
   simp [Act.eval]at x0 x1 ⊢
   exact⟨x0,x1⟩
  ·exact⟨⟨_,rfl⟩,fun a' u K0 R0 hS hr ho h=>a9i (.tmp 43) rfl (hr 4 (.bool true) 43 _ rfl rfl rfl ⟨⟨4,.data⟩,by simp,rfl,rfl⟩) (h u (Kept.refl _ _))⟩
 intro γ wm hS hγ hne hput
 simp [a0w,VK,List.range,List.range.loop,Act.put]
 replace t:=hjd (show Pm w [(g10,27,(iv (fam 16 d8)).toArray),(g9,27,(iv (fam 16 d7)).toArray),(g8,27,(iv (fam 16 d5)).toArray),(g7,27,(iv (fam 16 d3)).toArray),(g6,27,(iv (fam 16 d1)).toArray),(g4,27,(iv (fam 16 zd)).toArray),(g3,27,(iv (fam 16 dy)).toArray),(g2,29,(iv (fam 16 dc)).toArray)] wm from hS)
 clear hput hne hγ hS
 go_wp2_with (first
  | (with_reducible refine a0a (o:=⟨some 46,_,_,_,_,_⟩) a1c.row rfl (.tmp 10) rfl rfl (t.out.s (g10,27,(iv (fam 16 d8)).toArray) (by simp)) rfl ?_)
  | (go_at_call 107;(with_reducible refine(c11.out _).mono ?_);rintro e v ⟨rfl,kk⟩;replace t:=hjd (t.out.kept kk);clear kk)
  | (with_reducible refine a0a (o:=⟨some 56,_,_,_,_,_⟩) a1c.row rfl (.tmp 10) rfl rfl (t.out.s (g10,27,(iv (fam 16 d8)).toArray) (by simp)) rfl ?_)
  | ((refine a0b (o:=⟨none,.store 27 (.tmp 4) (.tmp 56),_,_,_,_⟩) a1c.row rfl (.tmp 4) (.tmp 56) rfl rfl rfl (t.out.s (g4,27,(iv (fam 16 zd)).toArray) (by simp)) rfl rfl (a1j _) ?_);intro v4 b4 k4;have bR:=hjd b4;have kR:=hjd k4;clear b4 k4))
 exact a1z a1c.row rfl rfl bR.out rfl rfl ⟨rfl,t.out.k.a0n kR.out L4.out⟩
set_option maxHeartbeats 4000000 in
theorem d6b{dc dy:Nat→Int}{y:Ed.Fq}(hD:Dq 70000 dc Ed.D)(hy:Dq 70000 dy y)(hs0:¬(rX0 y * rX0 y).v=(rW y).v)(hs1:(rX1 y * rX1 y).v=(rW y).v)(ho:(rX1 y).v % 2=1):∃r,RtC dc dy r true∧Dq 70000 r ((Ed.mk 0 - rX1 y) * Ed.mk 1):=by
 obtain⟨d1,c1,h1⟩:=a1s hy hy (by omega) (by omega)
 obtain⟨d2,c2,h2⟩:=c0f 1 (z:=1) (by omega) rfl
 obtain⟨d3,c3,h3⟩:=b1e h1 h2 (by omega) (by omega)
 obtain⟨d4,c4,h4⟩:=a1s h1 hD (by omega) (by omega)
 obtain⟨d5,c5,h5⟩:=b2g h4 h2 (by omega) (by omega)
 obtain⟨d6,c6,h6⟩:=b0d h5 (by omega)
 obtain⟨d7,c7,h7⟩:=a1s h3 h6 (by omega) (by omega)
 obtain⟨d8,c8,h8⟩:=b9l h7 (by omega)
 obtain⟨d9,c9,h9⟩:=a1s h8 h8 (by omega) (by omega)
 have c10:ReC d9 d7 false:=a8d h9 h7 (by omega) (by omega) (decide_eq_false hs0)
 obtain⟨d11,c11,h11⟩:=c0f 2 (z:=2) (by omega) rfl
 obtain⟨d12,c12,h12⟩:=d2k h11 (by omega)
 obtain⟨d13,c13,h13⟩:=a1s h8 h12 (by omega) (by omega)
 obtain⟨d14,c14,h14⟩:=a1s h13 h13 (by omega) (by omega)
 have c15:ReC d14 d7 true:=a8d h14 h7 (by omega) (by omega) (decide_eq_true hs1)
 obtain⟨l16,c16,e16,nl16⟩:=a6d h13 (by omega)
 obtain⟨d17,c17,h17⟩:=c0f 0 (z:=0) (by omega) rfl
 obtain⟨d18,c18,h18⟩:=b1e h17 h13 (by omega) (by omega)
 obtain⟨d19,c19,h19⟩:=a1s h18 h2 (by omega) (by omega)
 have hb:=a9b (rX1 y).v e16
 have ho2:(((rX1 y).v % 256:Nat):Int).tmod 2=1:=by rw [Int.tmod_eq_emod_of_nonneg (by omega)];omega
 refine⟨d19,?_,h19⟩
 generalize (rX1 y).v % 256=xb at *
 clear e16 ho
 intro w
 replace c1:=hjd c1
 replace c2:=hjd c2
 replace c3:=hjd c3
 replace c4:=hjd c4
 replace c5:=hjd c5
 replace c6:=hjd c6
 replace c7:=hjd c7
 replace c8:=hjd c8
 replace c9:=hjd c9
 replace c10:=hjd c10
 replace c11:=hjd c11
 replace c12:=hjd c12
 replace c13:=hjd c13
 replace c14:=hjd c14
 replace c15:=hjd c15
 replace nl16:=hjd nl16
 replace c16:=hjd c16
 replace c17:=hjd c17
 replace c18:=hjd c18
 replace c19:=hjd c19
 clear hD hy hs0 hs1 h1 h2 h3 h4 h5 h6 h7 h8 h9 h11 h12 h13 h14 h17 h18 h19
 go_enter Tryz.func109,Tryz.ntmps109
 have t:=hjd (Pm.none w)
 go_wp2_with (first
  | ((with_reducible refine a0m (o:=⟨some 2,_,_,_,_,_⟩) (v:=nu dc) rfl (.tmp 0) rfl rfl ?_);intro g2 w2 m2;have N2:=hjd (fun p hp=>m2.ne (t.out.s p hp).lt);have L2:=hjd (Nat.le_trans t.out.k.size m2.le);replace t:=hjd ((t.out.kept m2.kept).cons (show Blk w2 g2 29 (iv (fam 16 dc)).toArray from m2.blk));clear m2)
  | ((with_reducible refine a0m (o:=⟨some 3,_,_,_,_,_⟩) (v:=nu dy) rfl (.tmp 1) rfl rfl ?_);intro g3 w3 m3;have N3:=hjd (fun p hp=>m3.ne (t.out.s p hp).lt);have L3:=hjd (Nat.le_trans t.out.k.size m3.le);replace t:=hjd ((t.out.kept m3.kept).cons (show Blk w3 g3 27 (iv (fam 16 dy)).toArray from m3.blk));clear m3)
  | ((with_reducible refine a0f (o:=⟨some 4,_,_,_,_,_⟩) rfl rfl a2i ?_);intro g4 w4 m4;have N4:=hjd (fun p hp=>m4.ne (t.out.s p hp).lt);have L4:=hjd (Nat.le_trans t.out.k.size m4.le);replace t:=hjd ((t.out.kept m4.kept).cons (show Blk w4 g4 27 (iv (fam 16 zd)).toArray from m4.blk));clear m4)
  | (with_reducible refine a0a (o:=⟨some 11,_,_,_,_,_⟩) a1c.row rfl (.tmp 3) rfl rfl (t.out.s (g3,27,(iv (fam 16 dy)).toArray) (by simp)) rfl ?_)
  | (with_reducible refine a0a (o:=⟨some 12,_,_,_,_,_⟩) a1c.row rfl (.tmp 3) rfl rfl (t.out.s (g3,27,(iv (fam 16 dy)).toArray) (by simp)) rfl ?_)
  | (go_at_call 84;(with_reducible refine(c1.out _).mono ?_);rintro e v ⟨rfl,kk⟩;replace t:=hjd (t.out.kept kk);clear kk)
  | ((with_reducible refine a0f (o:=⟨some 6,_,_,_,_,_⟩) rfl rfl a2i ?_);intro g6 w6 m6;have N6:=hjd (fun p hp=>m6.ne (t.out.s p hp).lt);have L6:=hjd (Nat.le_trans t.out.k.size m6.le);replace t:=hjd ((t.out.kept m6.kept).cons (show Blk w6 g6 27 (iv (fam 16 zd)).toArray from m6.blk));clear m6)
  | ((refine a0b (o:=⟨none,.store 27 (.tmp 6) (.tmp 13),_,_,_,_⟩) a1c.row rfl (.tmp 6) (.tmp 13) rfl rfl rfl (t.out.s (g6,27,(iv (fam 16 zd)).toArray) (by simp)) rfl rfl (a1j _) ?_);intro v6 b6 k6;replace t:=hjd (t.out.again L6.out N6.out b6 k6);clear b6 k6))
 refine a1b (by kernel_rfl) [.val (nu d1),.val (nu d2),.val (nu d3),.new 27 (nu zd),.put 3 2 (iv (fam 16 d3)).toArray]
  (Pm w [(g6,27,(iv (fam 16 d1)).toArray),(g4,27,(iv (fam 16 zd)).toArray),(g3,27,(iv (fam 16 dy)).toArray),(g2,29,(iv (fam 16 dc)).toArray)]) (by kernel_rfl) (by kernel_rfl) t.out.drew (fun u u' T hS hk hT=>t.out.fresh u u' T hS hk hT) ?_ ?_
 ·refine⟨?_,?_,?_,⟨⟨_,rfl⟩,rfl,a2i⟩,?_,trivial⟩
  ·exact⟨⟨_,rfl⟩,fun a' u K0 R hS hr ho h=>a0g a1c.row (.tmp 6) rfl ((ho 6 (by decide)).trans rfl) (hS.s (g6,27,(iv (fam 16 d1)).toArray) (by simp)) rfl (h u (Kept.refl _ _))⟩
  ·refine⟨⟨_,rfl⟩,fun a' u K0 R hS hr ho h=>a0e rfl a2r (vs:=#[.int .u64 1]) ?_ (c2.out u) h⟩
   simp [Act.eval]
  ·refine⟨⟨_,rfl⟩,fun a' u K0 R hS hr ho h=>a0e rfl a3t (vs:=#[nu d1,nu d2]) ?_ (c3.out u) h⟩
   have x0:=hr 0 (nu d1) 14 _ rfl rfl rfl ⟨⟨0,.data⟩,by simp,rfl,rfl⟩
   have x1:=hr 1 (nu d2) 15 _ rfl rfl rfl ⟨⟨1,.data⟩,by simp,rfl,rfl⟩
   simp [Act.eval]at x0 x1 ⊢
   exact⟨x0,x1⟩
  ·exact⟨rfl,⟨⟨3,.data⟩,by simp,rfl,rfl⟩,⟨⟨2,.data⟩,by simp,rfl,rfl⟩,_,_,_,_,_,_,_,_,rfl,rfl,rfl,rfl,rfl,rfl,rfl,a1c.row,rfl,rfl,a1j _⟩
 intro γ wm hS hγ hne hput
 have b7:=hput 4 3 2 _ _ _ rfl rfl
 have hf7:=hγ 3 _ _ rfl
 generalize e7:γ 3=g7 at *
 simp [a0w,VK,List.range,List.range.loop,Act.put,e7]
 have N7:=hjd (fun p hp=>Nat.ne_of_lt (Nat.lt_of_lt_of_le (t.out.s p hp).lt hf7))
 have L7:=hjd (Nat.le_trans t.out.k.size hf7)
 replace t:=hjd (show Pm w [(g7,27,(iv (fam 16 d3)).toArray),(g6,27,(iv (fam 16 d1)).toArray),(g4,27,(iv (fam 16 zd)).toArray),(g3,27,(iv (fam 16 dy)).toArray),(g2,29,(iv (fam 16 dc)).toArray)] wm from(hS).cons b7)
 clear b7 hf7 hput hne hγ hS e7
 go_wp2_with (first
  | (with_reducible refine a0a (o:=⟨some 17,_,_,_,_,_⟩) a1c.row rfl (.tmp 6) rfl rfl (t.out.s (g6,27,(iv (fam 16 d1)).toArray) (by simp)) rfl ?_)
  | (with_reducible refine a1h (o:=⟨some 19,_,_,_,_,_⟩) a1c.row rfl (.tmp 18) rfl rfl (e7q (t.out.s (g2,29,(iv (fam 16 dc)).toArray) (by simp))) (b1p _) ?_)
  | (go_at_call 84;(with_reducible refine(c4.out _).mono ?_);rintro e v ⟨rfl,kk⟩;replace t:=hjd (t.out.kept kk);clear kk)
  | (go_at_call 86;(with_reducible refine(c2.out _).mono ?_);rintro e v ⟨rfl,kk⟩;replace t:=hjd (t.out.kept kk);clear kk)
  | (go_at_call 123;(with_reducible refine(c5.out _).mono ?_);rintro e v ⟨rfl,kk⟩;replace t:=hjd (t.out.kept kk);clear kk)
  | ((with_reducible refine a0f (o:=⟨some 8,_,_,_,_,_⟩) rfl rfl a2i ?_);intro g8 w8 m8;have N8:=hjd (fun p hp=>m8.ne (t.out.s p hp).lt);have L8:=hjd (Nat.le_trans t.out.k.size m8.le);replace t:=hjd ((t.out.kept m8.kept).cons (show Blk w8 g8 27 (iv (fam 16 zd)).toArray from m8.blk));clear m8)
  | ((refine a0b (o:=⟨none,.store 27 (.tmp 8) (.tmp 22),_,_,_,_⟩) a1c.row rfl (.tmp 8) (.tmp 22) rfl rfl rfl (t.out.s (g8,27,(iv (fam 16 zd)).toArray) (by simp)) rfl rfl (a1j _) ?_);intro v8 b8 k8;replace t:=hjd (t.out.again L8.out N8.out b8 k8);clear b8 k8))
 refine a1b (by kernel_rfl) [.val (nu d3),.val (nu d5),.val (nu d6),.val (nu d7),.new 27 (nu zd),.put 4 3 (iv (fam 16 d7)).toArray]
  (Pm w [(g8,27,(iv (fam 16 d5)).toArray),(g7,27,(iv (fam 16 d3)).toArray),(g6,27,(iv (fam 16 d1)).toArray),(g4,27,(iv (fam 16 zd)).toArray),(g3,27,(iv (fam 16 dy)).toArray),(g2,29,(iv (fam 16 dc)).toArray)]) (by kernel_rfl) (by kernel_rfl) t.out.drew (fun u u' T hS hk hT=>t.out.fresh u u' T hS hk hT) ?_ ?_
 ·refine⟨?_,?_,?_,?_,⟨⟨_,rfl⟩,rfl,a2i⟩,?_,trivial⟩
  ·exact⟨⟨_,rfl⟩,fun a' u K0 R hS hr ho h=>a0g a1c.row (.tmp 7) rfl ((ho 7 (by decide)).trans rfl) (hS.s (g7,27,(iv (fam 16 d3)).toArray) (by simp)) rfl (h u (Kept.refl _ _))⟩
  ·exact⟨⟨_,rfl⟩,fun a' u K0 R hS hr ho h=>a0g a1c.row (.tmp 8) rfl ((ho 8 (by decide)).trans rfl) (hS.s (g8,27,(iv (fam 16 d5)).toArray) (by simp)) rfl (h u (Kept.refl _ _))⟩
  ·refine⟨⟨_,rfl⟩,fun a' u K0 R hS hr ho h=>a0e rfl a5o (vs:=#[nu d5]) ?_ (c6.out u) h⟩
   have x0:=hr 1 (nu d5) 24 _ rfl rfl rfl ⟨⟨1,.data⟩,by simp,rfl,rfl⟩
   simp [Act.eval]at x0 ⊢
   exact x0
  ·refine⟨⟨_,rfl⟩,fun a' u K0 R hS hr ho h=>a0e rfl a0u (vs:=#[nu d3,nu d6]) ?_ (c7.out u) h⟩
   have x0:=hr 0 (nu d3) 23 _ rfl rfl rfl ⟨⟨0,.data⟩,by simp,rfl,rfl⟩
   have x1:=hr 2 (nu d6) 25 _ rfl rfl rfl ⟨⟨2,.data⟩,by simp,rfl,rfl⟩
   simp [Act.eval]at x0 x1 ⊢
   exact⟨x0,x1⟩
  ·exact⟨rfl,⟨⟨4,.data⟩,by simp,rfl,rfl⟩,⟨⟨3,.data⟩,by simp,rfl,rfl⟩,_,_,_,_,_,_,_,_,rfl,rfl,rfl,rfl,rfl,rfl,rfl,a1c.row,rfl,rfl,a1j _⟩
 intro γ wm hS hγ hne hput
 have b9:=hput 5 4 3 _ _ _ rfl rfl
 have hf9:=hγ 4 _ _ rfl
 generalize e9:γ 4=g9 at *
 simp [a0w,VK,List.range,List.range.loop,Act.put,e9]
 have N9:=hjd (fun p hp=>Nat.ne_of_lt (Nat.lt_of_lt_of_le (t.out.s p hp).lt hf9))
 have L9:=hjd (Nat.le_trans t.out.k.size hf9)
 replace t:=hjd (show Pm w [(g9,27,(iv (fam 16 d7)).toArray),(g8,27,(iv (fam 16 d5)).toArray),(g7,27,(iv (fam 16 d3)).toArray),(g6,27,(iv (fam 16 d1)).toArray),(g4,27,(iv (fam 16 zd)).toArray),(g3,27,(iv (fam 16 dy)).toArray),(g2,29,(iv (fam 16 dc)).toArray)] wm from(hS).cons b9)
 clear b9 hf9 hput hne hγ hS e9
 go_wp2_with (first
  | (with_reducible refine a0a (o:=⟨some 27,_,_,_,_,_⟩) a1c.row rfl (.tmp 9) rfl rfl (t.out.s (g9,27,(iv (fam 16 d7)).toArray) (by simp)) rfl ?_)
  | (go_at_call 151;(with_reducible refine(c8.out _).mono ?_);rintro e v ⟨rfl,kk⟩;replace t:=hjd (t.out.kept kk);clear kk)
  | ((with_reducible refine a0f (o:=⟨some 10,_,_,_,_,_⟩) rfl rfl a2i ?_);intro g10 w10 m10;have N10:=hjd (fun p hp=>m10.ne (t.out.s p hp).lt);have L10:=hjd (Nat.le_trans t.out.k.size m10.le);replace t:=hjd ((t.out.kept m10.kept).cons (show Blk w10 g10 27 (iv (fam 16 zd)).toArray from m10.blk));clear m10)
  | ((refine a0b (o:=⟨none,.store 27 (.tmp 10) (.tmp 28),_,_,_,_⟩) a1c.row rfl (.tmp 10) (.tmp 28) rfl rfl rfl (t.out.s (g10,27,(iv (fam 16 zd)).toArray) (by simp)) rfl rfl (a1j _) ?_);intro v10 b10 k10;replace t:=hjd (t.out.again L10.out N10.out b10 k10);clear b10 k10))
 refine a1b (by kernel_rfl) [.val (nu d8),.val (nu d8),.val (nu d9),.val (nu d7),.val (.bool false),.val (.bool true)]
  (Pm w [(g10,27,(iv (fam 16 d8)).toArray),(g9,27,(iv (fam 16 d7)).toArray),(g8,27,(iv (fam 16 d5)).toArray),(g7,27,(iv (fam 16 d3)).toArray),(g6,27,(iv (fam 16 d1)).toArray),(g4,27,(iv (fam 16 zd)).toArray),(g3,27,(iv (fam 16 dy)).toArray),(g2,29,(iv (fam 16 dc)).toArray)]) (by kernel_rfl) (by kernel_rfl) t.out.drew (fun u u' T hS hk hT=>t.out.fresh u u' T hS hk hT) ?_ ?_
 ·refine⟨?_,?_,?_,?_,?_,?_,trivial⟩
  ·exact⟨⟨_,rfl⟩,fun a' u K0 R hS hr ho h=>a0g a1c.row (.tmp 10) rfl ((ho 10 (by decide)).trans rfl) (hS.s (g10,27,(iv (fam 16 d8)).toArray) (by simp)) rfl (h u (Kept.refl _ _))⟩
  ·exact⟨⟨_,rfl⟩,fun a' u K0 R hS hr ho h=>a0g a1c.row (.tmp 10) rfl ((ho 10 (by decide)).trans rfl) (hS.s (g10,27,(iv (fam 16 d8)).toArray) (by simp)) rfl (h u (Kept.refl _ _))⟩
  ·refine⟨⟨_,rfl⟩,fun a' u K0 R hS hr ho h=>a0e rfl a0u (vs:=#[nu d8,nu d8]) ?_ (c9.out u) h⟩
   have x0:=hr 0 (nu d8) 29 _ rfl rfl rfl ⟨⟨0,.data⟩,by simp,rfl,rfl⟩
   have x1:=hr 1 (nu d8) 30 _ rfl rfl rfl ⟨⟨1,.data⟩,by simp,rfl,rfl⟩
   simp [Act.eval]at x0 x1 ⊢
   exact⟨x0,x1⟩
  ·exact⟨⟨_,rfl⟩,fun a' u K0 R hS hr ho h=>a0g a1c.row (.tmp 9) rfl ((ho 9 (by decide)).trans rfl) (hS.s (g9,27,(iv (fam 16 d7)).toArray) (by simp)) rfl (h u (Kept.refl _ _))⟩
  ·refine⟨⟨_,rfl⟩,fun a' u K0 R hS hr ho h=>a0e rfl a2q (vs:=#[nu d9,nu d7]) ?_ (c10.out u) h⟩
   have x0:=hr 2 (nu d9) 31 _ rfl rfl rfl ⟨⟨2,.data⟩,by simp,rfl,rfl⟩
   have x1:=hr 3 (nu d7) 32 _ rfl rfl rfl ⟨⟨3,.data⟩,by simp,rfl,rfl⟩
   simp [Act.eval]at x0 x1 ⊢
   exact⟨x0,x1⟩
  ·exact⟨⟨_,rfl⟩,fun a' u K0 R0 hS hr ho h=>a9i (.tmp 33) rfl (hr 4 (.bool false) 33 _ rfl rfl rfl ⟨⟨4,.data⟩,by simp,rfl,rfl⟩) (h u (Kept.refl _ _))⟩
 intro γ wm hS hγ hne hput
 simp [a0w,VK,List.range,List.range.loop,Act.put]
 replace t:=hjd (show Pm w [(g10,27,(iv (fam 16 d8)).toArray),(g9,27,(iv (fam 16 d7)).toArray),(g8,27,(iv (fam 16 d5)).toArray),(g7,27,(iv (fam 16 d3)).toArray),(g6,27,(iv (fam 16 d1)).toArray),(g4,27,(iv (fam 16 zd)).toArray),(g3,27,(iv (fam 16 dy)).toArray),(g2,29,(iv (fam 16 dc)).toArray)] wm from hS)
 clear hput hne hγ hS
 go_wp2_with fail
 refine a3o (by kernel_rfl) [nu d8,nu d11,nu d12,nu d13]
  (Pm w [(g10,27,(iv (fam 16 d8)).toArray),(g9,27,(iv (fam 16 d7)).toArray),(g8,27,(iv (fam 16 d5)).toArray),(g7,27,(iv (fam 16 d3)).toArray),(g6,27,(iv (fam 16 d1)).toArray),(g4,27,(iv (fam 16 zd)).toArray),(g3,27,(iv (fam 16 dy)).toArray),(g2,29,(iv (fam 16 dc)).toArray)]) (by kernel_rfl) rfl rfl (by kernel_rfl) t.out.drew (fun u u' h hk=>h.kept hk) ?_ ?_
 ·refine⟨?_,?_,?_,?_,trivial⟩
  ·exact fun a' u K0 R hS hr ho h=>a0g a1c.row (.tmp 10) rfl ((ho 10 (by decide)).trans rfl) (hS.s (g10,27,(iv (fam 16 d8)).toArray) (by simp)) rfl (h u (Kept.refl _ _))
  ·refine fun a' u K0 R hS hr ho h=>a0e rfl a2r (vs:=#[.int .u64 2]) ?_ (c11.out u) h
   simp [Act.eval]
  ·refine fun a' u K0 R hS hr ho h=>a0e rfl a9p (vs:=#[nu d11,.int .i64 253,.int .u64 5]) ?_ (c12.out u) h
   have x0:=hr 1 (nu d11) 36 _ rfl rfl rfl ⟨⟨1,.data⟩,by simp,rfl,rfl⟩
   simp [Act.eval]at x0 ⊢
   exact x0
  ·refine fun a' u K0 R hS hr ho h=>a0e rfl a0u (vs:=#[nu d8,nu d12]) ?_ (c13.out u) h
   have x0:=hr 0 (nu d8) 35 _ rfl rfl rfl ⟨⟨0,.data⟩,by simp,rfl,rfl⟩
   have x1:=hr 2 (nu d12) 37 _ rfl rfl rfl ⟨⟨2,.data⟩,by simp,rfl,rfl⟩
   simp [Act.eval]at x0 x1 ⊢
   exact⟨x0,x1⟩
 intro ul hSl
 simp [a0w,List.range,List.range.loop,Act.put]
 refine a2p a1c.row (.tmp 10) (.tmp 38) rfl rfl rfl (hSl.s (g10,27,(iv (fam 16 d8)).toArray) (by simp)) rfl rfl (a1j _) ?_
 simp [Act.put]
 have bl:=(hSl.s (g10,27,(iv (fam 16 d8)).toArray) (by simp)).a3b (iv (fam 16 d13)).toArray
 have kl:Kept [g10] ul (ul.setRow g10 (iv (fam 16 d13)).toArray):=(Kept.refl [g10] ul).setRow (.inl (by simp)) _
 replace t:=hjd (hSl.again L10.out N10.out bl kl)
 clear bl kl hSl
 go_wp2_with fail
 refine a1b (by kernel_rfl) [.val (nu d13),.val (nu d13),.val (nu d14),.val (nu d7),.val (.bool true),.val (.bool false)]
  (Pm w [(g10,27,(iv (fam 16 d13)).toArray),(g9,27,(iv (fam 16 d7)).toArray),(g8,27,(iv (fam 16 d5)).toArray),(g7,27,(iv (fam 16 d3)).toArray),(g6,27,(iv (fam 16 d1)).toArray),(g4,27,(iv (fam 16 zd)).toArray),(g3,27,(iv (fam 16 dy)).toArray),(g2,29,(iv (fam 16 dc)).toArray)]) (by kernel_rfl) (by kernel_rfl) t.out.drew (fun u u' T hS hk hT=>t.out.fresh u u' T hS hk hT) ?_ ?_
 ·refine⟨?_,?_,?_,?_,?_,?_,trivial⟩
  ·exact⟨⟨_,rfl⟩,fun a' u K0 R hS hr ho h=>a0g a1c.row (.tmp 10) rfl ((ho 10 (by decide)).trans rfl) (hS.s (g10,27,(iv (fam 16 d13)).toArray) (by simp)) rfl (h u (Kept.refl _ _))⟩
  ·exact⟨⟨_,rfl⟩,fun a' u K0 R hS hr ho h=>a0g a1c.row (.tmp 10) rfl ((ho 10 (by decide)).trans rfl) (hS.s (g10,27,(iv (fam 16 d13)).toArray) (by simp)) rfl (h u (Kept.refl _ _))⟩
  ·refine⟨⟨_,rfl⟩,fun a' u K0 R hS hr ho h=>a0e rfl a0u (vs:=#[nu d13,nu d13]) ?_ (c14.out u) h⟩
   have x0:=hr 0 (nu d13) 39 _ rfl rfl rfl ⟨⟨0,.data⟩,by simp,rfl,rfl⟩
   have x1:=hr 1 (nu d13) 40 _ rfl rfl rfl ⟨⟨1,.data⟩,by simp,rfl,rfl⟩
   simp [Act.eval]at x0 x1 ⊢
   exact⟨x0,x1⟩
  ·exact⟨⟨_,rfl⟩,fun a' u K0 R hS hr ho h=>a0g a1c.row (.tmp 9) rfl ((ho 9 (by decide)).trans rfl) (hS.s (g9,27,(iv (fam 16 d7)).toArray) (by simp)) rfl (h u (Kept.refl _ _))⟩
  ·refine⟨⟨_,rfl⟩,fun a' u K0 R hS hr ho h=>a0e rfl a2q (vs:=#[nu d14,nu d7]) ?_ (c15.out u) h⟩
   have x0:=hr 2 (nu d14) 41 _ rfl rfl rfl ⟨⟨2,.data⟩,by simp,rfl,rfl⟩
   have x1:=hr 3 (nu d7) 42 _ rfl rfl rfl ⟨⟨3,.data⟩,by simp,rfl,rfl⟩
   simp [Act.eval]at x0 x1 ⊢
   exact⟨x0,x1⟩
  ·exact⟨⟨_,rfl⟩,fun a' u K0 R0 hS hr ho h=>a9i (.tmp 43) rfl (hr 4 (.bool true) 43 _ rfl rfl rfl ⟨⟨4,.data⟩,by simp,rfl,rfl⟩) (h u (Kept.refl _ _))⟩
 intro γ wm hS hγ hne hput
 simp [a0w,VK,List.range,List.range.loop,Act.put]
 replace t:=hjd (show Pm w [(g10,27,(iv (fam 16 d13)).toArray),(g9,27,(iv (fam 16 d7)).toArray),(g8,27,(iv (fam 16 d5)).toArray),(g7,27,(iv (fam 16 d3)).toArray),(g6,27,(iv (fam 16 d1)).toArray),(g4,27,(iv (fam 16 zd)).toArray),(g3,27,(iv (fam 16 dy)).toArray),(g2,29,(iv (fam 16 dc)).toArray)] wm from hS)
 clear hput hne hγ hS
 go_wp2_with (first
  | (with_reducible refine a0a (o:=⟨some 46,_,_,_,_,_⟩) a1c.row rfl (.tmp 10) rfl rfl (t.out.s (g10,27,(iv (fam 16 d13)).toArray) (by simp)) rfl ?_)
  | (go_at_call 107;(with_reducible refine(c16.out _).mono ?_);rintro e v ⟨rfl,kk⟩;replace t:=hjd (t.out.kept kk);clear kk))
 refine a3o (by kernel_rfl) [nu d17,nu d13,nu d18,nu d2,nu d19]
  (Pm w [(g10,27,(iv (fam 16 d13)).toArray),(g9,27,(iv (fam 16 d7)).toArray),(g8,27,(iv (fam 16 d5)).toArray),(g7,27,(iv (fam 16 d3)).toArray),(g6,27,(iv (fam 16 d1)).toArray),(g4,27,(iv (fam 16 zd)).toArray),(g3,27,(iv (fam 16 dy)).toArray),(g2,29,(iv (fam 16 dc)).toArray)]) (by kernel_rfl) rfl rfl (by kernel_rfl) t.out.drew (fun u u' h hk=>h.kept hk) ?_ ?_
 ·refine⟨?_,?_,?_,?_,?_,trivial⟩
  ·refine fun a' u K0 R hS hr ho h=>a0e rfl a2r (vs:=#[.int .u64 0]) ?_ (c17.out u) h
   simp [Act.eval]
  ·exact fun a' u K0 R hS hr ho h=>a0g a1c.row (.tmp 10) rfl ((ho 10 (by decide)).trans rfl) (hS.s (g10,27,(iv (fam 16 d13)).toArray) (by simp)) rfl (h u (Kept.refl _ _))
  ·refine fun a' u K0 R hS hr ho h=>a0e rfl a3t (vs:=#[nu d17,nu d13]) ?_ (c18.out u) h
   have x0:=hr 0 (nu d17) 51 _ rfl rfl rfl ⟨⟨0,.data⟩,by simp,rfl,rfl⟩
   have x1:=hr 1 (nu d13) 52 _ rfl rfl rfl ⟨⟨1,.data⟩,by simp,rfl,rfl⟩
   simp [Act.eval]at x0 x1 ⊢
   exact⟨x0,x1⟩
  ·refine fun a' u K0 R hS hr ho h=>a0e rfl a2r (vs:=#[.int .u64 1]) ?_ (c2.out u) h
   simp [Act.eval]
  ·refine fun a' u K0 R hS hr ho h=>a0e rfl a0u (vs:=#[nu d18,nu d2]) ?_ (c19.out u) h
   have x0:=hr 2 (nu d18) 53 _ rfl rfl rfl ⟨⟨2,.data⟩,by simp,rfl,rfl⟩
   have x1:=hr 3 (nu d2) 54 _ rfl rfl rfl ⟨⟨3,.data⟩,by simp,rfl,rfl⟩
   simp [Act.eval]at x0 x1 ⊢
   exact⟨x0,x1⟩
 intro ul hSl
 simp [a0w,List.range,List.range.loop,Act.put]
 refine a2p a1c.row (.tmp 10) (.tmp 55) rfl rfl rfl (hSl.s (g10,27,(iv (fam 16 d13)).toArray) (by simp)) rfl rfl (a1j _) ?_
 simp [Act.put]
 have bl:=(hSl.s (g10,27,(iv (fam 16 d13)).toArray) (by simp)).a3b (iv (fam 16 d19)).toArray
 have kl:Kept [g10] ul (ul.setRow g10 (iv (fam 16 d19)).toArray):=(Kept.refl [g10] ul).setRow (.inl (by simp)) _
 replace t:=hjd (hSl.again L10.out N10.out bl kl)
 clear bl kl hSl
 go_wp2_with (first
  | (with_reducible refine a0a (o:=⟨some 56,_,_,_,_,_⟩) a1c.row rfl (.tmp 10) rfl rfl (t.out.s (g10,27,(iv (fam 16 d19)).toArray) (by simp)) rfl ?_)
  | ((refine a0b (o:=⟨none,.store 27 (.tmp 4) (.tmp 56),_,_,_,_⟩) a1c.row rfl (.tmp 4) (.tmp 56) rfl rfl rfl (t.out.s (g4,27,(iv (fam 16 zd)).toArray) (by simp)) rfl rfl (a1j _) ?_);intro v4 b4 k4;have bR:=hjd b4;have kR:=hjd k4;clear b4 k4))
 exact a1z a1c.row rfl rfl bR.out rfl rfl ⟨rfl,t.out.k.a0n kR.out L4.out⟩
set_option maxHeartbeats 4000000 in
theorem d4f{dc dy:Nat→Int}{y:Ed.Fq}(hD:Dq 70000 dc Ed.D)(hy:Dq 70000 dy y)(hs0:¬(rX0 y * rX0 y).v=(rW y).v)(hs1:(rX1 y * rX1 y).v=(rW y).v)(ho:¬(rX1 y).v % 2=1):∃r,RtC dc dy r true∧Dq 70000 r (rX1 y):=by
 obtain⟨d1,c1,h1⟩:=a1s hy hy (by omega) (by omega)
 obtain⟨d2,c2,h2⟩:=c0f 1 (z:=1) (by omega) rfl
 obtain⟨d3,c3,h3⟩:=b1e h1 h2 (by omega) (by omega)
 obtain⟨d4,c4,h4⟩:=a1s h1 hD (by omega) (by omega)
 obtain⟨d5,c5,h5⟩:=b2g h4 h2 (by omega) (by omega)
 obtain⟨d6,c6,h6⟩:=b0d h5 (by omega)
 obtain⟨d7,c7,h7⟩:=a1s h3 h6 (by omega) (by omega)
 obtain⟨d8,c8,h8⟩:=b9l h7 (by omega)
 obtain⟨d9,c9,h9⟩:=a1s h8 h8 (by omega) (by omega)
 have c10:ReC d9 d7 false:=a8d h9 h7 (by omega) (by omega) (decide_eq_false hs0)
 obtain⟨d11,c11,h11⟩:=c0f 2 (z:=2) (by omega) rfl
 obtain⟨d12,c12,h12⟩:=d2k h11 (by omega)
 obtain⟨d13,c13,h13⟩:=a1s h8 h12 (by omega) (by omega)
 obtain⟨d14,c14,h14⟩:=a1s h13 h13 (by omega) (by omega)
 have c15:ReC d14 d7 true:=a8d h14 h7 (by omega) (by omega) (decide_eq_true hs1)
 obtain⟨l16,c16,e16,nl16⟩:=a6d h13 (by omega)
 have hb:=a9b (rX1 y).v e16
 have ho2:(((rX1 y).v % 256:Nat):Int).tmod 2=0:=by rw [Int.tmod_eq_emod_of_nonneg (by omega)];omega
 refine⟨d13,?_,h13⟩
 generalize (rX1 y).v % 256=xb at *
 clear e16 ho
 intro w
 replace c1:=hjd c1
 replace c2:=hjd c2
 replace c3:=hjd c3
 replace c4:=hjd c4
 replace c5:=hjd c5
 replace c6:=hjd c6
 replace c7:=hjd c7
 replace c8:=hjd c8
 replace c9:=hjd c9
 replace c10:=hjd c10
 replace c11:=hjd c11
 replace c12:=hjd c12
 replace c13:=hjd c13
 replace c14:=hjd c14
 replace c15:=hjd c15
 replace nl16:=hjd nl16
 replace c16:=hjd c16
 clear hD hy hs0 hs1 h1 h2 h3 h4 h5 h6 h7 h8 h9 h11 h12 h13 h14
 go_enter Tryz.func109,Tryz.ntmps109
 have t:=hjd (Pm.none w)
 go_wp2_with (first
  | ((with_reducible refine a0m (o:=⟨some 2,_,_,_,_,_⟩) (v:=nu dc) rfl (.tmp 0) rfl rfl ?_);intro g2 w2 m2;have N2:=hjd (fun p hp=>m2.ne (t.out.s p hp).lt);have L2:=hjd (Nat.le_trans t.out.k.size m2.le);replace t:=hjd ((t.out.kept m2.kept).cons (show Blk w2 g2 29 (iv (fam 16 dc)).toArray from m2.blk));clear m2)
  | ((with_reducible refine a0m (o:=⟨some 3,_,_,_,_,_⟩) (v:=nu dy) rfl (.tmp 1) rfl rfl ?_);intro g3 w3 m3;have N3:=hjd (fun p hp=>m3.ne (t.out.s p hp).lt);have L3:=hjd (Nat.le_trans t.out.k.size m3.le);replace t:=hjd ((t.out.kept m3.kept).cons (show Blk w3 g3 27 (iv (fam 16 dy)).toArray from m3.blk));clear m3)
  | ((with_reducible refine a0f (o:=⟨some 4,_,_,_,_,_⟩) rfl rfl a2i ?_);intro g4 w4 m4;have N4:=hjd (fun p hp=>m4.ne (t.out.s p hp).lt);have L4:=hjd (Nat.le_trans t.out.k.size m4.le);replace t:=hjd ((t.out.kept m4.kept).cons (show Blk w4 g4 27 (iv (fam 16 zd)).toArray from m4.blk));clear m4)
  | (with_reducible refine a0a (o:=⟨some 11,_,_,_,_,_⟩) a1c.row rfl (.tmp 3) rfl rfl (t.out.s (g3,27,(iv (fam 16 dy)).toArray) (by simp)) rfl ?_)
  | (with_reducible refine a0a (o:=⟨some 12,_,_,_,_,_⟩) a1c.row rfl (.tmp 3) rfl rfl (t.out.s (g3,27,(iv (fam 16 dy)).toArray) (by simp)) rfl ?_)
  | (go_at_call 84;(with_reducible refine(c1.out _).mono ?_);rintro e v ⟨rfl,kk⟩;replace t:=hjd (t.out.kept kk);clear kk)
  | ((with_reducible refine a0f (o:=⟨some 6,_,_,_,_,_⟩) rfl rfl a2i ?_);intro g6 w6 m6;have N6:=hjd (fun p hp=>m6.ne (t.out.s p hp).lt);have L6:=hjd (Nat.le_trans t.out.k.size m6.le);replace t:=hjd ((t.out.kept m6.kept).cons (show Blk w6 g6 27 (iv (fam 16 zd)).toArray from m6.blk));clear m6)
  | ((refine a0b (o:=⟨none,.store 27 (.tmp 6) (.tmp 13),_,_,_,_⟩) a1c.row rfl (.tmp 6) (.tmp 13) rfl rfl rfl (t.out.s (g6,27,(iv (fam 16 zd)).toArray) (by simp)) rfl rfl (a1j _) ?_);intro v6 b6 k6;replace t:=hjd (t.out.again L6.out N6.out b6 k6);clear b6 k6))
 refine a1b (by kernel_rfl) [.val (nu d1),.val (nu d2),.val (nu d3),.new 27 (nu zd),.put 3 2 (iv (fam 16 d3)).toArray]
  (Pm w [(g6,27,(iv (fam 16 d1)).toArray),(g4,27,(iv (fam 16 zd)).toArray),(g3,27,(iv (fam 16 dy)).toArray),(g2,29,(iv (fam 16 dc)).toArray)]) (by kernel_rfl) (by kernel_rfl) t.out.drew (fun u u' T hS hk hT=>t.out.fresh u u' T hS hk hT) ?_ ?_
 ·refine⟨?_,?_,?_,⟨⟨_,rfl⟩,rfl,a2i⟩,?_,trivial⟩
  ·exact⟨⟨_,rfl⟩,fun a' u K0 R hS hr ho h=>a0g a1c.row (.tmp 6) rfl ((ho 6 (by decide)).trans rfl) (hS.s (g6,27,(iv (fam 16 d1)).toArray) (by simp)) rfl (h u (Kept.refl _ _))⟩
  ·refine⟨⟨_,rfl⟩,fun a' u K0 R hS hr ho h=>a0e rfl a2r (vs:=#[.int .u64 1]) ?_ (c2.out u) h⟩
   simp [Act.eval]
  ·refine⟨⟨_,rfl⟩,fun a' u K0 R hS hr ho h=>a0e rfl a3t (vs:=#[nu d1,nu d2]) ?_ (c3.out u) h⟩
   have x0:=hr 0 (nu d1) 14 _ rfl rfl rfl ⟨⟨0,.data⟩,by simp,rfl,rfl⟩
   have x1:=hr 1 (nu d2) 15 _ rfl rfl rfl ⟨⟨1,.data⟩,by simp,rfl,rfl⟩
   simp [Act.eval]at x0 x1 ⊢
   exact⟨x0,x1⟩
  ·exact⟨rfl,⟨⟨3,.data⟩,by simp,rfl,rfl⟩,⟨⟨2,.data⟩,by simp,rfl,rfl⟩,_,_,_,_,_,_,_,_,rfl,rfl,rfl,rfl,rfl,rfl,rfl,a1c.row,rfl,rfl,a1j _⟩
 intro γ wm hS hγ hne hput
 have b7:=hput 4 3 2 _ _ _ rfl rfl
 have hf7:=hγ 3 _ _ rfl
 generalize e7:γ 3=g7 at *
 simp [a0w,VK,List.range,List.range.loop,Act.put,e7]
 have N7:=hjd (fun p hp=>Nat.ne_of_lt (Nat.lt_of_lt_of_le (t.out.s p hp).lt hf7))
 have L7:=hjd (Nat.le_trans t.out.k.size hf7)
 replace t:=hjd (show Pm w [(g7,27,(iv (fam 16 d3)).toArray),(g6,27,(iv (fam 16 d1)).toArray),(g4,27,(iv (fam 16 zd)).toArray),(g3,27,(iv (fam 16 dy)).toArray),(g2,29,(iv (fam 16 dc)).toArray)] wm from(hS).cons b7)
 clear b7 hf7 hput hne hγ hS e7
 go_wp2_with (first
  | (with_reducible refine a0a (o:=⟨some 17,_,_,_,_,_⟩) a1c.row rfl (.tmp 6) rfl rfl (t.out.s (g6,27,(iv (fam 16 d1)).toArray) (by simp)) rfl ?_)
  | (with_reducible refine a1h (o:=⟨some 19,_,_,_,_,_⟩) a1c.row rfl (.tmp 18) rfl rfl (e7q (t.out.s (g2,29,(iv (fam 16 dc)).toArray) (by simp))) (b1p _) ?_)
  | (go_at_call 84;(with_reducible refine(c4.out _).mono ?_);rintro e v ⟨rfl,kk⟩;replace t:=hjd (t.out.kept kk);clear kk)
  | (go_at_call 86;(with_reducible refine(c2.out _).mono ?_);rintro e v ⟨rfl,kk⟩;replace t:=hjd (t.out.kept kk);clear kk)
  | (go_at_call 123;(with_reducible refine(c5.out _).mono ?_);rintro e v ⟨rfl,kk⟩;replace t:=hjd (t.out.kept kk);clear kk)
  | ((with_reducible refine a0f (o:=⟨some 8,_,_,_,_,_⟩) rfl rfl a2i ?_);intro g8 w8 m8;have N8:=hjd (fun p hp=>m8.ne (t.out.s p hp).lt);have L8:=hjd (Nat.le_trans t.out.k.size m8.le);replace t:=hjd ((t.out.kept m8.kept).cons (show Blk w8 g8 27 (iv (fam 16 zd)).toArray from m8.blk));clear m8)
  | ((refine a0b (o:=⟨none,.store 27 (.tmp 8) (.tmp 22),_,_,_,_⟩) a1c.row rfl (.tmp 8) (.tmp 22) rfl rfl rfl (t.out.s (g8,27,(iv (fam 16 zd)).toArray) (by simp)) rfl rfl (a1j _) ?_);intro v8 b8 k8;replace t:=hjd (t.out.again L8.out N8.out b8 k8);clear b8 k8))
 refine a1b (by kernel_rfl) [.val (nu d3),.val (nu d5),.val (nu d6),.val (nu d7),.new 27 (nu zd),.put 4 3 (iv (fam 16 d7)).toArray]
  (Pm w [(g8,27,(iv (fam 16 d5)).toArray),(g7,27,(iv (fam 16 d3)).toArray),(g6,27,(iv (fam 16 d1)).toArray),(g4,27,(iv (fam 16 zd)).toArray),(g3,27,(iv (fam 16 dy)).toArray),(g2,29,(iv (fam 16 dc)).toArray)]) (by kernel_rfl) (by kernel_rfl) t.out.drew (fun u u' T hS hk hT=>t.out.fresh u u' T hS hk hT) ?_ ?_
 ·refine⟨?_,?_,?_,?_,⟨⟨_,rfl⟩,rfl,a2i⟩,?_,trivial⟩
  ·exact⟨⟨_,rfl⟩,fun a' u K0 R hS hr ho h=>a0g a1c.row (.tmp 7) rfl ((ho 7 (by decide)).trans rfl) (hS.s (g7,27,(iv (fam 16 d3)).toArray) (by simp)) rfl (h u (Kept.refl _ _))⟩
  ·exact⟨⟨_,rfl⟩,fun a' u K0 R hS hr ho h=>a0g a1c.row (.tmp 8) rfl ((ho 8 (by decide)).trans rfl) (hS.s (g8,27,(iv (fam 16 d5)).toArray) (by simp)) rfl (h u (Kept.refl _ _))⟩
  ·refine⟨⟨_,rfl⟩,fun a' u K0 R hS hr ho h=>a0e rfl a5o (vs:=#[nu d5]) ?_ (c6.out u) h⟩
   have x0:=hr 1 (nu d5) 24 _ rfl rfl rfl ⟨⟨1,.data⟩,by simp,rfl,rfl⟩
   simp [Act.eval]at x0 ⊢
   exact x0
  ·refine⟨⟨_,rfl⟩,fun a' u K0 R hS hr ho h=>a0e rfl a0u (vs:=#[nu d3,nu d6]) ?_ (c7.out u) h⟩
   have x0:=hr 0 (nu d3) 23 _ rfl rfl rfl ⟨⟨0,.data⟩,by simp,rfl,rfl⟩
   have x1:=hr 2 (nu d6) 25 _ rfl rfl rfl ⟨⟨2,.data⟩,by simp,rfl,rfl⟩
   simp [Act.eval]at x0 x1 ⊢
   exact⟨x0,x1⟩
  ·exact⟨rfl,⟨⟨4,.data⟩,by simp,rfl,rfl⟩,⟨⟨3,.data⟩,by simp,rfl,rfl⟩,_,_,_,_,_,_,_,_,rfl,rfl,rfl,rfl,rfl,rfl,rfl,a1c.row,rfl,rfl,a1j _⟩
 intro γ wm hS hγ hne hput
 have b9:=hput 5 4 3 _ _ _ rfl rfl
 have hf9:=hγ 4 _ _ rfl
 generalize e9:γ 4=g9 at *
 simp [a0w,VK,List.range,List.range.loop,Act.put,e9]
 have N9:=hjd (fun p hp=>Nat.ne_of_lt (Nat.lt_of_lt_of_le (t.out.s p hp).lt hf9))
 have L9:=hjd (Nat.le_trans t.out.k.size hf9)
 replace t:=hjd (show Pm w [(g9,27,(iv (fam 16 d7)).toArray),(g8,27,(iv (fam 16 d5)).toArray),(g7,27,(iv (fam 16 d3)).toArray),(g6,27,(iv (fam 16 d1)).toArray),(g4,27,(iv (fam 16 zd)).toArray),(g3,27,(iv (fam 16 dy)).toArray),(g2,29,(iv (fam 16 dc)).toArray)] wm from(hS).cons b9)
 clear b9 hf9 hput hne hγ hS e9
 go_wp2_with (first
  | (with_reducible refine a0a (o:=⟨some 27,_,_,_,_,_⟩) a1c.row rfl (.tmp 9) rfl rfl (t.out.s (g9,27,(iv (fam 16 d7)).toArray) (by simp)) rfl ?_)
  | (go_at_call 151;(with_reducible refine(c8.out _).mono ?_);rintro e v ⟨rfl,kk⟩;replace t:=hjd (t.out.kept kk);clear kk)
  | ((with_reducible refine a0f (o:=⟨some 10,_,_,_,_,_⟩) rfl rfl a2i ?_);intro g10 w10 m10;have N10:=hjd (fun p hp=>m10.ne (t.out.s p hp).lt);have L10:=hjd (Nat.le_trans t.out.k.size m10.le);replace t:=hjd ((t.out.kept m10.kept).cons (show Blk w10 g10 27 (iv (fam 16 zd)).toArray from m10.blk));clear m10)
  | ((refine a0b (o:=⟨none,.store 27 (.tmp 10) (.tmp 28),_,_,_,_⟩) a1c.row rfl (.tmp 10) (.tmp 28) rfl rfl rfl (t.out.s (g10,27,(iv (fam 16 zd)).toArray) (by simp)) rfl rfl (a1j _) ?_);intro v10 b10 k10;replace t:=hjd (t.out.again L10.out N10.out b10 k10);clear b10 k10))
 refine a1b (by kernel_rfl) [.val (nu d8),.val (nu d8),.val (nu d9),.val (nu d7),.val (.bool false),.val (.bool true)]
  (Pm w [(g10,27,(iv (fam 16 d8)).toArray),(g9,27,(iv (fam 16 d7)).toArray),(g8,27,(iv (fam 16 d5)).toArray),(g7,27,(iv (fam 16 d3)).toArray),(g6,27,(iv (fam 16 d1)).toArray),(g4,27,(iv (fam 16 zd)).toArray),(g3,27,(iv (fam 16 dy)).toArray),(g2,29,(iv (fam 16 dc)).toArray)]) (by kernel_rfl) (by kernel_rfl) t.out.drew (fun u u' T hS hk hT=>t.out.fresh u u' T hS hk hT) ?_ ?_
 ·refine⟨?_,?_,?_,?_,?_,?_,trivial⟩
  ·exact⟨⟨_,rfl⟩,fun a' u K0 R hS hr ho h=>a0g a1c.row (.tmp 10) rfl ((ho 10 (by decide)).trans rfl) (hS.s (g10,27,(iv (fam 16 d8)).toArray) (by simp)) rfl (h u (Kept.refl _ _))⟩
  ·exact⟨⟨_,rfl⟩,fun a' u K0 R hS hr ho h=>a0g a1c.row (.tmp 10) rfl ((ho 10 (by decide)).trans rfl) (hS.s (g10,27,(iv (fam 16 d8)).toArray) (by simp)) rfl (h u (Kept.refl _ _))⟩
  ·refine⟨⟨_,rfl⟩,fun a' u K0 R hS hr ho h=>a0e rfl a0u (vs:=#[nu d8,nu d8]) ?_ (c9.out u) h⟩
   have x0:=hr 0 (nu d8) 29 _ rfl rfl rfl ⟨⟨0,.data⟩,by simp,rfl,rfl⟩
   have x1:=hr 1 (nu d8) 30 _ rfl rfl rfl ⟨⟨1,.data⟩,by simp,rfl,rfl⟩
   simp [Act.eval]at x0 x1 ⊢
   exact⟨x0,x1⟩
  ·exact⟨⟨_,rfl⟩,fun a' u K0 R hS hr ho h=>a0g a1c.row (.tmp 9) rfl ((ho 9 (by decide)).trans rfl) (hS.s (g9,27,(iv (fam 16 d7)).toArray) (by simp)) rfl (h u (Kept.refl _ _))⟩
  ·refine⟨⟨_,rfl⟩,fun a' u K0 R hS hr ho h=>a0e rfl a2q (vs:=#[nu d9,nu d7]) ?_ (c10.out u) h⟩
   have x0:=hr 2 (nu d9) 31 _ rfl rfl rfl ⟨⟨2,.data⟩,by simp,rfl,rfl⟩
   have x1:=hr 3 (nu d7) 32 _ rfl rfl rfl ⟨⟨3,.data⟩,by simp,rfl,rfl⟩
   simp [Act.eval]at x0 x1 ⊢
   exact⟨x0,x1⟩
  ·exact⟨⟨_,rfl⟩,fun a' u K0 R0 hS hr ho h=>a9i (.tmp 33) rfl (hr 4 (.bool false) 33 _ rfl rfl rfl ⟨⟨4,.data⟩,by simp,rfl,rfl⟩) (h u (Kept.refl _ _))⟩
 intro γ wm hS hγ hne hput
 simp [a0w,VK,List.range,List.range.loop,Act.put]
 replace t:=hjd (show Pm w [(g10,27,(iv (fam 16 d8)).toArray),(g9,27,(iv (fam 16 d7)).toArray),(g8,27,(iv (fam 16 d5)).toArray),(g7,27,(iv (fam 16 d3)).toArray),(g6,27,(iv (fam 16 d1)).toArray),(g4,27,(iv (fam 16 zd)).toArray),(g3,27,(iv (fam 16 dy)).toArray),(g2,29,(iv (fam 16 dc)).toArray)] wm from hS)
 clear hput hne hγ hS
 go_wp2_with fail
 refine a3o (by kernel_rfl) [nu d8,nu d11,nu d12,nu d13]
  (Pm w [(g10,27,(iv (fam 16 d8)).toArray),(g9,27,(iv (fam 16 d7)).toArray),(g8,27,(iv (fam 16 d5)).toArray),(g7,27,(iv (fam 16 d3)).toArray),(g6,27,(iv (fam 16 d1)).toArray),(g4,27,(iv (fam 16 zd)).toArray),(g3,27,(iv (fam 16 dy)).toArray),(g2,29,(iv (fam 16 dc)).toArray)]) (by kernel_rfl) rfl rfl (by kernel_rfl) t.out.drew (fun u u' h hk=>h.kept hk) ?_ ?_
 ·refine⟨?_,?_,?_,?_,trivial⟩
  ·exact fun a' u K0 R hS hr ho h=>a0g a1c.row (.tmp 10) rfl ((ho 10 (by decide)).trans rfl) (hS.s (g10,27,(iv (fam 16 d8)).toArray) (by simp)) rfl (h u (Kept.refl _ _))
  ·refine fun a' u K0 R hS hr ho h=>a0e rfl a2r (vs:=#[.int .u64 2]) ?_ (c11.out u) h
   simp [Act.eval]
  ·refine fun a' u K0 R hS hr ho h=>a0e rfl a9p (vs:=#[nu d11,.int .i64 253,.int .u64 5]) ?_ (c12.out u) h
   have x0:=hr 1 (nu d11) 36 _ rfl rfl rfl ⟨⟨1,.data⟩,by simp,rfl,rfl⟩
   simp [Act.eval]at x0 ⊢
   exact x0
  ·refine fun a' u K0 R hS hr ho h=>a0e rfl a0u (vs:=#[nu d8,nu d12]) ?_ (c13.out u) h
   have x0:=hr 0 (nu d8) 35 _ rfl rfl rfl ⟨⟨0,.data⟩,by simp,rfl,rfl⟩
   have x1:=hr 2 (nu d12) 37 _ rfl rfl rfl ⟨⟨2,.data⟩,by simp,rfl,rfl⟩
   simp [Act.eval]at x0 x1 ⊢
   exact⟨x0,x1⟩
 intro ul hSl
 simp [a0w,List.range,List.range.loop,Act.put]
 refine a2p a1c.row (.tmp 10) (.tmp 38) rfl rfl rfl (hSl.s (g10,27,(iv (fam 16 d8)).toArray) (by simp)) rfl rfl (a1j _) ?_
 simp [Act.put]
 have bl:=(hSl.s (g10,27,(iv (fam 16 d8)).toArray) (by simp)).a3b (iv (fam 16 d13)).toArray
 have kl:Kept [g10] ul (ul.setRow g10 (iv (fam 16 d13)).toArray):=(Kept.refl [g10] ul).setRow (.inl (by simp)) _
 replace t:=hjd (hSl.again L10.out N10.out bl kl)
 clear bl kl hSl
 go_wp2_with fail
 refine a1b (by kernel_rfl) [.val (nu d13),.val (nu d13),.val (nu d14),.val (nu d7),.val (.bool true),.val (.bool false)]
  (Pm w [(g10,27,(iv (fam 16 d13)).toArray),(g9,27,(iv (fam 16 d7)).toArray),(g8,27,(iv (fam 16 d5)).toArray),(g7,27,(iv (fam 16 d3)).toArray),(g6,27,(iv (fam 16 d1)).toArray),(g4,27,(iv (fam 16 zd)).toArray),(g3,27,(iv (fam 16 dy)).toArray),(g2,29,(iv (fam 16 dc)).toArray)]) (by kernel_rfl) (by kernel_rfl) t.out.drew (fun u u' T hS hk hT=>t.out.fresh u u' T hS hk hT) ?_ ?_
 ·refine⟨?_,?_,?_,?_,?_,?_,trivial⟩
  ·exact⟨⟨_,rfl⟩,fun a' u K0 R hS hr ho h=>a0g a1c.row (.tmp 10) rfl ((ho 10 (by decide)).trans rfl) (hS.s (g10,27,(iv (fam 16 d13)).toArray) (by simp)) rfl (h u (Kept.refl _ _))⟩
  ·exact⟨⟨_,rfl⟩,fun a' u K0 R hS hr ho h=>a0g a1c.row (.tmp 10) rfl ((ho 10 (by decide)).trans rfl) (hS.s (g10,27,(iv (fam 16 d13)).toArray) (by simp)) rfl (h u (Kept.refl _ _))⟩
  ·refine⟨⟨_,rfl⟩,fun a' u K0 R hS hr ho h=>a0e rfl a0u (vs:=#[nu d13,nu d13]) ?_ (c14.out u) h⟩
   have x0:=hr 0 (nu d13) 39 _ rfl rfl rfl ⟨⟨0,.data⟩,by simp,rfl,rfl⟩
   have x1:=hr 1 (nu d13) 40 _ rfl rfl rfl ⟨⟨1,.data⟩,by simp,rfl,rfl⟩
   simp [Act.eval]at x0 x1 ⊢
   exact⟨x0,x1⟩
  ·exact⟨⟨_,rfl⟩,fun a' u K0 R hS hr ho h=>a0g a1c.row (.tmp 9) rfl ((ho 9 (by decide)).trans rfl) (hS.s (g9,27,(iv (fam 16 d7)).toArray) (by simp)) rfl (h u (Kept.refl _ _))⟩
  ·refine⟨⟨_,rfl⟩,fun a' u K0 R hS hr ho h=>a0e rfl a2q (vs:=#[nu d14,nu d7]) ?_ (c15.out u) h⟩
   have x0:=hr 2 (nu d14) 41 _ rfl rfl rfl ⟨⟨2,.data⟩,by simp,rfl,rfl⟩
   have x1:=hr 3 (nu d7) 42 _ rfl rfl rfl ⟨⟨3,.data⟩,by simp,rfl,rfl⟩
   simp [Act.eval]at x0 x1 ⊢
   exact⟨x0,x1⟩
  ·exact⟨⟨_,rfl⟩,fun a' u K0 R0 hS hr ho h=>a9i (.tmp 43) rfl (hr 4 (.bool true) 43 _ rfl rfl rfl ⟨⟨4,.data⟩,by simp,rfl,rfl⟩) (h u (Kept.refl _ _))⟩
 intro γ wm hS hγ hne hput
 simp [a0w,VK,List.range,List.range.loop,Act.put]
 replace t:=hjd (show Pm w [(g10,27,(iv (fam 16 d13)).toArray),(g9,27,(iv (fam 16 d7)).toArray),(g8,27,(iv (fam 16 d5)).toArray),(g7,27,(iv (fam 16 d3)).toArray),(g6,27,(iv (fam 16 d1)).toArray),(g4,27,(iv (fam 16 zd)).toArray),(g3,27,(iv (fam 16 dy)).toArray),(g2,29,(iv (fam 16 dc)).toArray)] wm from hS)
 clear hput hne hγ hS
 go_wp2_with (first
  | (with_reducible refine a0a (o:=⟨some 46,_,_,_,_,_⟩) a1c.row rfl (.tmp 10) rfl rfl (t.out.s (g10,27,(iv (fam 16 d13)).toArray) (by simp)) rfl ?_)
  | (go_at_call 107;(with_reducible refine(c16.out _).mono ?_);rintro e v ⟨rfl,kk⟩;replace t:=hjd (t.out.kept kk);clear kk)
  | (with_reducible refine a0a (o:=⟨some 56,_,_,_,_,_⟩) a1c.row rfl (.tmp 10) rfl rfl (t.out.s (g10,27,(iv (fam 16 d13)).toArray) (by simp)) rfl ?_)
  | ((refine a0b (o:=⟨none,.store 27 (.tmp 4) (.tmp 56),_,_,_,_⟩) a1c.row rfl (.tmp 4) (.tmp 56) rfl rfl rfl (t.out.s (g4,27,(iv (fam 16 zd)).toArray) (by simp)) rfl rfl (a1j _) ?_);intro v4 b4 k4;have bR:=hjd b4;have kR:=hjd k4;clear b4 k4))
 exact a1z a1c.row rfl rfl bR.out rfl rfl ⟨rfl,t.out.k.a0n kR.out L4.out⟩
set_option maxHeartbeats 4000000 in
theorem root_C{dc dy:Nat→Int}{y:Ed.Fq}(hD:Dq 70000 dc Ed.D)(hy:Dq 70000 dy y)(hs0:¬(rX0 y * rX0 y).v=(rW y).v)(hs1:¬(rX1 y * rX1 y).v=(rW y).v):RtC dc dy zd false:=by
 obtain⟨d1,c1,h1⟩:=a1s hy hy (by omega) (by omega)
 obtain⟨d2,c2,h2⟩:=c0f 1 (z:=1) (by omega) rfl
 obtain⟨d3,c3,h3⟩:=b1e h1 h2 (by omega) (by omega)
 obtain⟨d4,c4,h4⟩:=a1s h1 hD (by omega) (by omega)
 obtain⟨d5,c5,h5⟩:=b2g h4 h2 (by omega) (by omega)
 obtain⟨d6,c6,h6⟩:=b0d h5 (by omega)
 obtain⟨d7,c7,h7⟩:=a1s h3 h6 (by omega) (by omega)
 obtain⟨d8,c8,h8⟩:=b9l h7 (by omega)
 obtain⟨d9,c9,h9⟩:=a1s h8 h8 (by omega) (by omega)
 have c10:ReC d9 d7 false:=a8d h9 h7 (by omega) (by omega) (decide_eq_false hs0)
 obtain⟨d11,c11,h11⟩:=c0f 2 (z:=2) (by omega) rfl
 obtain⟨d12,c12,h12⟩:=d2k h11 (by omega)
 obtain⟨d13,c13,h13⟩:=a1s h8 h12 (by omega) (by omega)
 obtain⟨d14,c14,h14⟩:=a1s h13 h13 (by omega) (by omega)
 have c15:ReC d14 d7 false:=a8d h14 h7 (by omega) (by omega) (decide_eq_false hs1)
 intro w
 replace c1:=hjd c1
 replace c2:=hjd c2
 replace c3:=hjd c3
 replace c4:=hjd c4
 replace c5:=hjd c5
 replace c6:=hjd c6
 replace c7:=hjd c7
 replace c8:=hjd c8
 replace c9:=hjd c9
 replace c10:=hjd c10
 replace c11:=hjd c11
 replace c12:=hjd c12
 replace c13:=hjd c13
 replace c14:=hjd c14
 replace c15:=hjd c15
 clear hD hy hs0 hs1 h1 h2 h3 h4 h5 h6 h7 h8 h9 h11 h12 h13 h14
 go_enter Tryz.func109,Tryz.ntmps109
 have t:=hjd (Pm.none w)
 go_wp2_with (first
  | ((with_reducible refine a0m (o:=⟨some 2,_,_,_,_,_⟩) (v:=nu dc) rfl (.tmp 0) rfl rfl ?_);intro g2 w2 m2;have N2:=hjd (fun p hp=>m2.ne (t.out.s p hp).lt);have L2:=hjd (Nat.le_trans t.out.k.size m2.le);replace t:=hjd ((t.out.kept m2.kept).cons (show Blk w2 g2 29 (iv (fam 16 dc)).toArray from m2.blk));clear m2)
  | ((with_reducible refine a0m (o:=⟨some 3,_,_,_,_,_⟩) (v:=nu dy) rfl (.tmp 1) rfl rfl ?_);intro g3 w3 m3;have N3:=hjd (fun p hp=>m3.ne (t.out.s p hp).lt);have L3:=hjd (Nat.le_trans t.out.k.size m3.le);replace t:=hjd ((t.out.kept m3.kept).cons (show Blk w3 g3 27 (iv (fam 16 dy)).toArray from m3.blk));clear m3)
  | ((with_reducible refine a0f (o:=⟨some 4,_,_,_,_,_⟩) rfl rfl a2i ?_);intro g4 w4 m4;have N4:=hjd (fun p hp=>m4.ne (t.out.s p hp).lt);have L4:=hjd (Nat.le_trans t.out.k.size m4.le);replace t:=hjd ((t.out.kept m4.kept).cons (show Blk w4 g4 27 (iv (fam 16 zd)).toArray from m4.blk));clear m4)
  | (with_reducible refine a0a (o:=⟨some 11,_,_,_,_,_⟩) a1c.row rfl (.tmp 3) rfl rfl (t.out.s (g3,27,(iv (fam 16 dy)).toArray) (by simp)) rfl ?_)
  | (with_reducible refine a0a (o:=⟨some 12,_,_,_,_,_⟩) a1c.row rfl (.tmp 3) rfl rfl (t.out.s (g3,27,(iv (fam 16 dy)).toArray) (by simp)) rfl ?_)
  | (go_at_call 84;(with_reducible refine(c1.out _).mono ?_);rintro e v ⟨rfl,kk⟩;replace t:=hjd (t.out.kept kk);clear kk)
  | ((with_reducible refine a0f (o:=⟨some 6,_,_,_,_,_⟩) rfl rfl a2i ?_);intro g6 w6 m6;have N6:=hjd (fun p hp=>m6.ne (t.out.s p hp).lt);have L6:=hjd (Nat.le_trans t.out.k.size m6.le);replace t:=hjd ((t.out.kept m6.kept).cons (show Blk w6 g6 27 (iv (fam 16 zd)).toArray from m6.blk));clear m6)
  | ((refine a0b (o:=⟨none,.store 27 (.tmp 6) (.tmp 13),_,_,_,_⟩) a1c.row rfl (.tmp 6) (.tmp 13) rfl rfl rfl (t.out.s (g6,27,(iv (fam 16 zd)).toArray) (by simp)) rfl rfl (a1j _) ?_);intro v6 b6 k6;replace t:=hjd (t.out.again L6.out N6.out b6 k6);clear b6 k6))
 refine a1b (by kernel_rfl) [.val (nu d1),.val (nu d2),.val (nu d3),.new 27 (nu zd),.put 3 2 (iv (fam 16 d3)).toArray]
  (Pm w [(g6,27,(iv (fam 16 d1)).toArray),(g4,27,(iv (fam 16 zd)).toArray),(g3,27,(iv (fam 16 dy)).toArray),(g2,29,(iv (fam 16 dc)).toArray)]) (by kernel_rfl) (by kernel_rfl) t.out.drew (fun u u' T hS hk hT=>t.out.fresh u u' T hS hk hT) ?_ ?_
 ·refine⟨?_,?_,?_,⟨⟨_,rfl⟩,rfl,a2i⟩,?_,trivial⟩
  ·exact⟨⟨_,rfl⟩,fun a' u K0 R hS hr ho h=>a0g a1c.row (.tmp 6) rfl ((ho 6 (by decide)).trans rfl) (hS.s (g6,27,(iv (fam 16 d1)).toArray) (by simp)) rfl (h u (Kept.refl _ _))⟩
  ·refine⟨⟨_,rfl⟩,fun a' u K0 R hS hr ho h=>a0e rfl a2r (vs:=#[.int .u64 1]) ?_ (c2.out u) h⟩
   simp [Act.eval]
  ·refine⟨⟨_,rfl⟩,fun a' u K0 R hS hr ho h=>a0e rfl a3t (vs:=#[nu d1,nu d2]) ?_ (c3.out u) h⟩
   have x0:=hr 0 (nu d1) 14 _ rfl rfl rfl ⟨⟨0,.data⟩,by simp,rfl,rfl⟩
   have x1:=hr 1 (nu d2) 15 _ rfl rfl rfl ⟨⟨1,.data⟩,by simp,rfl,rfl⟩
   simp [Act.eval]at x0 x1 ⊢
   exact⟨x0,x1⟩
  ·exact⟨rfl,⟨⟨3,.data⟩,by simp,rfl,rfl⟩,⟨⟨2,.data⟩,by simp,rfl,rfl⟩,_,_,_,_,_,_,_,_,rfl,rfl,rfl,rfl,rfl,rfl,rfl,a1c.row,rfl,rfl,a1j _⟩
 intro γ wm hS hγ hne hput
 have b7:=hput 4 3 2 _ _ _ rfl rfl
 have hf7:=hγ 3 _ _ rfl
 generalize e7:γ 3=g7 at *
 simp [a0w,VK,List.range,List.range.loop,Act.put,e7]
 have N7:=hjd (fun p hp=>Nat.ne_of_lt (Nat.lt_of_lt_of_le (t.out.s p hp).lt hf7))
 have L7:=hjd (Nat.le_trans t.out.k.size hf7)
 replace t:=hjd (show Pm w [(g7,27,(iv (fam 16 d3)).toArray),(g6,27,(iv (fam 16 d1)).toArray),(g4,27,(iv (fam 16 zd)).toArray),(g3,27,(iv (fam 16 dy)).toArray),(g2,29,(iv (fam 16 dc)).toArray)] wm from(hS).cons b7)
 clear b7 hf7 hput hne hγ hS e7
 go_wp2_with (first
  | (with_reducible refine a0a (o:=⟨some 17,_,_,_,_,_⟩) a1c.row rfl (.tmp 6) rfl rfl (t.out.s (g6,27,(iv (fam 16 d1)).toArray) (by simp)) rfl ?_)
  | (with_reducible refine a1h (o:=⟨some 19,_,_,_,_,_⟩) a1c.row rfl (.tmp 18) rfl rfl (e7q (t.out.s (g2,29,(iv (fam 16 dc)).toArray) (by simp))) (b1p _) ?_)
  | (go_at_call 84;(with_reducible refine(c4.out _).mono ?_);rintro e v ⟨rfl,kk⟩;replace t:=hjd (t.out.kept kk);clear kk)
  | (go_at_call 86;(with_reducible refine(c2.out _).mono ?_);rintro e v ⟨rfl,kk⟩;replace t:=hjd (t.out.kept kk);clear kk)
  | (go_at_call 123;(with_reducible refine(c5.out _).mono ?_);rintro e v ⟨rfl,kk⟩;replace t:=hjd (t.out.kept kk);clear kk)
  | ((with_reducible refine a0f (o:=⟨some 8,_,_,_,_,_⟩) rfl rfl a2i ?_);intro g8 w8 m8;have N8:=hjd (fun p hp=>m8.ne (t.out.s p hp).lt);have L8:=hjd (Nat.le_trans t.out.k.size m8.le);replace t:=hjd ((t.out.kept m8.kept).cons (show Blk w8 g8 27 (iv (fam 16 zd)).toArray from m8.blk));clear m8)
  | ((refine a0b (o:=⟨none,.store 27 (.tmp 8) (.tmp 22),_,_,_,_⟩) a1c.row rfl (.tmp 8) (.tmp 22) rfl rfl rfl (t.out.s (g8,27,(iv (fam 16 zd)).toArray) (by simp)) rfl rfl (a1j _) ?_);intro v8 b8 k8;replace t:=hjd (t.out.again L8.out N8.out b8 k8);clear b8 k8))
 refine a1b (by kernel_rfl) [.val (nu d3),.val (nu d5),.val (nu d6),.val (nu d7),.new 27 (nu zd),.put 4 3 (iv (fam 16 d7)).toArray]
  (Pm w [(g8,27,(iv (fam 16 d5)).toArray),(g7,27,(iv (fam 16 d3)).toArray),(g6,27,(iv (fam 16 d1)).toArray),(g4,27,(iv (fam 16 zd)).toArray),(g3,27,(iv (fam 16 dy)).toArray),(g2,29,(iv (fam 16 dc)).toArray)]) (by kernel_rfl) (by kernel_rfl) t.out.drew (fun u u' T hS hk hT=>t.out.fresh u u' T hS hk hT) ?_ ?_
 ·refine⟨?_,?_,?_,?_,⟨⟨_,rfl⟩,rfl,a2i⟩,?_,trivial⟩
  ·exact⟨⟨_,rfl⟩,fun a' u K0 R hS hr ho h=>a0g a1c.row (.tmp 7) rfl ((ho 7 (by decide)).trans rfl) (hS.s (g7,27,(iv (fam 16 d3)).toArray) (by simp)) rfl (h u (Kept.refl _ _))⟩
  ·exact⟨⟨_,rfl⟩,fun a' u K0 R hS hr ho h=>a0g a1c.row (.tmp 8) rfl ((ho 8 (by decide)).trans rfl) (hS.s (g8,27,(iv (fam 16 d5)).toArray) (by simp)) rfl (h u (Kept.refl _ _))⟩
  ·refine⟨⟨_,rfl⟩,fun a' u K0 R hS hr ho h=>a0e rfl a5o (vs:=#[nu d5]) ?_ (c6.out u) h⟩
   have x0:=hr 1 (nu d5) 24 _ rfl rfl rfl ⟨⟨1,.data⟩,by simp,rfl,rfl⟩
   simp [Act.eval]at x0 ⊢
   exact x0
  ·refine⟨⟨_,rfl⟩,fun a' u K0 R hS hr ho h=>a0e rfl a0u (vs:=#[nu d3,nu d6]) ?_ (c7.out u) h⟩
   have x0:=hr 0 (nu d3) 23 _ rfl rfl rfl ⟨⟨0,.data⟩,by simp,rfl,rfl⟩
   have x1:=hr 2 (nu d6) 25 _ rfl rfl rfl ⟨⟨2,.data⟩,by simp,rfl,rfl⟩
   simp [Act.eval]at x0 x1 ⊢
   exact⟨x0,x1⟩
  ·exact⟨rfl,⟨⟨4,.data⟩,by simp,rfl,rfl⟩,⟨⟨3,.data⟩,by simp,rfl,rfl⟩,_,_,_,_,_,_,_,_,rfl,rfl,rfl,rfl,rfl,rfl,rfl,a1c.row,rfl,rfl,a1j _⟩
 intro γ wm hS hγ hne hput
 have b9:=hput 5 4 3 _ _ _ rfl rfl
 have hf9:=hγ 4 _ _ rfl
 generalize e9:γ 4=g9 at *
 simp [a0w,VK,List.range,List.range.loop,Act.put,e9]
 have N9:=hjd (fun p hp=>Nat.ne_of_lt (Nat.lt_of_lt_of_le (t.out.s p hp).lt hf9))
 have L9:=hjd (Nat.le_trans t.out.k.size hf9)
 replace t:=hjd (show Pm w [(g9,27,(iv (fam 16 d7)).toArray),(g8,27,(iv (fam 16 d5)).toArray),(g7,27,(iv (fam 16 d3)).toArray),(g6,27,(iv (fam 16 d1)).toArray),(g4,27,(iv (fam 16 zd)).toArray),(g3,27,(iv (fam 16 dy)).toArray),(g2,29,(iv (fam 16 dc)).toArray)] wm from(hS).cons b9)
 clear b9 hf9 hput hne hγ hS e9
 go_wp2_with (first
  | (with_reducible refine a0a (o:=⟨some 27,_,_,_,_,_⟩) a1c.row rfl (.tmp 9) rfl rfl (t.out.s (g9,27,(iv (fam 16 d7)).toArray) (by simp)) rfl ?_)
  | (go_at_call 151;(with_reducible refine(c8.out _).mono ?_);rintro e v ⟨rfl,kk⟩;replace t:=hjd (t.out.kept kk);clear kk)
  | ((with_reducible refine a0f (o:=⟨some 10,_,_,_,_,_⟩) rfl rfl a2i ?_);intro g10 w10 m10;have N10:=hjd (fun p hp=>m10.ne (t.out.s p hp).lt);have L10:=hjd (Nat.le_trans t.out.k.size m10.le);replace t:=hjd ((t.out.kept m10.kept).cons (show Blk w10 g10 27 (iv (fam 16 zd)).toArray from m10.blk));clear m10)
  | ((refine a0b (o:=⟨none,.store 27 (.tmp 10) (.tmp 28),_,_,_,_⟩) a1c.row rfl (.tmp 10) (.tmp 28) rfl rfl rfl (t.out.s (g10,27,(iv (fam 16 zd)).toArray) (by simp)) rfl rfl (a1j _) ?_);intro v10 b10 k10;replace t:=hjd (t.out.again L10.out N10.out b10 k10);clear b10 k10))
 refine a1b (by kernel_rfl) [.val (nu d8),.val (nu d8),.val (nu d9),.val (nu d7),.val (.bool false),.val (.bool true)]
  (Pm w [(g10,27,(iv (fam 16 d8)).toArray),(g9,27,(iv (fam 16 d7)).toArray),(g8,27,(iv (fam 16 d5)).toArray),(g7,27,(iv (fam 16 d3)).toArray),(g6,27,(iv (fam 16 d1)).toArray),(g4,27,(iv (fam 16 zd)).toArray),(g3,27,(iv (fam 16 dy)).toArray),(g2,29,(iv (fam 16 dc)).toArray)]) (by kernel_rfl) (by kernel_rfl) t.out.drew (fun u u' T hS hk hT=>t.out.fresh u u' T hS hk hT) ?_ ?_
 ·refine⟨?_,?_,?_,?_,?_,?_,trivial⟩
  ·exact⟨⟨_,rfl⟩,fun a' u K0 R hS hr ho h=>a0g a1c.row (.tmp 10) rfl ((ho 10 (by decide)).trans rfl) (hS.s (g10,27,(iv (fam 16 d8)).toArray) (by simp)) rfl (h u (Kept.refl _ _))⟩
  ·exact⟨⟨_,rfl⟩,fun a' u K0 R hS hr ho h=>a0g a1c.row (.tmp 10) rfl ((ho 10 (by decide)).trans rfl) (hS.s (g10,27,(iv (fam 16 d8)).toArray) (by simp)) rfl (h u (Kept.refl _ _))⟩
  ·refine⟨⟨_,rfl⟩,fun a' u K0 R hS hr ho h=>a0e rfl a0u (vs:=#[nu d8,nu d8]) ?_ (c9.out u) h⟩
   have x0:=hr 0 (nu d8) 29 _ rfl rfl rfl ⟨⟨0,.data⟩,by simp,rfl,rfl⟩
   have x1:=hr 1 (nu d8) 30 _ rfl rfl rfl ⟨⟨1,.data⟩,by simp,rfl,rfl⟩
   simp [Act.eval]at x0 x1 ⊢
   exact⟨x0,x1⟩
  ·exact⟨⟨_,rfl⟩,fun a' u K0 R hS hr ho h=>a0g a1c.row (.tmp 9) rfl ((ho 9 (by decide)).trans rfl) (hS.s (g9,27,(iv (fam 16 d7)).toArray) (by simp)) rfl (h u (Kept.refl _ _))⟩
  ·refine⟨⟨_,rfl⟩,fun a' u K0 R hS hr ho h=>a0e rfl a2q (vs:=#[nu d9,nu d7]) ?_ (c10.out u) h⟩
   have x0:=hr 2 (nu d9) 31 _ rfl rfl rfl ⟨⟨2,.data⟩,by simp,rfl,rfl⟩
   have x1:=hr 3 (nu d7) 32 _ rfl rfl rfl ⟨⟨3,.data⟩,by simp,rfl,rfl⟩
   simp [Act.eval]at x0 x1 ⊢
   exact⟨x0,x1⟩
  ·exact⟨⟨_,rfl⟩,fun a' u K0 R0 hS hr ho h=>a9i (.tmp 33) rfl (hr 4 (.bool false) 33 _ rfl rfl rfl ⟨⟨4,.data⟩,by simp,rfl,rfl⟩) (h u (Kept.refl _ _))⟩
 intro γ wm hS hγ hne hput
 simp [a0w,VK,List.range,List.range.loop,Act.put]
 replace t:=hjd (show Pm w [(g10,27,(iv (fam 16 d8)).toArray),(g9,27,(iv (fam 16 d7)).toArray),(g8,27,(iv (fam 16 d5)).toArray),(g7,27,(iv (fam 16 d3)).toArray),(g6,27,(iv (fam 16 d1)).toArray),(g4,27,(iv (fam 16 zd)).toArray),(g3,27,(iv (fam 16 dy)).toArray),(g2,29,(iv (fam 16 dc)).toArray)] wm from hS)
 clear hput hne hγ hS
 go_wp2_with fail
 refine a3o (by kernel_rfl) [nu d8,nu d11,nu d12,nu d13]
  (Pm w [(g10,27,(iv (fam 16 d8)).toArray),(g9,27,(iv (fam 16 d7)).toArray),(g8,27,(iv (fam 16 d5)).toArray),(g7,27,(iv (fam 16 d3)).toArray),(g6,27,(iv (fam 16 d1)).toArray),(g4,27,(iv (fam 16 zd)).toArray),(g3,27,(iv (fam 16 dy)).toArray),(g2,29,(iv (fam 16 dc)).toArray)]) (by kernel_rfl) rfl rfl (by kernel_rfl) t.out.drew (fun u u' h hk=>h.kept hk) ?_ ?_
 ·refine⟨?_,?_,?_,?_,trivial⟩
  ·exact fun a' u K0 R hS hr ho h=>a0g a1c.row (.tmp 10) rfl ((ho 10 (by decide)).trans rfl) (hS.s (g10,27,(iv (fam 16 d8)).toArray) (by simp)) rfl (h u (Kept.refl _ _))
  ·refine fun a' u K0 R hS hr ho h=>a0e rfl a2r (vs:=#[.int .u64 2]) ?_ (c11.out u) h
   simp [Act.eval]
  ·refine fun a' u K0 R hS hr ho h=>a0e rfl a9p (vs:=#[nu d11,.int .i64 253,.int .u64 5]) ?_ (c12.out u) h
   have x0:=hr 1 (nu d11) 36 _ rfl rfl rfl ⟨⟨1,.data⟩,by simp,rfl,rfl⟩
   simp [Act.eval]at x0 ⊢
   exact x0
  ·refine fun a' u K0 R hS hr ho h=>a0e rfl a0u (vs:=#[nu d8,nu d12]) ?_ (c13.out u) h
   have x0:=hr 0 (nu d8) 35 _ rfl rfl rfl ⟨⟨0,.data⟩,by simp,rfl,rfl⟩
   have x1:=hr 2 (nu d12) 37 _ rfl rfl rfl ⟨⟨2,.data⟩,by simp,rfl,rfl⟩
   simp [Act.eval]at x0 x1 ⊢
   exact⟨x0,x1⟩
 intro ul hSl
 simp [a0w,List.range,List.range.loop,Act.put]
 refine a2p a1c.row (.tmp 10) (.tmp 38) rfl rfl rfl (hSl.s (g10,27,(iv (fam 16 d8)).toArray) (by simp)) rfl rfl (a1j _) ?_
 simp [Act.put]
 have bl:=(hSl.s (g10,27,(iv (fam 16 d8)).toArray) (by simp)).a3b (iv (fam 16 d13)).toArray
 have kl:Kept [g10] ul (ul.setRow g10 (iv (fam 16 d13)).toArray):=(Kept.refl [g10] ul).setRow (.inl (by simp)) _
 replace t:=hjd (hSl.again L10.out N10.out bl kl)
 clear bl kl hSl
 go_wp2_with fail
 refine a1b (by kernel_rfl) [.val (nu d13),.val (nu d13),.val (nu d14),.val (nu d7),.val (.bool false),.val (.bool true)]
  (Pm w [(g10,27,(iv (fam 16 d13)).toArray),(g9,27,(iv (fam 16 d7)).toArray),(g8,27,(iv (fam 16 d5)).toArray),(g7,27,(iv (fam 16 d3)).toArray),(g6,27,(iv (fam 16 d1)).toArray),(g4,27,(iv (fam 16 zd)).toArray),(g3,27,(iv (fam 16 dy)).toArray),(g2,29,(iv (fam 16 dc)).toArray)]) (by kernel_rfl) (by kernel_rfl) t.out.drew (fun u u' T hS hk hT=>t.out.fresh u u' T hS hk hT) ?_ ?_
 ·refine⟨?_,?_,?_,?_,?_,?_,trivial⟩
  ·exact⟨⟨_,rfl⟩,fun a' u K0 R hS hr ho h=>a0g a1c.row (.tmp 10) rfl ((ho 10 (by decide)).trans rfl) (hS.s (g10,27,(iv (fam 16 d13)).toArray) (by simp)) rfl (h u (Kept.refl _ _))⟩
  ·exact⟨⟨_,rfl⟩,fun a' u K0 R hS hr ho h=>a0g a1c.row (.tmp 10) rfl ((ho 10 (by decide)).trans rfl) (hS.s (g10,27,(iv (fam 16 d13)).toArray) (by simp)) rfl (h u (Kept.refl _ _))⟩
  ·refine⟨⟨_,rfl⟩,fun a' u K0 R hS hr ho h=>a0e rfl a0u (vs:=#[nu d13,nu d13]) ?_ (c14.out u) h⟩
   have x0:=hr 0 (nu d13) 39 _ rfl rfl rfl ⟨⟨0,.data⟩,by simp,rfl,rfl⟩
   have x1:=hr 1 (nu d13) 40 _ rfl rfl rfl ⟨⟨1,.data⟩,by simp,rfl,rfl⟩
   simp [Act.eval]at x0 x1 ⊢
   exact⟨x0,x1⟩
  ·exact⟨⟨_,rfl⟩,fun a' u K0 R hS hr ho h=>a0g a1c.row (.tmp 9) rfl ((ho 9 (by decide)).trans rfl) (hS.s (g9,27,(iv (fam 16 d7)).toArray) (by simp)) rfl (h u (Kept.refl _ _))⟩
  ·refine⟨⟨_,rfl⟩,fun a' u K0 R hS hr ho h=>a0e rfl a2q (vs:=#[nu d14,nu d7]) ?_ (c15.out u) h⟩
   have x0:=hr 2 (nu d14) 41 _ rfl rfl rfl ⟨⟨2,.data⟩,by simp,rfl,rfl⟩
   have x1:=hr 3 (nu d7) 42 _ rfl rfl rfl ⟨⟨3,.data⟩,by simp,rfl,rfl⟩
   simp [Act.eval]at x0 x1 ⊢
   exact⟨x0,x1⟩
  ·exact⟨⟨_,rfl⟩,fun a' u K0 R0 hS hr ho h=>a9i (.tmp 43) rfl (hr 4 (.bool false) 43 _ rfl rfl rfl ⟨⟨4,.data⟩,by simp,rfl,rfl⟩) (h u (Kept.refl _ _))⟩
 intro γ wm hS hγ hne hput
 simp [a0w,VK,List.range,List.range.loop,Act.put]
 replace t:=hjd (show Pm w [(g10,27,(iv (fam 16 d13)).toArray),(g9,27,(iv (fam 16 d7)).toArray),(g8,27,(iv (fam 16 d5)).toArray),(g7,27,(iv (fam 16 d3)).toArray),(g6,27,(iv (fam 16 d1)).toArray),(g4,27,(iv (fam 16 zd)).toArray),(g3,27,(iv (fam 16 dy)).toArray),(g2,29,(iv (fam 16 dc)).toArray)] wm from hS)
 clear hput hne hγ hS
 go_wp2_with (first
  | (refine a1n (o:=⟨some 45,_,_,_,_,_⟩) rfl rfl d5j ?_)
  | ((refine a0b (o:=⟨none,.store 27 (.tmp 4) (.tmp 45),_,_,_,_⟩) a1c.row rfl (.tmp 4) (.tmp 45) rfl rfl rfl (t.out.s (g4,27,(iv (fam 16 zd)).toArray) (by simp)) rfl rfl (a1j _) ?_);intro v4 b4 k4;have bR:=hjd b4;have kR:=hjd k4;clear b4 k4))
 exact a1z a1c.row rfl rfl bR.out rfl rfl ⟨rfl,t.out.k.a0n kR.out L4.out⟩
end Go.Proofs.YtdbngnlpafcogaaGreat
