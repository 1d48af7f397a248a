/-
  The curve: limbs stand for points.
  The curve: what points' bytes say; which bytes are points.
  The curve: sums, negatives, multiples stand for what they should.
  The curve: the base point, its order; the ladder.
  The curve: the ladder's points; multiples of any point.
  The curve's laws: what the program's functions answer, by the points that they are given.
  The curve's laws: contracts over lists of bytes.
-/
import Derived.Test.YtdbngnlpafcogaaGreatZcEd4
set_option maxRecDepth 100000
namespace Go.Proofs.YtdbngnlpafcogaaGreat
open Go.RowKit Go.Mem Go.Txt
theorem PP_p:PP=Ed.p:=rfl
def fq(F:Nat→Nat):Ed.Fq:=Ed.mk (fv F)
theorem a5g{F:Nat→Nat}(h:Lim F):Rep F (fv F):=⟨h,rfl⟩
theorem c1n{F:Nat→Nat}{x:Nat}(h:Rep F x):fq F=Ed.mk x:=Ed.mk_eq.2 h.val
theorem fq_v(F:Nat→Nat):(fq F).v=fv F % PP:=rfl
theorem a5z{F G:Nat→Nat}(h:Lim F)(h2:Lim G):fq (mlF F G)=fq F * fq G:=(c1n ((a5g h).m (a5g h2))).trans (Ed.a2s _ _).symm
theorem b4j{F G:Nat→Nat}(h:Lim F)(h2:Lim G):fq (adF F G)=fq F + fq G:=(c1n ((a5g h).ad (a5g h2))).trans (Ed.a3d _ _).symm
theorem b4l{F G:Nat→Nat}(h:Lim F)(h2:Lim G):fq (suF F G)=fq F - fq G:=by
 have e:fq (suF F G) + fq G=fq F:=by
  rw [c1n ((a5g h).su (a5g h2))];exact(Ed.a3d _ _).trans (Ed.mk_eq.2 (e2z _ _))
 grind
theorem fq_sm(v:Nat):fq (smL v)=Ed.mk v:=by unfold fq;rw [c1u]
theorem e1b:fq (smL 0)=0:=fq_sm 0
theorem c3v:fq (smL 1)=1:=fq_sm 1
theorem fq_inv{F:Nat→Nat}(h:Lim F)(h0:fq F≠0):fq F * fq (c0y F)=1:=by
 rw [c1n ((a5g h).inv)];refine(Ed.a2s _ _).trans (Ed.mk_eq.2 ?_);have hn:fv F % PP≠0:=fun e=>h0 (Ed.mk_eq.2 (e.trans (Nat.zero_mod _).symm))
 exact(inv_mul hn).trans (show 1=1 % PP by decide +kernel)
theorem b6i(bs:List UInt8)(h:e1r bs=true):fq (b2w bs)=Ed.mk (leV bs):=by unfold fq;rw [e6r bs h]
theorem fq_kD:fq kD=Ed.D:=by
 unfold kD Ed.D;rw [b6i _ (by decide +kernel)];exact Ed.mk_eq.2 (by decide +kernel)
theorem fq_kK:fq kK=Ed.D + Ed.D:=by
 unfold kK Ed.D;rw [b6i _ (by decide +kernel)];exact(Ed.mk_eq.2 (by decide +kernel)).trans (Ed.a3d _ _).symm
structure Rp (p:P4) (P:Ed.Pt):Prop where
 ok:p.Ok
 z:fq p.z≠0
 x:P.x * fq p.z=fq p.x
 y:P.y * fq p.z=fq p.y
 t:P.x * P.y * fq p.z=fq p.t
theorem b6p:(1:Ed.Fq)≠0:=Ed.b8d
theorem Rp.af{X Y:Nat→Nat}{P:Ed.Pt}(hX:Lim X)(hY:Lim Y)(h1:P.x=fq X)(h2:P.y=fq Y):Rp (afQ X Y) P where
 ok:=c8x hX hY
 z:=by show fq (smL 1)≠0;rw [c3v];exact b6p
 x:=by show P.x * fq (smL 1)=fq X;rw [c3v,h1];grind
 y:=by show P.y * fq (smL 1)=fq Y;rw [c3v,h2];grind
 t:=by show P.x * P.y * fq (smL 1)=fq (mlF X Y);rw [c3v,a5z hX hY,h1,h2];grind
theorem Rp.some{p:P4}{P:Ed.Pt}(h:Rp p P):p.none=false:=by
 unfold P4.none P4.same;refine decide_eq_false fun e=>h.z ?_
 have hl:=(d1p p pz).2 e;have e5:∀i,i < 5→p.z i=pz.z i:=fun i hi=>(c2w hl i hi).2.2.1
 unfold fq fv;rw [e5 0 (by omega),e5 1 (by omega),e5 2 (by omega),e5 3 (by omega),e5 4 (by omega)];rfl
theorem Rp.rt{p:P4}{P:Ed.Pt}(h:Rp p P):rtQ p=p:=by
 unfold rtQ;rw [h.some];rfl
theorem c7z:Ed.Pt.zero.x=0:=by unfold Ed.Pt.zero;rfl
theorem c6l:Ed.Pt.zero.y=1:=by unfold Ed.Pt.zero;rfl
theorem d5l:Rp (rtQ pz) Ed.Pt.zero:=by
 have e:pz.none=true:=by unfold P4.none P4.same;exact decide_eq_true rfl
 unfold rtQ;rw [e,if_pos rfl];exact Rp.af (a2j 0 (by omega)) (a2j 1 (by omega)) (by rw [e1b,c7z]) (by rw [c3v,c6l])
theorem sum_x(P Q:Ed.Pt):(P + Q).x=Ed.sx Ed.D P.x P.y Q.x Q.y:=by show(Ed.Pt.add P Q).x=_;unfold Ed.Pt.add;rfl
theorem sum_y(P Q:Ed.Pt):(P + Q).y=Ed.sy Ed.D P.x P.y Q.x Q.y:=by show(Ed.Pt.add P Q).y=_;unfold Ed.Pt.add;rfl
theorem c7s(P Q:Ed.Pt):(P + Q).x * (1 + Ed.D * P.x * Q.x * P.y * Q.y)=P.x * Q.y + Q.x * P.y:=by
 rw [sum_x];unfold Ed.sx;exact Ed.div_mul (Ed.c5f.plus P.on Q.on)
theorem c8s(P Q:Ed.Pt):(P + Q).y * (1 - Ed.D * P.x * Q.x * P.y * Q.y)=P.y * Q.y + P.x * Q.x:=by
 rw [sum_y];unfold Ed.sy;exact Ed.div_mul (Ed.c5f.minus P.on Q.on)
theorem d6l:(2:Ed.Fq)≠0:=Ed.e2y
section
variable {D x1 y1 x2 y2 u v X Y:Ed.Fq}
theorem pl_z:(u * v + u * v - x1 * y1 * u * (D + D) * (x2 * y2 * v)) * (u * v + u * v + x1 * y1 * u * (D + D) * (x2 * y2 * v))=2 * 2 * (u * u) * (v * v) * ((1 - D * x1 * x2 * y1 * y2) * (1 + D * x1 * x2 * y1 * y2)):=by grind
theorem pl_x(hx:X * (1 + D * x1 * x2 * y1 * y2)=x1 * y2 + x2 * y1):X * (2 * 2 * (u * u) * (v * v) * ((1 - D * x1 * x2 * y1 * y2) * (1 + D * x1 * x2 * y1 * y2)))=((y1 * u + x1 * u) * (y2 * v + x2 * v) - (y1 * u - x1 * u) * (y2 * v - x2 * v)) * (u * v + u * v - x1 * y1 * u * (D + D) * (x2 * y2 * v)):=by
 have e:X * (2 * 2 * (u * u) * (v * v) * ((1 - D * x1 * x2 * y1 * y2) * (1 + D * x1 * x2 * y1 * y2)))=X * (1 + D * x1 * x2 * y1 * y2) * (2 * 2 * (u * u) * (v * v) * (1 - D * x1 * x2 * y1 * y2)):=by clear hx;grind
 rw [e,hx];clear e hx
 grind
theorem pl_y(hy:Y * (1 - D * x1 * x2 * y1 * y2)=y1 * y2 + x1 * x2):Y * (2 * 2 * (u * u) * (v * v) * ((1 - D * x1 * x2 * y1 * y2) * (1 + D * x1 * x2 * y1 * y2)))=(u * v + u * v + x1 * y1 * u * (D + D) * (x2 * y2 * v)) * ((y1 * u + x1 * u) * (y2 * v + x2 * v) + (y1 * u - x1 * u) * (y2 * v - x2 * v)):=by
 have e:Y * (2 * 2 * (u * u) * (v * v) * ((1 - D * x1 * x2 * y1 * y2) * (1 + D * x1 * x2 * y1 * y2)))=Y * (1 - D * x1 * x2 * y1 * y2) * (2 * 2 * (u * u) * (v * v) * (1 + D * x1 * x2 * y1 * y2)):=by clear hy;grind
 rw [e,hy];clear e hy
 grind
theorem pl_t(hx:X * (1 + D * x1 * x2 * y1 * y2)=x1 * y2 + x2 * y1)(hy:Y * (1 - D * x1 * x2 * y1 * y2)=y1 * y2 + x1 * x2):X * Y * (2 * 2 * (u * u) * (v * v) * ((1 - D * x1 * x2 * y1 * y2) * (1 + D * x1 * x2 * y1 * y2)))=((y1 * u + x1 * u) * (y2 * v + x2 * v) - (y1 * u - x1 * u) * (y2 * v - x2 * v)) * ((y1 * u + x1 * u) * (y2 * v + x2 * v) + (y1 * u - x1 * u) * (y2 * v - x2 * v)):=by
 have e:X * Y * (2 * 2 * (u * u) * (v * v) * ((1 - D * x1 * x2 * y1 * y2) * (1 + D * x1 * x2 * y1 * y2)))=X * (1 + D * x1 * x2 * y1 * y2) * (Y * (1 - D * x1 * x2 * y1 * y2)) * (2 * 2 * (u * u) * (v * v)):=by clear hx hy;grind
 rw [e,hx,hy];clear e hx hy
 grind
theorem db_z(hon:y1 * y1 - x1 * x1=1 + D * x1 * x1 * y1 * y1):(u * u + u * u + (x1 * u * (x1 * u) - y1 * u * (y1 * u))) * (x1 * u * (x1 * u) - y1 * u * (y1 * u))= -1 * (u * u) * (u * u) * ((1 - D * x1 * x1 * y1 * y1) * (1 + D * x1 * x1 * y1 * y1)):=by
 have e:D * x1 * x1 * y1 * y1=y1 * y1 - x1 * x1 - 1:=by grind
 rw [e];clear e hon
 grind
theorem db_x(hon:y1 * y1 - x1 * x1=1 + D * x1 * x1 * y1 * y1)(hx:X * (1 + D * x1 * x1 * y1 * y1)=x1 * y1 + x1 * y1):X * (-1 * (u * u) * (u * u) * ((1 - D * x1 * x1 * y1 * y1) * (1 + D * x1 * x1 * y1 * y1)))=(x1 * u * (x1 * u) + y1 * u * (y1 * u) - (x1 * u + y1 * u) * (x1 * u + y1 * u)) * (u * u + u * u + (x1 * u * (x1 * u) - y1 * u * (y1 * u))):=by
 have e:D * x1 * x1 * y1 * y1=y1 * y1 - x1 * x1 - 1:=by clear hx;grind
 have e2:X * (-1 * (u * u) * (u * u) * ((1 - D * x1 * x1 * y1 * y1) * (1 + D * x1 * x1 * y1 * y1)))=X * (1 + D * x1 * x1 * y1 * y1) * (-1 * (u * u) * (u * u) * (1 - D * x1 * x1 * y1 * y1)):=by clear hx e hon;grind
 rw [e2,hx,e];clear e e2 hx hon
 grind
theorem db_y(hon:y1 * y1 - x1 * x1=1 + D * x1 * x1 * y1 * y1)(hy:Y * (1 - D * x1 * x1 * y1 * y1)=y1 * y1 + x1 * x1):Y * (-1 * (u * u) * (u * u) * ((1 - D * x1 * x1 * y1 * y1) * (1 + D * x1 * x1 * y1 * y1)))=(x1 * u * (x1 * u) - y1 * u * (y1 * u)) * (x1 * u * (x1 * u) + y1 * u * (y1 * u)):=by
 have e:D * x1 * x1 * y1 * y1=y1 * y1 - x1 * x1 - 1:=by clear hy;grind
 have e2:Y * (-1 * (u * u) * (u * u) * ((1 - D * x1 * x1 * y1 * y1) * (1 + D * x1 * x1 * y1 * y1)))=Y * (1 - D * x1 * x1 * y1 * y1) * (-1 * (u * u) * (u * u) * (1 + D * x1 * x1 * y1 * y1)):=by clear hy e hon;grind
 rw [e2,hy,e];clear e e2 hy hon
 grind
theorem db_t(hx:X * (1 + D * x1 * x1 * y1 * y1)=x1 * y1 + x1 * y1)(hy:Y * (1 - D * x1 * x1 * y1 * y1)=y1 * y1 + x1 * x1):X * Y * (-1 * (u * u) * (u * u) * ((1 - D * x1 * x1 * y1 * y1) * (1 + D * x1 * x1 * y1 * y1)))=(x1 * u * (x1 * u) + y1 * u * (y1 * u) - (x1 * u + y1 * u) * (x1 * u + y1 * u)) * (x1 * u * (x1 * u) + y1 * u * (y1 * u)):=by
 have e:X * Y * (-1 * (u * u) * (u * u) * ((1 - D * x1 * x1 * y1 * y1) * (1 + D * x1 * x1 * y1 * y1)))=X * (1 + D * x1 * x1 * y1 * y1) * (Y * (1 - D * x1 * x1 * y1 * y1)) * (-1 * (u * u) * (u * u)):=by clear hx hy;grind
 rw [e,hx,hy];clear e hx hy
 grind
end
theorem Rp.pl{p q:P4}{P Q:Ed.Pt}(hp:Rp p P)(hq:Rp q Q):Rp (plQ p q kK) (P + Q):=by
 have hx:=c7s P Q;have hy:=c8s P Q;have n1:=Ed.c5f.plus P.on Q.on;have n2:=Ed.c5f.minus P.on Q.on;have o1:=hp.ok;have o2:=hq.ok;have a:=a0i (a1h o1.y o1.x) (a1h o2.y o2.x);have b:=a0i (a0v o1.y o1.x) (a0v o2.y o2.x);have c0:=a0i o1.t a4y;have c:=a0i c0 o2.t;have d0:=a0i o1.z o2.z;have d:=a0v d0 d0;have ea:fq (mlF (suF p.y p.x) (suF q.y q.x))=(fq p.y - fq p.x) * (fq q.y - fq q.x):=by rw [a5z (a1h o1.y o1.x) (a1h o2.y o2.x),b4l o1.y o1.x,b4l o2.y o2.x]
 have eb:fq (mlF (adF p.y p.x) (adF q.y q.x))=(fq p.y + fq p.x) * (fq q.y + fq q.x):=by rw [a5z (a0v o1.y o1.x) (a0v o2.y o2.x),b4j o1.y o1.x,b4j o2.y o2.x]
 have ec:fq (mlF (mlF p.t kK) q.t)=fq p.t * (Ed.D + Ed.D) * fq q.t:=by rw [a5z c0 o2.t,a5z o1.t a4y,fq_kK]
 have ed:fq (adF (mlF p.z q.z) (mlF p.z q.z))=fq p.z * fq q.z + fq p.z * fq q.z:=by rw [b4j d0 d0,a5z o1.z o2.z]
 have ok:=b4f o1 o2 a4y;have ex:fq (plQ p q kK).x=((fq p.y + fq p.x) * (fq q.y + fq q.x) - (fq p.y - fq p.x) * (fq q.y - fq q.x)) * (fq p.z * fq q.z + fq p.z * fq q.z - fq p.t * (Ed.D + Ed.D) * fq q.t):=by
  rw [←ea,←eb,←ec,←ed,←b4l b a,←b4l d c,←a5z (a1h b a) (a1h d c)];rfl
 have ey:fq (plQ p q kK).y=(fq p.z * fq q.z + fq p.z * fq q.z + fq p.t * (Ed.D + Ed.D) * fq q.t) * ((fq p.y + fq p.x) * (fq q.y + fq q.x) + (fq p.y - fq p.x) * (fq q.y - fq q.x)):=by
  rw [←ea,←eb,←ec,←ed,←b4j b a,←b4j d c,←a5z (a0v d c) (a0v b a)];rfl
 have ez:fq (plQ p q kK).z=(fq p.z * fq q.z + fq p.z * fq q.z - fq p.t * (Ed.D + Ed.D) * fq q.t) * (fq p.z * fq q.z + fq p.z * fq q.z + fq p.t * (Ed.D + Ed.D) * fq q.t):=by
  rw [←ec,←ed,←b4l d c,←b4j d c,←a5z (a1h d c) (a0v d c)];rfl
 have et:fq (plQ p q kK).t=((fq p.y + fq p.x) * (fq q.y + fq q.x) - (fq p.y - fq p.x) * (fq q.y - fq q.x)) * ((fq p.y + fq p.x) * (fq q.y + fq q.x) + (fq p.y - fq p.x) * (fq q.y - fq q.x)):=by
  rw [←ea,←eb,←b4l b a,←b4j b a,←a5z (a1h b a) (a0v b a)];rfl
 rw [←hp.x,←hp.y,←hq.x,←hq.y,←hp.t,←hq.t]at ex;rw [←hp.x,←hp.y,←hq.x,←hq.y,←hp.t,←hq.t]at ey;rw [←hp.t,←hq.t]at ez;rw [←hp.x,←hp.y,←hq.x,←hq.y]at et;have z1:=hp.z;have z2:=hq.z;clear ea eb ec ed a b c d c0 d0 o1 o2 hp hq;generalize Ed.D=D at *;generalize P.x=x1 at *;generalize P.y=y1 at *;generalize Q.x=x2 at *;generalize Q.y=y2 at *;generalize fq p.z=u at *;generalize fq q.z=v at *;have hz:fq (plQ p q kK).z=2 * 2 * (u * u) * (v * v) * ((1 - D * x1 * x2 * y1 * y2) * (1 + D * x1 * x2 * y1 * y2)):=by rw [ez];exact pl_z
 exact⟨ok,by
  rw [hz];exact Ed.a3b (Ed.a3b (Ed.a3b (Ed.a3b d6l d6l) (Ed.a3b z1 z1)) (Ed.a3b z2 z2)) (Ed.a3b n2 n1),
  by rw [hz,ex];exact pl_x hx,by rw [hz,ey];exact pl_y hy,by rw [hz,et];exact pl_t hx hy⟩
theorem Rp.db{p:P4}{P:Ed.Pt}(hp:Rp p P):Rp (dbQ p) (P + P):=by
 have hx:=c7s P P;have hy:=c8s P P;have n1:=Ed.c5f.plus P.on P.on;have n2:=Ed.c5f.minus P.on P.on;have hon:=P.on;have o:=hp.ok;have a:=a0i o.x o.x;have b:=a0i o.y o.y;have c:=a0i o.z o.z;have h:=a0v a b;have s:=a0v o.x o.y;have s2:=a0i s s;have e:=a1h h s2;have g:=a1h a b;have c2:=a0v c c;have f:=a0v c2 g;have eh:fq (adF (mlF p.x p.x) (mlF p.y p.y))=fq p.x * fq p.x + fq p.y * fq p.y:=by rw [b4j a b,a5z o.x o.x,a5z o.y o.y]
 have es:fq (mlF (adF p.x p.y) (adF p.x p.y))=(fq p.x + fq p.y) * (fq p.x + fq p.y):=by rw [a5z s s,b4j o.x o.y]
 have ee:fq (suF (adF (mlF p.x p.x) (mlF p.y p.y)) (mlF (adF p.x p.y) (adF p.x p.y)))=fq p.x * fq p.x + fq p.y * fq p.y - (fq p.x + fq p.y) * (fq p.x + fq p.y):=by rw [b4l h s2,eh,es]
 have eg:fq (suF (mlF p.x p.x) (mlF p.y p.y))=fq p.x * fq p.x - fq p.y * fq p.y:=by rw [b4l a b,a5z o.x o.x,a5z o.y o.y]
 have ef:fq (adF (adF (mlF p.z p.z) (mlF p.z p.z)) (suF (mlF p.x p.x) (mlF p.y p.y)))=fq p.z * fq p.z + fq p.z * fq p.z + (fq p.x * fq p.x - fq p.y * fq p.y):=by rw [b4j c2 g,b4j c c,a5z o.z o.z,eg]
 have ok:=c7t o;have ex:fq (dbQ p).x=(fq p.x * fq p.x + fq p.y * fq p.y - (fq p.x + fq p.y) * (fq p.x + fq p.y)) * (fq p.z * fq p.z + fq p.z * fq p.z + (fq p.x * fq p.x - fq p.y * fq p.y)):=by
  rw [←ee,←ef,←a5z e f];rfl
 have ey:fq (dbQ p).y=(fq p.x * fq p.x - fq p.y * fq p.y) * (fq p.x * fq p.x + fq p.y * fq p.y):=by
  rw [←eg,←eh,←a5z g h];rfl
 have ez:fq (dbQ p).z=(fq p.z * fq p.z + fq p.z * fq p.z + (fq p.x * fq p.x - fq p.y * fq p.y)) * (fq p.x * fq p.x - fq p.y * fq p.y):=by
  rw [←ef,←eg,←a5z f g];rfl
 have et:fq (dbQ p).t=(fq p.x * fq p.x + fq p.y * fq p.y - (fq p.x + fq p.y) * (fq p.x + fq p.y)) * (fq p.x * fq p.x + fq p.y * fq p.y):=by
  rw [←ee,←eh,←a5z e h];rfl
 rw [←hp.x,←hp.y]at ex ey ez et;have z1:=hp.z;unfold Ed.onC at hon;clear ee ef eg eh es a b c h s s2 e g c2 f o hp;generalize Ed.D=D at *;generalize P.x=x1 at *;generalize P.y=y1 at *;generalize fq p.z=u at *;have hz:fq (dbQ p).z= -1 * (u * u) * (u * u) * ((1 - D * x1 * x1 * y1 * y1) * (1 + D * x1 * x1 * y1 * y1)):=by rw [ez];exact db_z hon
 have hm1:(-1:Ed.Fq)≠0:=fun e=>b6p (by grind)
 exact⟨ok,by
  rw [hz];exact Ed.a3b (Ed.a3b (Ed.a3b hm1 (Ed.a3b z1 z1)) (Ed.a3b z1 z1)) (Ed.a3b n2 n1),
  by rw [hz,ex];exact db_x hon hx,by rw [hz,ey];exact db_y hon hy,by rw [hz,et];exact db_t hx hy⟩
end Go.Proofs.YtdbngnlpafcogaaGreat
namespace Go.Proofs.YtdbngnlpafcogaaGreat
open Go.RowKit Go.Mem Go.Txt
def enc(P:Ed.Pt):Nat:=P.y.v + (if P.x.v % 2=1 then a4k else 0)
def b4o:Nat:=115792089237316195423570985008687907853269984665640564039457584007913129639936
theorem e4l(a:Ed.Fq):a.v < PP:=a.lt
theorem c1k(P:Ed.Pt):enc P < b4o:=by
 have:=e4l P.y;unfold enc b4o a4k PP at *;split <;> omega
theorem e4x{r:P4}{P:Ed.Pt}(h:Rp r P):encR r=enc P:=by
 have hi:=fq_inv h.ok.z h.z;have li:=b4p h.ok.z;have hy:fq (mlF r.y (c0y r.z))=P.y:=by
  rw [a5z h.ok.y li,←h.y];generalize fq (c0y r.z)=i at *;generalize fq r.z=z at *;clear h
  grind
 have hx:fq (mlF r.x (c0y r.z))=P.x:=by
  rw [a5z h.ok.x li,←h.x];generalize fq (c0y r.z)=i at *;generalize fq r.z=z at *;clear h
  grind
 unfold encR enc;rw [←fq_v,←fq_v,hx,hy]
theorem neg_v(a:Ed.Fq):(-a).v=if a.v=0 then 0 else PP - a.v:=by
 have h:=e4l a;show(PP - a.v) % PP=_;split
 ·rename_i h0;rw [h0,Nat.sub_zero,Nat.mod_self]
 ·exact Nat.mod_eq_of_lt (by omega)
theorem on_x(P:Ed.Pt):P.x * P.x * (Ed.D * P.y * P.y + 1)=P.y * P.y - 1:=by
 have h:=P.on;unfold Ed.onC at h;generalize Ed.D=D at *;generalize P.x=x at *;generalize P.y=y at *
 grind
theorem v_ne(y:Ed.Fq):Ed.D * y * y + 1≠0:=fun h=>by
 have hy:y≠0:=fun e=>b6p (by rw [e]at h;grind)
 have hi:=Ed.a8n y hy;have hI:=Ed.e1u;refine Ed.non_D (Ed.mk Ed.In * Ed.inv y) ?_;generalize Ed.mk Ed.In=I at *;generalize Ed.inv y=i at *;generalize Ed.D=D at *;have e1:D * y * y= -1:=by clear hi hI hy;grind
 have e2:I * i * (I * i)=I * I * (i * i):=by clear h hi hI hy e1;grind
 have e3:D=D * y * y * (i * i):=by
  have:D * y * y * (i * i)=D * (y * i) * (y * i):=by clear h hi hI hy e1 e2;grind
  rw [this,hi];clear this h hi hI hy e1 e2
  grind
 rw [e2,hI,e3,e1]
theorem a7t{a b:Ed.Fq}(h:a - b=0):a=b:=by grind
theorem b3b{a b:Ed.Fq}(h:a + b=0):a= -b:=by grind
theorem sq_two{a b:Ed.Fq}(h:a * a=b * b):a=b∨a= -b:=by
 have e:(a - b) * (a + b)=0:=by grind
 exact(Ed.a3t e).imp a7t b3b
theorem x_of{P Q:Ed.Pt}(hy:P.y=Q.y):P.x=Q.x∨P.x= -Q.x:=by
 have h1:=on_x P;have h2:=on_x Q;have hv:=v_ne Q.y;rw [hy]at h1;apply sq_two;rw [←h2]at h1;have e:(P.x * P.x - Q.x * Q.x) * (Ed.D * Q.y * Q.y + 1)=0:=by
  generalize P.x * P.x=a at *;generalize Q.x * Q.x=b at *;generalize Ed.D * Q.y * Q.y + 1=c at *;clear h2 hv hy
  grind
 exact(Ed.a3t e).elim a7t fun h=>absurd h hv
theorem P_odd:PP % 2=1:=by decide +kernel
theorem c5p{P Q:Ed.Pt}(h:enc P=enc Q):P=Q:=by
 have hp:=e4l P.y;have hq:=e4l Q.y;have hs:P.y.v=Q.y.v∧(P.x.v % 2=1↔Q.x.v % 2=1):=by
  unfold enc a4k PP at *;split at h <;> split at h <;> constructor <;> omega
 have hy:P.y=Q.y:=Ed.Fq.ext hs.1;refine Ed.Pt.ext ?_ hy;rcases x_of hy with e | e
 ·exact e
 ·have hn:=neg_v Q.x;rw [←e]at hn;have h1:=e4l Q.x;have h2:=P_odd;split at hn
  ·exact Ed.Fq.ext (by omega)
  ·exfalso;omega
theorem c1m(X:Nat):leV (le (X % a4k) 32)=X % a4k:=by
 rw [a6z];apply Nat.mod_eq_of_lt;have:X % a4k < a4k:=Nat.mod_lt _ (by decide +kernel);unfold a4k at *;omega
theorem e3b(X:Nat):dcN X=decide (X % a4k < PP):=by unfold dcN e1r;rw [c1m]
theorem e3q{X:Nat}(h:X < b4o):dcO X=decide (a4k≤X):=by
 unfold dcO;rw [decide_eq_decide];unfold c31 d1k a4k b4o at *;omega
def yOf(X:Nat):Ed.Fq:=Ed.mk (X % a4k)
theorem c6v{X:Nat}(h:dcN X=true):fq (dcY X)=yOf X:=by
 unfold dcY;rw [b6i _ h,c1m];rfl
theorem yOf_v{X:Nat}(h:dcN X=true):(yOf X).v=X % a4k:=by
 rw [e3b]at h;exact Nat.mod_eq_of_lt (of_decide_eq_true h)
theorem e3e{X:Nat}(h:dcN X=true):fq (dcU X)=yOf X * yOf X - 1:=by
 have l:=a1g X;unfold dcU;rw [b4l (a0i l l) (a2j 1 (by omega)),a5z l l,c3v,c6v h]
theorem e2r{X:Nat}(h:dcN X=true):fq (dcV X)=yOf X * yOf X * Ed.D + 1:=by
 have l:=a1g X;unfold dcV;rw [b4j (a0i (a0i l l) a7w) (a2j 1 (by omega)),a5z (a0i l l) a7w,a5z l l,c3v,c6v h,fq_kD]
theorem e1l(X:Nat):dcZ X=decide ((fq (dcR X)).v=0):=by
 unfold dcZ;rw [←le_zero,c7j _ _ (Nat.mod_lt _ a3l) a3l,decide_eq_decide,←fq_v]
theorem e1o(X:Nat):rtB (dcU X) (dcV X)=okM (fv (dcU X)) (fv (dcV X)):=(a5g (a9h X)).ok (a5g (a8y X))
theorem e3h{X:Nat}(h:rtB (dcU X) (dcV X)=true):fq (dcR X) * fq (dcR X) * fq (dcV X)=fq (dcU X)∧(fq (dcR X)).v % 2=0:=by
 rw [e1o]at h;have hr:=(a5g (a9h X)).rt (a5g (a8y X)) h;have e:=c1n hr;constructor
 ·show fq (rtF (dcU X) (dcV X)) * fq (rtF (dcU X) (dcV X)) * fq (dcV X)=fq (dcU X);rw [e];exact(congrArg (Ed.mul · (fq (dcV X))) (Ed.a2s _ _)).trans ((Ed.a2s _ _).trans (Ed.mk_eq.2 (d4k h)))
 ·show(fq (rtF (dcU X) (dcV X))).v % 2=0;have h2:=e7p (fv (dcU X)) (fv (dcV X));rw [PP_p]at h2;rw [e,Ed.e8k];exact h2
theorem pt_on{x y:Ed.Fq}(h:x * x * (y * y * Ed.D + 1)=y * y - 1):Ed.onC Ed.D x y:=by
 unfold Ed.onC;generalize Ed.D=D at *
 grind
theorem d9y{X:Nat}(h:X < b4o):X=X % a4k + (if a4k≤X then a4k else 0):=by
 unfold a4k b4o at *;split <;> omega
theorem e2a{P:Ed.Pt}{X:Nat}(hX:X < b4o)(hn:dcN X=true)(hy:P.y=yOf X)(hx:P.x.v % 2=1↔a4k≤X):enc P=X:=by
 unfold enc;rw [hy,yOf_v hn];have e:(if P.x.v % 2=1 then a4k else 0)=if a4k≤X then a4k else 0:=by
  by_cases h:a4k≤X
  ·rw [if_pos h,if_pos (hx.2 h)]
  ·rw [if_neg h,if_neg (fun e=>h (hx.1 e))]
 rw [e];exact(d9y hX).symm
theorem c2a{X:Nat}(hX:X < b4o)(h:b3a X=true):∃P,Rp (dcQ X) P∧enc P=X:=by
 rw [c4d X h];unfold b3a at h;rw [Bool.and_eq_true,Bool.and_eq_true]at h;obtain⟨hn,hr,hz⟩:=h;have hs:=e3h hr;rw [e3e hn,e2r hn]at hs;obtain⟨hs,he⟩:=hs;have hO:=e3q hX;have lR:=b3h X;have l0:=a2j 0 (by omega);have hp:=P_odd;by_cases ho:a4k≤X
 ·rw [decide_eq_true ho]at hO;rw [hO,e1l,Bool.true_and]at hz;have hz3:¬(fq (dcR X)).v=0:=fun e=>by rw [decide_eq_true e]at hz;exact absurd hz (by decide)
  rw [hO,if_pos rfl];have ex:fq (suF (smL 0) (dcR X))= - fq (dcR X):=by rw [b4l l0 lR,e1b];grind
  refine⟨⟨- fq (dcR X),yOf X,pt_on ?_⟩,Rp.af (a1h l0 lR) (a1g X) ex.symm (c6v hn).symm,e2a hX hn rfl ?_⟩
  ·rw [←hs];generalize fq (dcR X)=r at *;generalize yOf X * yOf X * Ed.D + 1=v at *;clear hs hz hz3 he ex
   grind
  ·refine⟨fun _=>ho,fun _=>?_⟩;show(- fq (dcR X)).v % 2=1;have hl:=e4l (fq (dcR X));rw [neg_v,if_neg hz3];omega
 ·rw [decide_eq_false ho]at hO;rw [hO,if_neg (by decide)];refine⟨⟨fq (dcR X),yOf X,pt_on hs⟩,Rp.af lR (a1g X) rfl (c6v hn).symm,e2a hX hn rfl ?_⟩;refine⟨fun e=>?_,fun e=>absurd e ho⟩;have e2:(fq (dcR X)).v % 2=1:=e;omega
theorem mul_v(a b:Ed.Fq):(a * b).v=a.v * b.v % PP:=rfl
theorem c6p(P:Ed.Pt):b3a (enc P)=true:=by
 have hX:=c1k P;have hyl:=e4l P.y;have hmod:enc P % a4k=P.y.v:=by
  unfold enc a4k PP at *;split <;> omega
 have hn:dcN (enc P)=true:=by rw [e3b,hmod];exact decide_eq_true hyl
 have hy:yOf (enc P)=P.y:=Ed.Fq.ext (by rw [yOf_v hn,hmod]);have hU:=e3e hn;have hV:=e2r hn;rw [hy]at hU hV;have hvn:fq (dcV (enc P))≠0:=by
  rw [hV];have:=v_ne P.y
  rwa [show P.y * P.y * Ed.D=Ed.D * P.y * P.y from by grind]
 have hon:=on_x P;have hrel:P.x * P.x * fq (dcV (enc P))=fq (dcU (enc P)):=by
  rw [hU,hV,←hon];generalize Ed.D=D at *;clear hU hV hvn hon hy
  grind
 have hv0:fv (dcV (enc P)) % PP≠0:=fun e=>hvn (Ed.Fq.ext (e.trans Ed.c9e.symm))
 have hr:rtB (dcU (enc P)) (dcV (enc P))=true:=by
  rw [e1o];unfold okM;rw [decide_eq_true hv0,Bool.true_and,decide_eq_true_eq,b0y];refine x1_yes (sq_pow (x:=P.x.v) ?_);unfold wM;rw [b0y];have e1:P.x.v * P.x.v * fv (dcV (enc P)) % PP=fv (dcU (enc P)) % PP:=by
   have:=congrArg Ed.Fq.v hrel;rw [mul_v,mul_v]at this;have e2:(fq (dcV (enc P))).v=fv (dcV (enc P)) % PP:=rfl;rw [e2,Nat.mul_mod]at this;simp only [Nat.mod_mod]at this;rw [←Nat.mul_mod]at this;exact this
  have e2:=inv_mul hv0;rw [←mm e1 rfl,show P.x.v * P.x.v * fv (dcV (enc P)) * b7s (fv (dcV (enc P)))=P.x.v * P.x.v * (fv (dcV (enc P)) * b7s (fv (dcV (enc P))))from by rw [Nat.mul_assoc],mm rfl (e2.trans (show 1=1 % PP by decide +kernel)),Nat.mul_one]
 unfold b3a;rw [hn,hr,Bool.true_and,Bool.true_and,Bool.not_eq_true',Bool.and_eq_false_iff];by_cases ho:P.x.v % 2=1
 ·right
  rw [e1l];refine decide_eq_false fun e0=>?_
  have e:fq (dcR (enc P))=0:=Ed.Fq.ext (e0.trans Ed.c9e.symm);have hs:=(e3h hr).1;rw [e,←hrel]at hs;have h0:P.x * P.x * fq (dcV (enc P))=0:=by rw [←hs];grind
  rcases Ed.a3t h0 with h1 | h1
  ·rcases Ed.a3t h1 with h2 | h2 <;> (rw [h2]at ho;exact absurd ho (by rw [Ed.c9e];decide))
  ·exact hvn h1
 ·left
  rw [e3q hX];refine decide_eq_false fun e=>?_
  unfold enc at e;rw [if_neg ho]at e;unfold a4k PP at *;omega
theorem e6i(P:Ed.Pt):Rp (dcQ (enc P)) P:=by
 obtain⟨Q,hq,he⟩:=c2a (c1k P) (c6p P)
 rwa [c5p he]at hq
end Go.Proofs.YtdbngnlpafcogaaGreat
namespace Go.Proofs.YtdbngnlpafcogaaGreat
open Go.RowKit Go.Mem Go.Txt
structure Rq (p:P4) (P:Ed.Pt):Prop where
 ok:p.Ok
 r:Rp (rtQ p) P
theorem Rp.q{p:P4}{P:Ed.Pt}(h:Rp p P):Rq p P:=⟨h.ok,by rw [h.rt];exact h⟩
theorem Rq.enc{p:P4}{P:Ed.Pt}(h:Rq p P):e4u p=enc P:=e4x h.r
theorem Rq.ad{p q:P4}{P Q:Ed.Pt}(h:Rq p P)(h2:Rq q Q):Rp (adQ p q) (P + Q):=h.r.pl h2.r
theorem e2d(P:Ed.Pt):P.neg.x= -P.x:=by unfold Ed.Pt.neg;rfl
theorem e3r(P:Ed.Pt):P.neg.y=P.y:=by unfold Ed.Pt.neg;rfl
theorem Rq.ng{p:P4}{P:Ed.Pt}(h:Rq p P):Rp (ngQ p) P.neg:=by
 have hr:=h.r;have l0:=a2j 0 (by omega);have ex:fq (ngQ p).x= - fq (rtQ p).x:=by show fq (suF (smL 0) (rtQ p).x)=_;rw [b4l l0 hr.ok.x,e1b];grind
 have et:fq (ngQ p).t= - fq (rtQ p).t:=by show fq (suF (smL 0) (rtQ p).t)=_;rw [b4l l0 hr.ok.t,e1b];grind
 have h1:=hr.x;have h2:=hr.t;refine⟨ngQ_ok h.ok,hr.z,?_,by rw [e3r];exact hr.y,?_⟩
 ·show P.neg.x * fq (rtQ p).z=_;rw [ex,e2d,←h1];generalize fq (rtQ p).z=z;generalize P.x=x;clear h1 h2 ex et hr
  grind
 ·show P.neg.x * P.neg.y * fq (rtQ p).z=_;rw [et,e2d,e3r,←h2];generalize fq (rtQ p).z=z;generalize P.x=x;generalize P.y=y;clear h1 h2 ex et hr
  grind
theorem Rp.uniq{p:P4}{P Q:Ed.Pt}(h:Rp p P)(h2:Rp p Q):P=Q:=by
 have hz:=h.z;have c:∀a b z:Ed.Fq,z≠0→a * z=b * z→a=b:=fun a b z h0 e=>by
  have e2:(a - b) * z=0:=by grind
  exact(Ed.a3t e2).elim a7t fun e=>absurd e h0
 exact Ed.Pt.ext (c _ _ _ hz (h.x.trans h2.x.symm)) (c _ _ _ hz (h.y.trans h2.y.symm))
theorem b4y{F G:Nat→Nat}(h:∀i,i < 5→F i=G i):fq F=fq G:=by
 unfold fq fv;rw [h 0 (by omega),h 1 (by omega),h 2 (by omega),h 3 (by omega),h 4 (by omega)]
theorem Rp.same{p q:P4}{P:Ed.Pt}(h:Rp p P)(hq:q.Ok)(e:p.n=q.n):Rp q P:=by
 have hl:=(d1p p q).2 e;have ex:fq p.x=fq q.x:=b4y fun i hi=>(c2w hl i hi).1
 have ey:fq p.y=fq q.y:=b4y fun i hi=>(c2w hl i hi).2.1
 have ez:fq p.z=fq q.z:=b4y fun i hi=>(c2w hl i hi).2.2.1
 have et:fq p.t=fq q.t:=b4y fun i hi=>(c2w hl i hi).2.2.2
 exact⟨hq,ez▸h.z,ez▸ex▸h.x,ez▸ey▸h.y,ez▸et▸h.t⟩
theorem d6a{p b:P4}{P B:Ed.Pt}(hb:Rp b B)(h:Rq p P)(e:p.same b=true):P=B:=by
 have e2:p.n=b.n:=of_decide_eq_true e;have hn:p.none=false:=by
  have:=hb.some;unfold P4.none P4.same at this ⊢
  rwa [e2]
 have hr:=h.r;have hrt:rtQ p=p:=by unfold rtQ;rw [hn];rfl
 rw [hrt]at hr;exact(hr.same hb.ok e2).uniq hb
theorem b9j{p:P4}{P:Ed.Pt}(h:Rq p P):∀i,Rp (a2o p kK i) (Ed.Pt.mul i P)
 | 0=>d5l
 | 1=>by rw [Ed.Pt.d1j];exact h.r
 | n + 2=>(b9j h (n + 1)).pl h.r
theorem d2k{r:P4}{P:Ed.Pt}(h:Rp r P):∀k,Rp (dbN r k) (Ed.Pt.mul (2 ^ k) P)
 | 0=>by rw [Nat.pow_zero,Ed.Pt.d1j];exact h
 | k + 1=>by
   have:=(d2k h k).db;rw [←Ed.Pt.mul_add,←Nat.two_mul,Nat.mul_comm,←Nat.pow_succ]at this;exact this
theorem b9n(X k:Nat)(hk:k < 64):X / 2 ^ (256 - 4 * (k + 1))=X / 2 ^ (256 - 4 * k) * 2 ^ 4 + dgt X (63 - k):=by
 unfold dgt;rw [show 256 - 4 * k=(252 - 4 * k) + 4 from by omega,show 256 - 4 * (k + 1)=252 - 4 * k from by omega,show 4 * (63 - k)=252 - 4 * k from by omega,Nat.pow_add,←Nat.div_div_eq_div_mul];generalize X / 2 ^ (252 - 4 * k)=Y;omega
theorem b1z:b4o=2 ^ 256:=by decide +kernel
theorem e2o{f:Nat→P4}{P:Ed.Pt}(hf:∀i,Rp (f i) (Ed.Pt.mul i P)){X:Nat}(hX:X < b4o):∀k,k≤64→Rp (muA f X k) (Ed.Pt.mul (X / 2 ^ (256 - 4 * k)) P)
 | 0,_=>by
   rw [show X / 2 ^ (256 - 4 * 0)=0 from Nat.div_eq_of_lt (by rw [b1z]at hX;exact hX)];exact hf 0
 | k + 1,hk=>by
   have:=(d2k (e2o hf hX k (by omega)) 4).pl (hf (dgt X (63 - k)));rw [←Ed.Pt.a7d,←Ed.Pt.mul_add,←b9n X k (by omega)]at this;exact this
theorem mu_rp{p:P4}{P:Ed.Pt}(h:Rq p P){X:Nat}(hX:X < b4o):Rp (muA (a2o p kK) X 64) (Ed.Pt.mul X P):=by
 have:=e2o (b9j h) hX 64 (by omega)
 rwa [show 256 - 4 * 64=0 from rfl,Nat.pow_zero,Nat.div_one]at this
theorem e3s{f g:Nat→P4}{B P:Ed.Pt}(hf:∀i,Rp (f i) (Ed.Pt.mul i B))(hg:∀i,Rp (g i) (Ed.Pt.mul i P)){X Y:Nat}(hX:X < b4o)(hY:Y < b4o) :
 ∀k,k≤64→Rp (boA f g X Y k) (Ed.Pt.mul (X / 2 ^ (256 - 4 * k)) B + Ed.Pt.mul (Y / 2 ^ (256 - 4 * k)) P)
 | 0,_=>by
   rw [show X / 2 ^ (256 - 4 * 0)=0 from Nat.div_eq_of_lt (by rw [b1z]at hX;exact hX),show Y / 2 ^ (256 - 4 * 0)=0 from Nat.div_eq_of_lt (by rw [b1z]at hY;exact hY),Ed.Pt.b4h,Ed.Pt.b4h,Ed.Pt.add_zero];exact hf 0
 | k + 1,hk=>by
   have:=((d2k (e3s hf hg hX hY k (by omega)) 4).pl (hf (dgt X (63 - k)))).pl (hg (dgt Y (63 - k)));rw [Ed.Pt.e6d,←Ed.Pt.a7d,←Ed.Pt.a7d,Ed.Pt.assoc,Ed.Pt.four,←Ed.Pt.mul_add,←Ed.Pt.mul_add,←b9n X k (by omega),←b9n Y k (by omega)]at this;exact this
theorem bo_rp{p b:P4}{P B:Ed.Pt}(hb:Rq b B)(h:Rq p P){X Y:Nat}(hX:X < b4o)(hY:Y < b4o):Rp (boA (a2o b kK) (a2o p kK) X Y 64) (Ed.Pt.mul X B + Ed.Pt.mul Y P):=by
 have:=e3s (b9j hb) (b9j h) hX hY 64 (by omega)
 rwa [show 256 - 4 * 64=0 from rfl,Nat.pow_zero,Nat.div_one,Nat.div_one]at this
def sm(X c:Nat):Nat→Nat
 | 0=>0
 | j + 1=>sm X c j + byt X j / 2 ^ c * 256 ^ j
theorem d6j(X b:Nat)(hb:b < 8):∀j,sm X b j=2 * sm X (b + 1) j + (List.range j).foldl (fun s i=>s + (if tb X (8 * i + b)then 1 else 0) * 256 ^ i) 0
 | 0=>rfl
 | j + 1=>by
   rw [List.range_succ,List.foldl_append,List.foldl_cons,List.foldl_nil,sm,sm,d6j X b hb j];have e:byt X j / 2 ^ b=2 * (byt X j / 2 ^ (b + 1)) + if tb X (8 * j + b)then 1 else 0:=by
    have h1:=e3j X j b hb;rw [Nat.pow_succ,←Nat.div_div_eq_div_mul];unfold tb;rw [←h1];generalize byt X j / 2 ^ b=y;by_cases hy:y % 2=1
    ·rw [if_pos (by simpa using hy)];omega
    ·rw [if_neg (by simpa using hy)];omega
   rw [e,Nat.add_mul];generalize (if tb X (8 * j + b)then 1 else 0) * 256 ^ j=A;rw [Nat.mul_add,Nat.mul_assoc];omega
theorem e3n{f:Nat→P4}{B:Ed.Pt}(hf:∀i,i < 32→Rp (f i) (Ed.Pt.mul (256 ^ i) B))(X b n:Nat){r:P4}(hr:Rp r (Ed.Pt.mul n B)) :
 ∀i,i≤32→Rp (baI f X b r i) (Ed.Pt.mul (n + (List.range i).foldl (fun s i=>s + (if tb X (8 * i + b)then 1 else 0) * 256 ^ i) 0) B)
 | 0,_=>hr
 | i + 1,hi=>by
   have ih:=e3n hf X b n hr i (by omega);rw [List.range_succ,List.foldl_append,List.foldl_cons,List.foldl_nil,baI];by_cases ht:tb X (8 * i + b)=true
   ·rw [if_pos ht,if_pos ht,Nat.one_mul,←Nat.add_assoc,Ed.Pt.mul_add];exact ih.pl (hf i (by omega))
   ·rw [if_neg ht,if_neg ht,Nat.zero_mul,Nat.add_zero];exact ih
theorem e1m{f:Nat→P4}{B:Ed.Pt}(hf:∀i,i < 32→Rp (f i) (Ed.Pt.mul (256 ^ i) B))(X:Nat):∀k,k≤8→Rp (baA f X k) (Ed.Pt.mul (sm X (8 - k) 32) B)
 | 0,_=>by
   have e:∀j,sm X 8 j=0:=fun j=>by
    induction j with
    | zero=>rfl
    | succ j ih=>rw [sm,ih,show byt X j / 2 ^ 8=0 from Nat.div_eq_of_lt (c6t X j),Nat.zero_mul]
   rw [show 8 - 0=8 from rfl,e];exact d5l
 | k + 1,hk=>by
   have h1:=(e1m hf X k (by omega)).db;rw [←Ed.Pt.mul_add,←Nat.two_mul]at h1;have h2:=e3n hf X (7 - k) _ h1 32 (by omega);rw [show 8 - k=(7 - k) + 1 from by omega,←d6j X (7 - k) (by omega)]at h2;rw [show 8 - (k + 1)=7 - k from by omega];exact h2
theorem e1p(X:Nat):∀j,sm X 0 j=X % 256 ^ j
 | 0=>by rw [Nat.pow_zero,Nat.mod_one];rfl
 | j + 1=>by
   rw [sm,e1p X j,Nat.pow_zero,Nat.div_one,Nat.pow_succ];unfold byt;rw [show(2:Nat) ^ (8 * j)=256 ^ j from by rw [Nat.pow_mul],Nat.mod_mul,Nat.mul_comm (256 ^ j)]
theorem ba_rp{f:Nat→P4}{B:Ed.Pt}(hf:∀i,i < 32→Rp (f i) (Ed.Pt.mul (256 ^ i) B)){X:Nat}(hX:X < b4o):Rp (baA f X 8) (Ed.Pt.mul X B):=by
 have:=e1m hf X 8 (by omega);rw [show 8 - 8=0 from rfl,e1p,show(256:Nat) ^ 32=b4o from by decide +kernel,Nat.mod_eq_of_lt hX]at this;exact this
end Go.Proofs.YtdbngnlpafcogaaGreat
namespace Go.Proofs.YtdbngnlpafcogaaGreat
open Go.RowKit Go.Mem Go.Txt
def bxN:Nat:=15112221349535400772501151409588531511454012693041857206046113283949847762202
def byN:Nat:=46316835694926478169428394003475163141307993866256225615783033603165251855960
theorem on_nat{x y:Nat}(h:y * y % PP=(1 + Ed.Dn * x * x * y * y + x * x) % PP):Ed.onC Ed.D (Ed.mk x) (Ed.mk y):=by
 unfold Ed.onC Ed.D;have e:Ed.mk y * Ed.mk y=1 + Ed.mk Ed.Dn * Ed.mk x * Ed.mk x * Ed.mk y * Ed.mk y + Ed.mk x * Ed.mk x:=by
  show Ed.mul (Ed.mk y) (Ed.mk y)=Ed.add (Ed.add (Ed.mk 1) (Ed.mul (Ed.mul (Ed.mul (Ed.mul (Ed.mk Ed.Dn) (Ed.mk x)) (Ed.mk x)) (Ed.mk y)) (Ed.mk y))) (Ed.mul (Ed.mk x) (Ed.mk x));rw [Ed.a2s,Ed.a2s,Ed.a2s,Ed.a2s,Ed.a2s,Ed.a2s,Ed.a3d,Ed.a3d];exact Ed.mk_eq.2 h
 generalize Ed.mk Ed.Dn=D at *;generalize Ed.mk x=X at *;generalize Ed.mk y=Y at *;clear h
 grind
def BB:Ed.Pt:=⟨Ed.mk bxN,Ed.mk byN,on_nat (by decide +kernel)⟩
theorem c3t:Rp baQ BB:=Rp.af (a3q _) (a3q _) ((b6i bxB (by decide +kernel)).trans (Ed.mk_eq.2 (by decide +kernel))).symm ((b6i byB (by decide +kernel)).trans (Ed.mk_eq.2 (by decide +kernel))).symm
structure N3 where
 x:Nat
 y:Nat
 z:Nat
structure RN (n:N3) (P:Ed.Pt):Prop where
 z:Ed.mk n.z≠0
 x:P.x * Ed.mk n.z=Ed.mk n.x
 y:P.y * Ed.mk n.z=Ed.mk n.y
def dN(n:N3):N3:=⟨2 * n.x * n.y * (2 * (n.z * n.z) + n.x * n.x + (PP * PP - n.y * n.y)) % PP,(n.y * n.y + (PP * PP - n.x * n.x)) * (n.x * n.x + n.y * n.y) % PP,(2 * (n.z * n.z) + n.x * n.x + (PP * PP - n.y * n.y)) * (n.y * n.y + (PP * PP - n.x * n.x)) % PP⟩
structure Sml (n:N3):Prop where
 x:n.x < PP
 y:n.y < PP
theorem a9e(n:Nat):Ed.mk (n % PP)=Ed.mk n:=Ed.mk_eq.2 (Nat.mod_mod _ _)
theorem b1a(m n:Nat):Ed.mk (m + n)=Ed.mk m + Ed.mk n:=(Ed.a3d m n).symm
theorem a4p(m n:Nat):Ed.mk (m * n)=Ed.mk m * Ed.mk n:=(Ed.a2s m n).symm
theorem mk_2:Ed.mk 2=(2:Ed.Fq):=rfl
theorem c6g{a:Nat}(h:a < PP):Ed.mk (PP * PP - a * a)= - (Ed.mk a * Ed.mk a):=by
 have e:Ed.mk (PP * PP - a * a) + Ed.mk a * Ed.mk a=0:=by
  rw [←a4p,←b1a,Nat.sub_add_cancel (Nat.mul_le_mul (Nat.le_of_lt h) (Nat.le_of_lt h))];exact Ed.mk_eq.2 (by decide +kernel)
 exact b3b e
theorem Sml.d{n:N3}:Sml (dN n):=⟨Nat.mod_lt _ a3l,Nat.mod_lt _ a3l⟩
section
variable {D x1 y1 u X Y:Ed.Fq}
theorem dn_f(hon:y1 * y1 - x1 * x1=1 + D * x1 * x1 * y1 * y1):2 * (u * u) + x1 * u * (x1 * u) + -(y1 * u * (y1 * u))=u * u * (1 - D * x1 * x1 * y1 * y1):=by
 have e:D * x1 * x1 * y1 * y1=y1 * y1 - x1 * x1 - 1:=by grind
 rw [e];clear e hon
 grind
theorem dn_g(hon:y1 * y1 - x1 * x1=1 + D * x1 * x1 * y1 * y1):y1 * u * (y1 * u) + -(x1 * u * (x1 * u))=u * u * (1 + D * x1 * x1 * y1 * y1):=by
 rw [←hon];clear hon
 grind
theorem dn_x{m:Ed.Fq}(hx:X * (1 + m)=x1 * y1 + x1 * y1):X * (u * u * (1 - m) * (u * u * (1 + m)))=2 * (x1 * u) * (y1 * u) * (u * u * (1 - m)):=by
 have e:X * (u * u * (1 - m) * (u * u * (1 + m)))=X * (1 + m) * (u * u * (1 - m) * (u * u)):=by clear hx;grind
 rw [e,hx];clear e hx
 grind
theorem dn_y{m:Ed.Fq}(hy:Y * (1 - m)=y1 * y1 + x1 * x1):Y * (u * u * (1 - m) * (u * u * (1 + m)))=u * u * (1 + m) * (x1 * u * (x1 * u) + y1 * u * (y1 * u)):=by
 have e:Y * (u * u * (1 - m) * (u * u * (1 + m)))=Y * (1 - m) * (u * u * (1 + m) * (u * u)):=by clear hy;grind
 rw [e,hy];clear e hy
 grind
end
theorem RN.d{n:N3}{P:Ed.Pt}(h:RN n P)(s:Sml n):RN (dN n) (P + P):=by
 have hx:=c7s P P;have hy:=c8s P P;have n1:=Ed.c5f.plus P.on P.on;have n2:=Ed.c5f.minus P.on P.on;have hon:=P.on;unfold Ed.onC at hon;have f0:=dn_f (u:=Ed.mk n.z) hon;have g0:=dn_g (u:=Ed.mk n.z) hon;rw [h.x,h.y]at f0 g0;have ez:Ed.mk (dN n).z=Ed.mk n.z * Ed.mk n.z * (1 - Ed.D * P.x * P.x * P.y * P.y) * (Ed.mk n.z * Ed.mk n.z * (1 + Ed.D * P.x * P.x * P.y * P.y)):=by
  rw [←f0,←g0];show Ed.mk ((2 * (n.z * n.z) + n.x * n.x + (PP * PP - n.y * n.y)) * (n.y * n.y + (PP * PP - n.x * n.x)) % PP)=_;rw [a9e,a4p,b1a,b1a,b1a,a4p,a4p,a4p,a4p,c6g s.x,c6g s.y,mk_2]
 refine⟨?_,?_,?_⟩
 ·rw [ez];exact Ed.a3b (Ed.a3b (Ed.a3b h.z h.z) n2) (Ed.a3b (Ed.a3b h.z h.z) n1)
 ·rw [ez,dn_x hx,h.x,h.y,←f0];show _=Ed.mk (2 * n.x * n.y * (2 * (n.z * n.z) + n.x * n.x + (PP * PP - n.y * n.y)) % PP);rw [a9e,a4p,a4p,a4p,b1a,b1a,a4p,a4p,a4p,c6g s.y,mk_2]
 ·rw [ez,dn_y hy,h.x,h.y,←g0];show _=Ed.mk ((n.y * n.y + (PP * PP - n.x * n.x)) * (n.x * n.x + n.y * n.y) % PP);rw [a9e,a4p,b1a,b1a,a4p,a4p,c6g s.x]
def apN(n:N3)(x y:Nat):N3:=
 let C:=n.x * x % PP
 let Q:=n.y * y % PP
 let E:=Ed.Dn * C * Q % PP
 ⟨n.z * (n.z * n.z + (PP - E)) * (n.x * y + n.y * x) % PP,n.z * (n.z * n.z + E) * (Q + C) % PP,(n.z * n.z + (PP - E)) * (n.z * n.z + E) % PP⟩
section
variable {D x1 y1 x2 y2 u X Y:Ed.Fq}
theorem an_e:D * (x1 * u * x2) * (y1 * u * y2)=u * u * (D * x1 * x2 * y1 * y2):=by grind
theorem an_m{m:Ed.Fq}:u * u + -(u * u * m)=u * u * (1 - m):=by grind
theorem an_p{m:Ed.Fq}:u * u + u * u * m=u * u * (1 + m):=by grind
theorem an_x{m:Ed.Fq}(hx:X * (1 + m)=x1 * y2 + x2 * y1):X * (u * u * (1 - m) * (u * u * (1 + m)))=u * (u * u * (1 - m)) * (x1 * u * y2 + y1 * u * x2):=by
 have e:X * (u * u * (1 - m) * (u * u * (1 + m)))=X * (1 + m) * (u * u * (1 - m) * (u * u)):=by clear hx;grind
 rw [e,hx];clear e hx
 grind
theorem an_y{m:Ed.Fq}(hy:Y * (1 - m)=y1 * y2 + x1 * x2):Y * (u * u * (1 - m) * (u * u * (1 + m)))=u * (u * u * (1 + m)) * (y1 * u * y2 + x1 * u * x2):=by
 have e:Y * (u * u * (1 - m) * (u * u * (1 + m)))=Y * (1 - m) * (u * u * (1 + m) * (u * u)):=by clear hy;grind
 rw [e,hy];clear e hy
 grind
end
theorem e3i{a:Nat}(h:a < PP):Ed.mk (PP - a)= - Ed.mk a:=by
 have e:Ed.mk (PP - a) + Ed.mk a=0:=by
  rw [←b1a,Nat.sub_add_cancel (Nat.le_of_lt h)];exact Ed.mk_eq.2 (by decide +kernel)
 exact b3b e
theorem RN.a{n:N3}{P Q:Ed.Pt}{x y:Nat}(h:RN n P)(hqx:Q.x=Ed.mk x)(hqy:Q.y=Ed.mk y):RN (apN n x y) (P + Q):=by
 have hx:=c7s P Q;have hy:=c8s P Q;have n1:=Ed.c5f.plus P.on Q.on;have n2:=Ed.c5f.minus P.on Q.on;have ee:Ed.mk (Ed.Dn * (n.x * x % PP) * (n.y * y % PP) % PP)=Ed.mk n.z * Ed.mk n.z * (Ed.D * P.x * Q.x * P.y * Q.y):=by
  rw [←an_e,h.x,h.y,hqx,hqy,a9e,a4p,a4p,a9e,a9e,a4p,a4p];unfold Ed.D;rfl
 have hl:Ed.Dn * (n.x * x % PP) * (n.y * y % PP) % PP < PP:=Nat.mod_lt _ a3l;have ez:Ed.mk (apN n x y).z=Ed.mk n.z * Ed.mk n.z * (1 - Ed.D * P.x * Q.x * P.y * Q.y) * (Ed.mk n.z * Ed.mk n.z * (1 + Ed.D * P.x * Q.x * P.y * Q.y)):=by
  show Ed.mk ((n.z * n.z + (PP - Ed.Dn * (n.x * x % PP) * (n.y * y % PP) % PP)) * (n.z * n.z + Ed.Dn * (n.x * x % PP) * (n.y * y % PP) % PP) % PP)=_;rw [a9e,a4p,b1a,b1a,e3i hl,ee,a4p,an_m,an_p]
 refine⟨?_,?_,?_⟩
 ·rw [ez];exact Ed.a3b (Ed.a3b (Ed.a3b h.z h.z) n2) (Ed.a3b (Ed.a3b h.z h.z) n1)
 ·rw [ez,an_x hx,h.x,h.y,hqx,hqy];show _=Ed.mk (n.z * (n.z * n.z + (PP - Ed.Dn * (n.x * x % PP) * (n.y * y % PP) % PP)) * (n.x * y + n.y * x) % PP);rw [a9e,a4p,a4p,b1a,b1a,e3i hl,ee,a4p,a4p,a4p,an_m,hqx,hqy]
 ·rw [ez,an_y hy,h.x,h.y,hqx,hqy];show _=Ed.mk (n.z * (n.z * n.z + Ed.Dn * (n.x * x % PP) * (n.y * y % PP) % PP) * (n.y * y % PP + n.x * x % PP) % PP);rw [a9e,a4p,a4p,b1a,b1a,ee,a9e,a9e,a4p,a4p,a4p,an_p,hqx,hqy]
def mN(x y:Nat):Nat→Nat→N3
 | 0,_=>⟨0,1,1⟩
 | f + 1,n=>if n % 2=1 then apN (dN (mN x y f (n / 2))) x y else dN (mN x y f (n / 2))
theorem e5a:RN ⟨0,1,1⟩ Ed.Pt.zero:=⟨b6p,by rw [c7z];show(0:Ed.Fq) * 1=0;grind,by rw [c6l];show(1:Ed.Fq) * 1=1;grind⟩
theorem mN_sm(x y:Nat):∀f n,Sml (mN x y f n)
 | 0,_=>⟨a3l,show 1 < PP by decide +kernel⟩
 | f + 1,n=>by
   unfold mN;split
   ·exact⟨Nat.mod_lt _ a3l,Nat.mod_lt _ a3l⟩
   ·exact Sml.d
theorem e7j{x y:Nat}{Q:Ed.Pt}(hqx:Q.x=Ed.mk x)(hqy:Q.y=Ed.mk y):∀f n,n < 2 ^ f→RN (mN x y f n) (Ed.Pt.mul n Q)
 | 0,n,h=>by
   obtain rfl:n=0:=by simpa using h
   exact e5a
 | f + 1,n,h=>by
   have ih:=(e7j hqx hqy f (n / 2) (by rw [Nat.pow_succ]at h;omega)).d (mN_sm x y f (n / 2));rw [←Ed.Pt.mul_add]at ih;unfold mN;split
   ·have:=ih.a hqx hqy;rw [←Ed.Pt.mul_succ,show n / 2 + n / 2 + 1=n from by omega]at this;exact this
   ·rwa [show n / 2 + n / 2=n from by omega]at ih
def LL:Nat:=7237005577332262213973186563042994240857116359379907606001950938285454250989
theorem LL_pm:(mN bxN byN 253 LL).x % PP=0∧(mN bxN byN 253 LL).y % PP=(mN bxN byN 253 LL).z % PP:=by decide +kernel
theorem RN.zero{n:N3}{P:Ed.Pt}(h:RN n P)(hx:n.x % PP=0)(hy:n.y % PP=n.z % PP):P=Ed.Pt.zero:=by
 have e1:Ed.mk n.x=0:=Ed.mk_eq.2 (hx.trans (Nat.zero_mod _).symm);have e2:Ed.mk n.y=Ed.mk n.z:=Ed.mk_eq.2 hy;have h1:=h.x;have h2:=h.y;have hz:=h.z;rw [e1]at h1;rw [e2]at h2;refine Ed.Pt.ext ?_ ?_
 ·rw [c7z];exact(Ed.a3t h1).elim id fun e=>absurd e hz
 ·rw [c6l];have:(P.y - 1) * Ed.mk n.z=0:=by
   generalize Ed.mk n.z=z at *;generalize P.y=y at *;clear e1 e2 h1 hz h
   grind
  exact(Ed.a3t this).elim a7t fun e=>absurd e hz
theorem b6o:Ed.Pt.mul LL BB=Ed.Pt.zero:=(e7j (Q:=BB) rfl rfl 253 LL (by decide +kernel)).zero LL_pm.1 LL_pm.2
end Go.Proofs.YtdbngnlpafcogaaGreat
namespace Go.Proofs.YtdbngnlpafcogaaGreat
open Go.RowKit Go.Mem Go.Txt
def rdL:Nat→List UInt8→Nat
 | 0,_=>0
 | k + 1,l=>match l with
   | a :: b :: l'=>nib a.toNat * 16 + nib b.toNat + 256 * rdL k l'
   | _=>0
def d8(n:N3):N3:=dN (dN (dN (dN (dN (dN (dN (dN n)))))))
def ckL:Nat→Nat→Nat→List UInt8→Bool
 | 0,_,_,_=>true
 | n + 1,x,y,l=>
   decide (rdL 32 l < PP) && decide (rdL 32 (l.drop 64) < PP) && decide (rdL 32 l * (d8 ⟨x,y,1⟩).z % PP=(d8 ⟨x,y,1⟩).x % PP) && decide (rdL 32 (l.drop 64) * (d8 ⟨x,y,1⟩).z % PP=(d8 ⟨x,y,1⟩).y % PP) && ckL n (rdL 32 l) (rdL 32 (l.drop 64)) (l.drop 128)
def ckS(s:ByteArray):Bool:=decide (rdL 32 s.data.toList=bxN) && decide (rdL 32 (s.data.toList.drop 64)=byN) && ckL 31 bxN byN (s.data.toList.drop 128)
theorem ck_ex:ckS (e4d Tryz.f171)=true:=by kernel_rfl
theorem RN.d8{n:N3}{P:Ed.Pt}(h:RN n P)(s:Sml n):RN (d8 n) (Ed.Pt.mul 256 P):=by
 have:=(((((((h.d s).d Sml.d).d Sml.d).d Sml.d).d Sml.d).d Sml.d).d Sml.d).d Sml.d;have e:∀m,Ed.Pt.mul m P + Ed.Pt.mul m P=Ed.Pt.mul (2 * m) P:=fun m=>by rw [←Ed.Pt.mul_add,Nat.two_mul]
 have e1:P + P=Ed.Pt.mul 2 P:=by have:=e 1;rwa [Ed.Pt.d1j]at this
 rw [e1,e,e,e,e,e,e,e]at this;exact this
theorem RN.plain{n:N3}{P:Ed.Pt}{x y:Nat}(h:RN n P)(hx:x * n.z % PP=n.x % PP)(hy:y * n.z % PP=n.y % PP):P.x=Ed.mk x∧P.y=Ed.mk y:=by
 have hz:=h.z;have c:∀a b z:Ed.Fq,z≠0→a * z=b * z→a=b:=fun a b z h0 e=>by
  have e2:(a - b) * z=0:=by grind
  exact(Ed.a3t e2).elim a7t fun e=>absurd e h0
 exact⟨c _ _ _ hz (h.x.trans ((Ed.mk_eq.2 hx.symm).trans (a4p _ _))),c _ _ _ hz (h.y.trans ((Ed.mk_eq.2 hy.symm).trans (a4p _ _)))⟩
theorem d6v:∀(n x y:Nat) (l:List UInt8) (P:Ed.Pt),ckL n x y l=true→x < PP→y < PP→P.x=Ed.mk x→P.y=Ed.mk y→∀i,i < n→
 rdL 32 (l.drop (128 * i)) < PP∧rdL 32 (l.drop (128 * i + 64)) < PP∧(Ed.Pt.mul (256 ^ (i + 1)) P).x=Ed.mk (rdL 32 (l.drop (128 * i)))∧(Ed.Pt.mul (256 ^ (i + 1)) P).y=Ed.mk (rdL 32 (l.drop (128 * i + 64)))
 | 0,_,_,_,_,_,_,_,_,_,i,hi=>absurd hi (by omega)
 | n + 1,x,y,l,P,h,hx,hy,hPx,hPy,i,hi=>by
   unfold ckL at h;simp only [Bool.and_eq_true,decide_eq_true_eq]at h;obtain⟨⟨⟨⟨h1,h2⟩,h3⟩,h4⟩,h5⟩:=h;have hr:RN ⟨x,y,1⟩ P:=⟨b6p,by rw [hPx];show Ed.mk x * 1=Ed.mk x;grind,by rw [hPy];show Ed.mk y * 1=Ed.mk y;grind⟩;obtain⟨e1,e2⟩:=(hr.d8 ⟨hx,hy⟩).plain h3 h4
   cases i with
   | zero=>
     rw [Nat.mul_zero,Nat.zero_add,List.drop_zero,Nat.zero_add,Nat.pow_one];exact⟨h1,h2,e1,e2⟩
   | succ i=>
     have ih:=d6v n _ _ _ (Ed.Pt.mul 256 P) h5 h1 h2 e1 e2 i (by omega);rw [List.drop_drop,List.drop_drop,←Ed.Pt.a7d,show 256 * 256 ^ (i + 1)=256 ^ (i + 1 + 1)from by rw [Nat.pow_succ _ (i + 1),Nat.mul_comm],show 128 + 128 * i=128 * (i + 1)from by omega,show 128 + (128 * i + 64)=128 * (i + 1) + 64 from by omega]at ih;exact ih
theorem e7o{s:ByteArray}(h:ckS s=true):∀i,i < 32→rdL 32 (s.data.toList.drop (128 * i)) < PP∧rdL 32 (s.data.toList.drop (128 * i + 64)) < PP∧(Ed.Pt.mul (256 ^ i) BB).x=Ed.mk (rdL 32 (s.data.toList.drop (128 * i)))∧(Ed.Pt.mul (256 ^ i) BB).y=Ed.mk (rdL 32 (s.data.toList.drop (128 * i + 64))):=by
 intro i hi;unfold ckS at h;simp only [Bool.and_eq_true,decide_eq_true_eq]at h;obtain⟨⟨h1,h2⟩,h3⟩:=h
 cases i with
 | zero=>
   rw [Nat.mul_zero,Nat.zero_add,List.drop_zero,Nat.pow_zero,Ed.Pt.d1j,h1,h2];exact⟨by decide +kernel,by decide +kernel,rfl,rfl⟩
 | succ i=>
   have:=d6v 31 _ _ _ BB h3 (by decide +kernel) (by decide +kernel) rfl rfl i (by omega);rw [List.drop_drop,List.drop_drop,show 128 + 128 * i=128 * (i + 1)from by omega,show 128 + (128 * i + 64)=128 * (i + 1) + 64 from by omega]at this;exact this
theorem c7y{s:ByteArray}(hs:s.size=4096)(j:Nat)(hj:j < 4096):∃a,s.data.toList.drop j=a :: s.data.toList.drop (j + 1)∧a.toNat=stB s j:=by
 have hl:s.data.toList.length=4096:=by rw [Array.length_toList];exact hs
 refine⟨s.data.toList[j]'(by omega),List.drop_eq_getElem_cons (by omega),?_⟩;have hsz:s.data.size=4096:=hs;unfold stB;simp [Array.getD,hsz,hj]
theorem rd_hx{s:ByteArray}(hs:Lad s):∀k m,m + k≤2048→leV ((List.range k).map fun i=>UInt8.ofNat (nv s (m + i)))=rdL k (s.data.toList.drop (2 * m))
 | 0,_,_=>rfl
 | k + 1,m,h=>by
   have ih:=rd_hx hs k (m + 1) (by omega);obtain⟨a,ea,va⟩:=c7y hs.size (2 * m) (by omega);obtain⟨b,eb,vb⟩:=c7y hs.size (2 * m + 1) (by omega);have n1:=c1y (hs.hex (2 * m) (by omega));have n2:=c1y (hs.hex (2 * m + 1) (by omega));rw [List.range_succ_eq_map,List.map_cons,List.map_map,leV,ea,eb,rdL,va,vb];have e:(UInt8.ofNat (nv s (m + 0))).toNat=nib (stB s (2 * m)) * 16 + nib (stB s (2 * m + 1)):=by
    unfold nv;rw [Nat.add_zero];simp;omega
   rw [e];congr 2;rw [show 2 * m + 1 + 1=2 * (m + 1)from by omega,←ih];congr 1;refine List.map_congr_left fun i _=>?_
   show UInt8.ofNat (nv s (m + (i + 1)))=UInt8.ofNat (nv s (m + 1 + i));rw [show m + (i + 1)=m + 1 + i from by omega]
theorem hx_rd{s:ByteArray}(hs:Lad s)(m:Nat)(h:m < 64):leV (hx s m)=rdL 32 (s.data.toList.drop (64 * m)):=by
 unfold hx;rw [rd_hx hs 32 (32 * m) (by omega),show 2 * (32 * m)=64 * m from by omega]
theorem la_rp{s:ByteArray}(hs:Lad s)(hc:ckS s=true)(i:Nat)(hi:i < 32):Rp (laQ s i) (Ed.Pt.mul (256 ^ i) BB):=by
 obtain⟨h1,h2,h3,h4⟩:=e7o hc i hi;have e1:=hx_rd hs (2 * i) (by omega);have e2:=hx_rd hs (2 * i + 1) (by omega);rw [show 64 * (2 * i)=128 * i from by omega]at e1;rw [show 64 * (2 * i + 1)=128 * i + 64 from by omega]at e2;rw [←e1]at h1 h3;rw [←e2]at h2 h4;exact Rp.af (a3q _) (a3q _) (h3.trans (b6i _ (decide_eq_true h1)).symm) (h4.trans (b6i _ (decide_eq_true h2)).symm)
theorem mul_rp{s:ByteArray}(hs:Lad s)(hc:ckS s=true){p:P4}{P:Ed.Pt}(h:Rq p P){X:Nat}(hX:X < b4o):Rp (mulQ s p X) (Ed.Pt.mul X P):=by
 unfold mulQ
 cases hb:p.same baQ with
 | true=>
   rw [if_pos rfl,d6a c3t h hb];exact ba_rp (la_rp hs hc) hX
 | false=>
   rw [if_neg (by simp)];exact mu_rp h hX
end Go.Proofs.YtdbngnlpafcogaaGreat
namespace Go.Proofs.YtdbngnlpafcogaaGreat
open Go.RowKit Go.Mem Go.Txt
theorem c6c{X:Nat}(h:X < b4o):X < 2 ^ (8 * 32):=by rw [b1z]at h;exact h
abbrev BsC(b:P4):Prop:=∀W,Calls Tryz.prog 31 #[] W fun e w'=>e= .returned b.v∧Kept [] W w'
theorem base_e:∃b,BsC b∧Rq b BB:=⟨baQ,b5c,c3t.q⟩
theorem hash_e{p:P4}{P:Ed.Pt}(h:Rq p P):PhC p (enc P):=by
 have:=d6f h.ok
 rwa [h.enc]at this
abbrev NgC(p r:P4):Prop:=P1C 52 p r
theorem neg_e{p:P4}{P:Ed.Pt}(h:Rq p P):∃r,NgC p r∧Rq r P.neg:=⟨ngQ p,neg_c h.ok,h.ng.q⟩
theorem mul_e{p:P4}{P:Ed.Pt}(h:Rq p P){X:Nat}(hX:X < b4o):∃r,MuC p X r∧Rq r (Ed.Pt.mul X P):=⟨_,mul_c e2i h.ok X,(mul_rp e2i ck_ex h hX).q⟩
theorem both_e{p:P4}{P:Ed.Pt}(h:Rq p P){X Y:Nat}(hX:X < b4o)(hY:Y < b4o):∃r,BoC p X Y r∧Rq r (Ed.Pt.mul X BB + Ed.Pt.mul Y P):=⟨_,d8v h.ok X Y,(bo_rp c3t.q h hX hY).q⟩
theorem d4m{p:P4}{P:Ed.Pt}(h:Rq p P):∀k,Rq (adN p k) (Ed.Pt.mul (2 ^ k) P)
 | 0=>by rw [Nat.pow_zero,Ed.Pt.d1j];exact h
 | k + 1=>by
   have:=((d4m h k).ad (d4m h k)).q;rw [←Ed.Pt.mul_add,←Nat.two_mul,Nat.mul_comm,←Nat.pow_succ]at this;exact this
theorem c6w:enc Ed.Pt.zero=1:=by
 unfold enc;rw [c7z,c6l];decide +kernel
theorem one_lt:1 < b4o:=by decide +kernel
theorem d4f{P:Ed.Pt}:enc P=1↔P=Ed.Pt.zero:=⟨fun h=>c5p (h.trans c6w.symm),fun h=>by rw [h,c6w]⟩
theorem smB_eq{p:P4}{P:Ed.Pt}(h:Rq p P):smB p=decide (enc (Ed.Pt.mul 8 P)=1):=by
 unfold smB;rw [(d4m h 3).enc,d3l _ _ (c6c (c1k _)) (c6c one_lt)]
abbrev SaC(p:P4)(b:Bool):Prop:=∀W,Calls Tryz.prog 49 #[p.v] W fun e w'=>e= .returned (.bool b)∧Kept [] W w'
theorem e7w{p:P4}{P:Ed.Pt}(h:Rq p P):SaC p (decide (enc (Ed.Pt.mul 8 P)=1)):=by
 have:=fun W=>d0u h.ok W
 rwa [smB_eq h]at this
theorem dec_e(P:Ed.Pt):∃r,DeC (enc P) r 0∧Rq r P:=by
 have:=dec_c (enc P);rw [c4w _ (c6p P)]at this;exact⟨_,this,(e6i P).q⟩
theorem dec_n{X:Nat}(h:b3a X=false):DeC X pz 50:=by
 have:=dec_c X
 rwa [b7k _ h,b8u _ h]at this
end Go.Proofs.YtdbngnlpafcogaaGreat
namespace Go.Proofs.YtdbngnlpafcogaaGreat
open Go.RowKit Go.Mem Go.Txt
theorem d5w{l m:List UInt8}{b:Bool}(h:(l == m)=b)(h1:l.length=32)(h2:m.length=32)(W:World):(Op.equalIn 10000 22 (ab l) (ab m)).run Tryz.prog W= .ok b W:=by
 have:=a3r a2u Tryz.underlying5 (by kernel_rfl) l m h1 h2 W
 rwa [h]at this
theorem c6m{a:Act}{o:Oper}{u:World}{l m:List UInt8}{b:Bool}(x y:Operand){r:TypeId}(ho:o.op= .binOp .eql 22 x y r)(hx:a.eval x=ab l)(hy:a.eval y=ab m)(h:(l == m)=b)(h1:l.length=32)(h2:m.length=32):(execOp a.eval o).run Tryz.prog u= .ok (.value (.bool b)) u:=
 (c5n a2u Tryz.underlying5 (by kernel_rfl) (by kernel_rfl) x y ho hx hy h1 h2).trans (by rw [h])
abbrev MsC(p:P4)(l:List UInt8)(r:P4):Prop:=∀W,Calls Tryz.prog 32 #[p.v,ab l] W fun e w'=>e= .returned r.v∧Kept [] W w'
abbrev HsC(p:P4)(l:List UInt8):Prop:=∀W,Calls Tryz.prog 33 #[p.v] W fun e w'=>e= .returned (ab l)∧Kept [] W w'
abbrev BosC(l:List UInt8)(p:P4)(m:List UInt8)(r:P4):Prop:=∀W,Calls Tryz.prog 51 #[ab l,p.v,ab m] W fun e w'=>e= .returned r.v∧Kept [] W w'
abbrev DsC(l:List UInt8)(r:P4)(z:Int):Prop:=∀W,Calls Tryz.prog 48 #[ab l] W fun e w'=>e= .returned (.tuple #[r.v,.int .i64 z])∧Kept [] W w'
theorem d9n{l:List UInt8}(h:l.length=32):leV l < b4o:=by
 have:=b5k l;rw [h]at this;rw [b1z];exact this
theorem d0p{l:List UInt8}(h:l.length=32):le (leV l) 32=l:=by
 have:=b8p l
 rwa [h]at this
theorem mul_s{p:P4}{P:Ed.Pt}(h:Rq p P){l:List UInt8}(hl:l.length=32):∃r,MsC p l r∧Rq r (Ed.Pt.mul (leV l) P):=by
 obtain⟨r,c,hr⟩:=mul_e h (d9n hl);unfold MuC at c;rw [d0p hl]at c;exact⟨r,c,hr⟩
theorem both_s{p:P4}{P:Ed.Pt}(h:Rq p P){l m:List UInt8}(hl:l.length=32)(hm:m.length=32):∃r,BosC l p m r∧Rq r (Ed.Pt.mul (leV l) BB + Ed.Pt.mul (leV m) P):=by
 obtain⟨r,c,hr⟩:=both_e h (d9n hl) (d9n hm);unfold BoC at c;rw [d0p hl,d0p hm]at c;exact⟨r,c,hr⟩
theorem e1z{p:P4}{P Q:Ed.Pt}(h:Rq p P)(e:P=Q):HsC p (le (enc Q) 32):=by rw [←e];exact hash_e h
theorem dec_s{P Q:Ed.Pt}{l:List UInt8}(hl:l=le (enc Q) 32)(e:Q=P):∃r,DsC l r 0∧Rq r P:=by
 subst e;obtain⟨r,c,hr⟩:=dec_e Q;rw [hl];exact⟨r,c,hr⟩
theorem b6r(xs:Array Value)(w:World):(callFunc 32 xs).run Tryz.prog w= .ok (.enter 32 xs) w:=enters_of (c:=_) Tryz.func32 (by kernel_rfl) rfl xs w
theorem a9p(xs:Array Value)(w:World):(callFunc 33 xs).run Tryz.prog w= .ok (.enter 33 xs) w:=enters_of (c:=_) Tryz.func33 (by kernel_rfl) rfl xs w
theorem c5e(xs:Array Value)(w:World):(callFunc 52 xs).run Tryz.prog w= .ok (.enter 52 xs) w:=enters_of (c:=_) Tryz.func52 (by kernel_rfl) rfl xs w
end Go.Proofs.YtdbngnlpafcogaaGreat
